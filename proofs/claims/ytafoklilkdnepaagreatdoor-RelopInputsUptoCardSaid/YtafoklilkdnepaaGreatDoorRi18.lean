/- Part 18 of the texts of this proof, one behind the other. No condition beyond those that its theorems state. -/
import Derived.Test.YtafoklilkdnepaaGreatDoorRi17
set_option maxRecDepth 40000
set_option maxHeartbeats 25600000
namespace Go.Proofs.YtafoklilkdnepaaGreatDoor
section
open Go.RowKit
attribute [local go_sem ↓] Go.wp_at_zero Go.wp_at_succ
theorem bitIf_4 (v:VD):bitIf 4 (v,0)=(bitV v.tru,0):=if_pos ⟨rfl,rfl⟩
theorem bitIf_k {k:Int} (h:k≠4) (r:VD × Int):bitIf k r=r:=if_neg fun q=>h q.2
theorem bitIf_e (k:Int) (v:VD) {c:Int} (h:c≠0):bitIf k (v,c)=(v,c):=if_neg fun q=>h q.1
def EvalSaid (n:Nat):Prop:=∀ (e:TX n) (x:XC) (CA:Option Addr) (cc cm:Nat) (cs:List CD) (_:cs.length=cm) (RB:Option Addr) (rc rm:Nat) (row:List VD) (_:row.length=rm) (w:World),
  ExP xcE anyB n w x e->ColsAt w CA cs->ValsAt w RB row->cm<=140737000000000->row.length=cs.length->okX cs n e->(∀ v∈row,v.text.size<=140737000000000)->allX (fun q=>q.v.text.size<=140737000000000) n e ->
  Calls Tryz.prog 107 #[x.val,.slice CA cm cc,.slice RB rm rc] w fun r w'=>r=.returned (.tuple #[(evalX cs row n e).1.val,.int .i64 (evalX cs row n e).2])/\Touch [] w w'
def toldV (r:Option (VD × Int)):Value:=match r with
 | some z=>.tuple #[z.1.val,.int .i64 z.2,.bool true]
 | none=>.tuple #[zeroV.val,.int .i64 0,.bool false]
theorem lazy_any (n:Nat) (ih:EvalSaid n) (x:XC) (args:List (TX n)) (v:VD) (CA:Option Addr) (cc cm:Nat) (cs:List CD) (hcm:cs.length=cm) (RB:Option Addr) (rc rm:Nat) (row:List VD) (hrm:row.length=rm) (w:World)
  (hxn:x.n=args.length) (ha:ArgsP xcE anyB n w x.A args) (hcs:ColsAt w CA cs) (hrow:ValsAt w RB row) (hmb:cm<=140737000000000) (hrl:row.length=cs.length) (hok:∀ a∈args,okX cs n a)
  (hrt:∀ v∈row,v.text.size<=140737000000000) (hall:∀ a∈args,allX (fun q=>q.v.text.size<=140737000000000) n a)
  (hq2:∀ q,lazyV x.nd v=some (.inr q)->q < args.length) :
  Calls Tryz.prog 148 #[x.val,.slice CA cm cc,.slice RB rm rc,v.val] w fun r w'=>r=.returned (toldV (lazyX (evalX cs row n) x.nd args v))/\Touch [] w w':=by
 have htr:=fun w'=>true_any v w'
 obtain ⟨tr,htre⟩:∃ tr,tr=v.tru:=⟨_,rfl⟩
 rw [<- htre] at htr
 obtain ⟨⟨k,nm,⟨vk,vn,vt⟩,op⟩,A,m,c⟩:=x
 obtain ⟨k1,n1,s1⟩:=v
 dsimp only at hxn ha hq2
 subst hxn
 dsimp only [XC.val,VD.val]
 have t0:=(((Touch.refl [] w).alloc (.cells #[.int .i64 k,.string nm,.int .i64 vk,.int .i64 vn,.string vt,.string op,.slice A args.length c] 44)).alloc (.cells #[.int .i64 k1,.int .i64 n1,.string s1] 31)).alloc (.cells #[.int .i64 0,.int .i64 0,.string ⟨#[]⟩] 31)
 have hb1:=(((Touch.refl [] (w.alloc (.cells #[.int .i64 k,.string nm,.int .i64 vk,.int .i64 vn,.string vt,.string op,.slice A args.length c] 44))).alloc (.cells #[.int .i64 k1,.int .i64 n1,.string s1] 31)).alloc (.cells #[.int .i64 0,.int .i64 0,.string ⟨#[]⟩] 31)).blk (heap_alloc_new w (.cells #[.int .i64 k,.string nm,.int .i64 vk,.int .i64 vn,.string vt,.string op,.slice A args.length c] 44)) (by simp)
 have hb2:=((Touch.refl [] ((w.alloc (.cells #[.int .i64 k,.string nm,.int .i64 vk,.int .i64 vn,.string vt,.string op,.slice A args.length c] 44)).alloc (.cells #[.int .i64 k1,.int .i64 n1,.string s1] 31))).alloc (.cells #[.int .i64 0,.int .i64 0,.string ⟨#[]⟩] 31)).blk (heap_alloc_new (w.alloc (.cells #[.int .i64 k,.string nm,.int .i64 vk,.int .i64 vn,.string vt,.string op,.slice A args.length c] 44)) (.cells #[.int .i64 k1,.int .i64 n1,.string s1] 31)) (by simp)
 have hbr:=heap_alloc_new ((w.alloc (.cells #[.int .i64 k,.string nm,.int .i64 vk,.int .i64 vn,.string vt,.string op,.slice A args.length c] 44)).alloc (.cells #[.int .i64 k1,.int .i64 n1,.string s1] 31)) (.cells #[.int .i64 0,.int .i64 0,.string ⟨#[]⟩] 31)
 simp only [World.size_alloc] at hb2 hbr
 obtain ⟨W,hW⟩:∃ W,W=((w.alloc (.cells #[.int .i64 k,.string nm,.int .i64 vk,.int .i64 vn,.string vt,.string op,.slice A args.length c] 44)).alloc (.cells #[.int .i64 k1,.int .i64 n1,.string s1] 31)).alloc (.cells #[.int .i64 0,.int .i64 0,.string ⟨#[]⟩] 31):=⟨_,rfl⟩
 rw [<- hW] at hb1 hb2 hbr t0
 have HW:=lh hW;have Hb1:=lh hb1;have Hb2:=lh hb2;have Hbr:=lh hbr;have T0:=lh t0
 have Hnull:=lh fun w'=>vnull_any w'
 have Hof:=lh fun n w'=>of_any n w'
 simp only [VD.val,zeroV,ofV,S] at Hnull Hof
 clear hW hb1 hb2 hbr t0
 simp only [VD.val] at htr
 have HbT:=lh fun w'=>bit_any true w'
 have HbF:=lh fun w'=>bit_any false w'
 simp only [bitV,if_true,Bool.false_eq_true,if_false,VD.val,ofV,S] at HbT HbF
 have Htr:=lh htr
 have q1:=beq_S op [97,110,100]
 have q2:=beq_S op [111,114]
 have q3:=beq_S nm [101,105,116,104,101,114]
 have q4:=beq_S nm [105,102]
 have hst:lazyV ⟨k,nm,⟨vk,vn,vt⟩,op⟩ ⟨k1,n1,s1⟩=(if op=wAnd then (if tr=true then some (.inr 1) else some (.inl (ofV 0))) else if op=wOr then (if tr=true then some (.inl (ofV 1)) else some (.inr 1)) else if nm=wEither then (if k1=0 then some (.inr 1) else some (.inl ⟨k1,n1,s1⟩)) else if nm=wIf then some (.inr (if tr=true then 1 else 2)) else none):=by
  rw [htre];rfl
 clear htre htr
 by_cases h1:op=wAnd
 ·rw [decide_eq_true (p:=op=S [97,110,100]) h1] at q1
  rw [if_pos h1] at hst
  clear h1 q2 q3 q4
  cases tr
  ·rw [if_neg (by simp)] at hst
   have Hf:=lh (show lazyX (evalX cs row n) ⟨k,nm,⟨vk,vn,vt⟩,op⟩ args ⟨k1,n1,s1⟩=some (ofV 0,(0:Int)) by unfold lazyX;rw [hst])
   clear hst hq2
   go_enter Tryz.func148,Tryz.ntmps148
   go_wp2_with fail
   rw [<- HW.out]
   refine (Htr.out _).mono ?_
   rintro e w1 ⟨rfl,u1⟩
   obtain ⟨a0,a1,a2,a3,a4,a5,a6,_⟩:=blk7 (u1.blk Hb1.out (by simp))
   obtain ⟨b0,b1,b2,_⟩:=blk3x (u1.blk Hb2.out (by simp))
   obtain ⟨r0,r1,r2,f0,f1,f2⟩:=blk3x (u1.blk Hbr.out (by simp))
   go_wp2_with fail
   clear a0 a1 a2 b0 b1 b2 r0 r1 r2 f0 f1 f2 a3 a4 a5 a6
   refine (Hof.out 0 _).mono ?_
   rintro e w2 ⟨rfl,u2⟩
   obtain ⟨a0,a1,a2,a3,a4,a5,a6,_⟩:=blk7 (u2.blk (u1.blk Hb1.out (by simp)) (by simp))
   obtain ⟨b0,b1,b2,_⟩:=blk3x (u2.blk (u1.blk Hb2.out (by simp)) (by simp))
   obtain ⟨r0,r1,r2,f0,f1,f2⟩:=blk3x (u2.blk (u1.blk Hbr.out (by simp)) (by simp))
   go_wp2_with fail
   obtain ⟨q1,q2⟩:=out3 (u2.blk (u1.blk Hbr.out (by simp)) (by simp)) (.int .i64 1) (.int .i64 0) (.string ⟨#[]⟩)
   obtain ⟨d0,d1,d2,_⟩:=blk3x q1
   refine bodyPost_ret (v:=.tuple #[.agg #[.int .i64 1,.int .i64 0,.string ⟨#[]⟩],.int .i64 (0),.bool true]) (by simp [results,Tryz.results148,go_sem,d0,d1,d2]) rfl ⟨?_,((T0.out.trans0 u1).trans0 u2).trans q2 (fun b hb=>.inr (by simp at hb;omega))⟩
   rw [Hf.out];rfl
  ·rw [if_pos rfl] at hst
   have hlv:=hst;have hq:=hq2 1 hst;clear hst hq2
   obtain ⟨ad,b,off,y,rfl,hadd,hy,hcell⟩:=ha.at_ xcE_length 1 hq
   have Hev:=lh fun w' (t:Touch [] w w')=>ih args[1] y CA cc cm cs hcm RB rc rm row hrm w' (hy.touch0 t) (hcs.touch0 t) (hrow.touch0 t) hmb hrl (hok _ (List.getElem_mem hq)) hrt (hall _ (List.getElem_mem hq))
   have hlz:lazyX (evalX cs row n) ⟨k,nm,⟨vk,vn,vt⟩,op⟩ args ⟨k1,n1,s1⟩=some (bitIf k (evalX cs row n args[1])):=by unfold lazyX;rw [hlv];simp only;rw [List.getElem?_eq_getElem hq]
   obtain ⟨⟨⟨rk,rn,rs⟩,rx⟩,hre⟩:∃ r,r=evalX cs row n args[1]:=⟨_,rfl⟩
   rw [<- hre] at hlz Hev
   obtain ⟨⟨k2,nm2,⟨vk2,vn2,vt2⟩,op2⟩,A2,m2,c2'⟩:=y
   simp only [XC.val,VD.val] at Hev
   have c0:=hcell 0 _ rfl;have c1:=hcell 1 _ rfl;have c2:=hcell 2 _ rfl;have c3:=hcell 3 _ rfl;have c4:=hcell 4 _ rfl;have c5:=hcell 5 _ rfl;have c6:=hcell 6 _ rfl
   rw [Nat.add_zero] at c0
   simp only at c0 c1 c2 c3 c4 c5 c6
   have hqI:(1:Int) < (args.length:Int):=by omega
   have C0:=lh c0;have C1:=lh c1;have C2:=lh c2;have C3:=lh c3;have C4:=lh c4;have C5:=lh c5;have C6:=lh c6
   clear hcell c0 c1 c2 c3 c4 c5 c6 hy hre hlv hq
   by_cases hx:rx=0
   ·subst hx
    by_cases hk4:k=4
    ·subst hk4
     have Hf:=lh (hlz.trans (congrArg some (bitIf_4 ⟨rk,rn,rs⟩)))
     have Ht2:=lh fun w'=>true_any ⟨rk,rn,rs⟩ w'
     simp only [VD.val] at Ht2
     rcases htv:VD.tru ⟨rk,rn,rs⟩ with _ | _
     ·rw [htv] at Ht2 Hf;simp only [bitV,Bool.false_eq_true,if_false] at Hf;clear htv hlz
      go_enter Tryz.func148,Tryz.ntmps148
      go_wp2_with fail
      rw [<- HW.out]
      refine (Htr.out _).mono ?_
      rintro e w1 ⟨rfl,u1⟩
      obtain ⟨a0,a1,a2,a3,a4,a5,a6,_⟩:=blk7 (u1.blk Hb1.out (by simp))
      obtain ⟨b0,b1,b2,_⟩:=blk3x (u1.blk Hb2.out (by simp))
      obtain ⟨r0,r1,r2,f0,f1,f2⟩:=blk3x (u1.blk Hbr.out (by simp))
      have c0:=(T0.out.trans0 u1).cell C0.out (by simp)
      have c1:=(T0.out.trans0 u1).cell C1.out (by simp)
      have c2:=(T0.out.trans0 u1).cell C2.out (by simp)
      have c3:=(T0.out.trans0 u1).cell C3.out (by simp)
      have c4:=(T0.out.trans0 u1).cell C4.out (by simp)
      have c5:=(T0.out.trans0 u1).cell C5.out (by simp)
      have c6:=(T0.out.trans0 u1).cell C6.out (by simp)
      go_wp2_with fail
      clear a0 a1 a2 b0 b1 b2 r0 r1 r2 f0 f1 f2 a3 a4 a5 a6 c0 c1 c2 c3 c4 c5 c6
      refine (Hev.out _ (T0.out.trans0 u1)).mono ?_
      rintro e w2 ⟨rfl,u2⟩
      have tb:=(Touch.refl [] w2).alloc (.cells #[.int .i64 rk,.int .i64 rn,.string rs] 31)
      have hbz:=heap_alloc_new w2 (.cells #[.int .i64 rk,.int .i64 rn,.string rs] 31)
      have hzl:=(Array.getElem?_eq_some_iff.1 (u2.blk (u1.blk Hbr.out (by simp)) (by simp))).1
      obtain ⟨z0,z1,z2,_⟩:=blk3x hbz
      obtain ⟨a0,a1,a2,a3,a4,a5,a6,_⟩:=blk7 (tb.blk (u2.blk (u1.blk Hb1.out (by simp)) (by simp)) (by simp))
      obtain ⟨b0,b1,b2,_⟩:=blk3x (tb.blk (u2.blk (u1.blk Hb2.out (by simp)) (by simp)) (by simp))
      obtain ⟨r0,r1,r2,f0,f1,f2⟩:=blk3x (tb.blk (u2.blk (u1.blk Hbr.out (by simp)) (by simp)) (by simp))
      go_wp2_with fail
      clear a0 a1 a2 b0 b1 b2 r0 r1 r2 f0 f1 f2 a3 a4 a5 a6 z0 z1 z2
      refine (Ht2.out _).mono ?_
      rintro e w3 ⟨rfl,u3⟩
      obtain ⟨a0,a1,a2,a3,a4,a5,a6,_⟩:=blk7 (u3.blk (tb.blk (u2.blk (u1.blk Hb1.out (by simp)) (by simp)) (by simp)) (by simp))
      obtain ⟨b0,b1,b2,_⟩:=blk3x (u3.blk (tb.blk (u2.blk (u1.blk Hb2.out (by simp)) (by simp)) (by simp)) (by simp))
      obtain ⟨r0,r1,r2,f0,f1,f2⟩:=blk3x (u3.blk (tb.blk (u2.blk (u1.blk Hbr.out (by simp)) (by simp)) (by simp)) (by simp))
      go_wp2_with fail
      clear a0 a1 a2 b0 b1 b2 r0 r1 r2 f0 f1 f2 a3 a4 a5 a6
      refine (HbF.out _).mono ?_
      rintro e w4 ⟨rfl,u4⟩
      have hbz2:=u4.blk (u3.blk hbz (by simp)) (by simp)
      obtain ⟨z0,z1,z2,g0,g1,g2⟩:=blk3x hbz2
      obtain ⟨a0,a1,a2,a3,a4,a5,a6,_⟩:=blk7 (u4.blk (u3.blk (tb.blk (u2.blk (u1.blk Hb1.out (by simp)) (by simp)) (by simp)) (by simp)) (by simp))
      obtain ⟨b0,b1,b2,_⟩:=blk3x (u4.blk (u3.blk (tb.blk (u2.blk (u1.blk Hb2.out (by simp)) (by simp)) (by simp)) (by simp)) (by simp))
      obtain ⟨r0,r1,r2,f0,f1,f2⟩:=blk3x (u4.blk (u3.blk (tb.blk (u2.blk (u1.blk Hbr.out (by simp)) (by simp)) (by simp)) (by simp)) (by simp))
      go_wp2_with fail
      obtain ⟨y1,y2⟩:=out3 hbz2 (.int .i64 1) (.int .i64 0) (.string ⟨#[]⟩)
      have hrz:=y2.blk (u4.blk (u3.blk (tb.blk (u2.blk (u1.blk Hbr.out (by simp)) (by simp)) (by simp)) (by simp)) (by simp)) (by simp only [List.mem_singleton];omega)
      obtain ⟨q1,q2⟩:=out3 hrz (.int .i64 1) (.int .i64 0) (.string ⟨#[]⟩)
      obtain ⟨d0,d1,d2,_⟩:=blk3x q1
      refine bodyPost_ret (v:=.tuple #[.agg #[.int .i64 1,.int .i64 0,.string ⟨#[]⟩],.int .i64 0,.bool true]) (by simp [results,Tryz.results148,go_sem,d0,d1,d2]) rfl ⟨?_,((((((T0.out.trans0 u1).trans0 u2).trans0 tb).trans0 u3).trans0 u4).trans y2 (fun b hb=>.inr (by simp at hb;omega))).trans q2 (fun b hb=>.inr (by simp at hb;omega))⟩
      rw [Hf.out];rfl
     ·rw [htv] at Ht2 Hf;simp only [bitV,if_true] at Hf;clear htv hlz
      go_enter Tryz.func148,Tryz.ntmps148
      go_wp2_with fail
      rw [<- HW.out]
      refine (Htr.out _).mono ?_
      rintro e w1 ⟨rfl,u1⟩
      obtain ⟨a0,a1,a2,a3,a4,a5,a6,_⟩:=blk7 (u1.blk Hb1.out (by simp))
      obtain ⟨b0,b1,b2,_⟩:=blk3x (u1.blk Hb2.out (by simp))
      obtain ⟨r0,r1,r2,f0,f1,f2⟩:=blk3x (u1.blk Hbr.out (by simp))
      have c0:=(T0.out.trans0 u1).cell C0.out (by simp)
      have c1:=(T0.out.trans0 u1).cell C1.out (by simp)
      have c2:=(T0.out.trans0 u1).cell C2.out (by simp)
      have c3:=(T0.out.trans0 u1).cell C3.out (by simp)
      have c4:=(T0.out.trans0 u1).cell C4.out (by simp)
      have c5:=(T0.out.trans0 u1).cell C5.out (by simp)
      have c6:=(T0.out.trans0 u1).cell C6.out (by simp)
      go_wp2_with fail
      clear a0 a1 a2 b0 b1 b2 r0 r1 r2 f0 f1 f2 a3 a4 a5 a6 c0 c1 c2 c3 c4 c5 c6
      refine (Hev.out _ (T0.out.trans0 u1)).mono ?_
      rintro e w2 ⟨rfl,u2⟩
      have tb:=(Touch.refl [] w2).alloc (.cells #[.int .i64 rk,.int .i64 rn,.string rs] 31)
      have hbz:=heap_alloc_new w2 (.cells #[.int .i64 rk,.int .i64 rn,.string rs] 31)
      have hzl:=(Array.getElem?_eq_some_iff.1 (u2.blk (u1.blk Hbr.out (by simp)) (by simp))).1
      obtain ⟨z0,z1,z2,_⟩:=blk3x hbz
      obtain ⟨a0,a1,a2,a3,a4,a5,a6,_⟩:=blk7 (tb.blk (u2.blk (u1.blk Hb1.out (by simp)) (by simp)) (by simp))
      obtain ⟨b0,b1,b2,_⟩:=blk3x (tb.blk (u2.blk (u1.blk Hb2.out (by simp)) (by simp)) (by simp))
      obtain ⟨r0,r1,r2,f0,f1,f2⟩:=blk3x (tb.blk (u2.blk (u1.blk Hbr.out (by simp)) (by simp)) (by simp))
      go_wp2_with fail
      clear a0 a1 a2 b0 b1 b2 r0 r1 r2 f0 f1 f2 a3 a4 a5 a6 z0 z1 z2
      refine (Ht2.out _).mono ?_
      rintro e w3 ⟨rfl,u3⟩
      obtain ⟨a0,a1,a2,a3,a4,a5,a6,_⟩:=blk7 (u3.blk (tb.blk (u2.blk (u1.blk Hb1.out (by simp)) (by simp)) (by simp)) (by simp))
      obtain ⟨b0,b1,b2,_⟩:=blk3x (u3.blk (tb.blk (u2.blk (u1.blk Hb2.out (by simp)) (by simp)) (by simp)) (by simp))
      obtain ⟨r0,r1,r2,f0,f1,f2⟩:=blk3x (u3.blk (tb.blk (u2.blk (u1.blk Hbr.out (by simp)) (by simp)) (by simp)) (by simp))
      go_wp2_with fail
      clear a0 a1 a2 b0 b1 b2 r0 r1 r2 f0 f1 f2 a3 a4 a5 a6
      refine (HbT.out _).mono ?_
      rintro e w4 ⟨rfl,u4⟩
      have hbz2:=u4.blk (u3.blk hbz (by simp)) (by simp)
      obtain ⟨z0,z1,z2,g0,g1,g2⟩:=blk3x hbz2
      obtain ⟨a0,a1,a2,a3,a4,a5,a6,_⟩:=blk7 (u4.blk (u3.blk (tb.blk (u2.blk (u1.blk Hb1.out (by simp)) (by simp)) (by simp)) (by simp)) (by simp))
      obtain ⟨b0,b1,b2,_⟩:=blk3x (u4.blk (u3.blk (tb.blk (u2.blk (u1.blk Hb2.out (by simp)) (by simp)) (by simp)) (by simp)) (by simp))
      obtain ⟨r0,r1,r2,f0,f1,f2⟩:=blk3x (u4.blk (u3.blk (tb.blk (u2.blk (u1.blk Hbr.out (by simp)) (by simp)) (by simp)) (by simp)) (by simp))
      go_wp2_with fail
      obtain ⟨y1,y2⟩:=out3 hbz2 (.int .i64 1) (.int .i64 1) (.string ⟨#[]⟩)
      have hrz:=y2.blk (u4.blk (u3.blk (tb.blk (u2.blk (u1.blk Hbr.out (by simp)) (by simp)) (by simp)) (by simp)) (by simp)) (by simp only [List.mem_singleton];omega)
      obtain ⟨q1,q2⟩:=out3 hrz (.int .i64 1) (.int .i64 1) (.string ⟨#[]⟩)
      obtain ⟨d0,d1,d2,_⟩:=blk3x q1
      refine bodyPost_ret (v:=.tuple #[.agg #[.int .i64 1,.int .i64 1,.string ⟨#[]⟩],.int .i64 0,.bool true]) (by simp [results,Tryz.results148,go_sem,d0,d1,d2]) rfl ⟨?_,((((((T0.out.trans0 u1).trans0 u2).trans0 tb).trans0 u3).trans0 u4).trans y2 (fun b hb=>.inr (by simp at hb;omega))).trans q2 (fun b hb=>.inr (by simp at hb;omega))⟩
      rw [Hf.out];rfl
    ·have Hf:=lh (hlz.trans (congrArg some (bitIf_k hk4 (⟨rk,rn,rs⟩,0))))
     have q6:(k==4)=false:=by simpa using hk4
     clear hlz hk4
     go_enter Tryz.func148,Tryz.ntmps148
     go_wp2_with fail
     rw [<- HW.out]
     refine (Htr.out _).mono ?_
     rintro e w1 ⟨rfl,u1⟩
     obtain ⟨a0,a1,a2,a3,a4,a5,a6,_⟩:=blk7 (u1.blk Hb1.out (by simp))
     obtain ⟨b0,b1,b2,_⟩:=blk3x (u1.blk Hb2.out (by simp))
     obtain ⟨r0,r1,r2,f0,f1,f2⟩:=blk3x (u1.blk Hbr.out (by simp))
     have c0:=(T0.out.trans0 u1).cell C0.out (by simp)
     have c1:=(T0.out.trans0 u1).cell C1.out (by simp)
     have c2:=(T0.out.trans0 u1).cell C2.out (by simp)
     have c3:=(T0.out.trans0 u1).cell C3.out (by simp)
     have c4:=(T0.out.trans0 u1).cell C4.out (by simp)
     have c5:=(T0.out.trans0 u1).cell C5.out (by simp)
     have c6:=(T0.out.trans0 u1).cell C6.out (by simp)
     go_wp2_with fail
     clear a0 a1 a2 b0 b1 b2 r0 r1 r2 f0 f1 f2 a3 a4 a5 a6 c0 c1 c2 c3 c4 c5 c6
     refine (Hev.out _ (T0.out.trans0 u1)).mono ?_
     rintro e w2 ⟨rfl,u2⟩
     have tb:=(Touch.refl [] w2).alloc (.cells #[.int .i64 rk,.int .i64 rn,.string rs] 31)
     have hbz:=heap_alloc_new w2 (.cells #[.int .i64 rk,.int .i64 rn,.string rs] 31)
     obtain ⟨z0,z1,z2,_⟩:=blk3x hbz
     obtain ⟨a0,a1,a2,a3,a4,a5,a6,_⟩:=blk7 (tb.blk (u2.blk (u1.blk Hb1.out (by simp)) (by simp)) (by simp))
     obtain ⟨b0,b1,b2,_⟩:=blk3x (tb.blk (u2.blk (u1.blk Hb2.out (by simp)) (by simp)) (by simp))
     obtain ⟨r0,r1,r2,f0,f1,f2⟩:=blk3x (tb.blk (u2.blk (u1.blk Hbr.out (by simp)) (by simp)) (by simp))
     go_wp2_with fail
     obtain ⟨q1,q2⟩:=out3 (tb.blk (u2.blk (u1.blk Hbr.out (by simp)) (by simp)) (by simp)) (.int .i64 rk) (.int .i64 rn) (.string rs)
     obtain ⟨d0,d1,d2,_⟩:=blk3x q1
     refine bodyPost_ret (v:=.tuple #[.agg #[.int .i64 rk,.int .i64 rn,.string rs],.int .i64 (0),.bool true]) (by simp [results,Tryz.results148,go_sem,d0,d1,d2]) rfl ⟨?_,(((T0.out.trans0 u1).trans0 u2).trans0 tb).trans q2 (fun b hb=>.inr (by simp at hb;omega))⟩
     rw [Hf.out];rfl
   ·have Hf:=lh (hlz.trans (congrArg some (bitIf_e k ⟨rk,rn,rs⟩ hx)))
    have q6:(rx==0)=false:=by simpa using hx
    clear hlz hx
    go_enter Tryz.func148,Tryz.ntmps148
    go_wp2_with fail
    rw [<- HW.out]
    refine (Htr.out _).mono ?_
    rintro e w1 ⟨rfl,u1⟩
    obtain ⟨a0,a1,a2,a3,a4,a5,a6,_⟩:=blk7 (u1.blk Hb1.out (by simp))
    obtain ⟨b0,b1,b2,_⟩:=blk3x (u1.blk Hb2.out (by simp))
    obtain ⟨r0,r1,r2,f0,f1,f2⟩:=blk3x (u1.blk Hbr.out (by simp))
    have c0:=(T0.out.trans0 u1).cell C0.out (by simp)
    have c1:=(T0.out.trans0 u1).cell C1.out (by simp)
    have c2:=(T0.out.trans0 u1).cell C2.out (by simp)
    have c3:=(T0.out.trans0 u1).cell C3.out (by simp)
    have c4:=(T0.out.trans0 u1).cell C4.out (by simp)
    have c5:=(T0.out.trans0 u1).cell C5.out (by simp)
    have c6:=(T0.out.trans0 u1).cell C6.out (by simp)
    go_wp2_with fail
    clear a0 a1 a2 b0 b1 b2 r0 r1 r2 f0 f1 f2 a3 a4 a5 a6 c0 c1 c2 c3 c4 c5 c6
    refine (Hev.out _ (T0.out.trans0 u1)).mono ?_
    rintro e w2 ⟨rfl,u2⟩
    have tb:=(Touch.refl [] w2).alloc (.cells #[.int .i64 rk,.int .i64 rn,.string rs] 31)
    have hbz:=heap_alloc_new w2 (.cells #[.int .i64 rk,.int .i64 rn,.string rs] 31)
    obtain ⟨z0,z1,z2,_⟩:=blk3x hbz
    obtain ⟨a0,a1,a2,a3,a4,a5,a6,_⟩:=blk7 (tb.blk (u2.blk (u1.blk Hb1.out (by simp)) (by simp)) (by simp))
    obtain ⟨b0,b1,b2,_⟩:=blk3x (tb.blk (u2.blk (u1.blk Hb2.out (by simp)) (by simp)) (by simp))
    obtain ⟨r0,r1,r2,f0,f1,f2⟩:=blk3x (tb.blk (u2.blk (u1.blk Hbr.out (by simp)) (by simp)) (by simp))
    go_wp2_with fail
    obtain ⟨q1,q2⟩:=out3 (tb.blk (u2.blk (u1.blk Hbr.out (by simp)) (by simp)) (by simp)) (.int .i64 rk) (.int .i64 rn) (.string rs)
    obtain ⟨d0,d1,d2,_⟩:=blk3x q1
    refine bodyPost_ret (v:=.tuple #[.agg #[.int .i64 rk,.int .i64 rn,.string rs],.int .i64 (rx),.bool true]) (by simp [results,Tryz.results148,go_sem,d0,d1,d2]) rfl ⟨?_,(((T0.out.trans0 u1).trans0 u2).trans0 tb).trans q2 (fun b hb=>.inr (by simp at hb;omega))⟩
    rw [Hf.out];rfl
 rw [decide_eq_false (p:=op=S [97,110,100]) h1] at q1
 rw [if_neg h1] at hst
 clear h1
 by_cases h2:op=wOr
 ·rw [decide_eq_true (p:=op=S [111,114]) h2] at q2
  rw [if_pos h2] at hst
  clear h2 q3 q4
  cases tr
  ·rw [if_neg (by simp)] at hst
   have hlv:=hst;have hq:=hq2 1 hst;clear hst hq2
   obtain ⟨ad,b,off,y,rfl,hadd,hy,hcell⟩:=ha.at_ xcE_length 1 hq
   have Hev:=lh fun w' (t:Touch [] w w')=>ih args[1] y CA cc cm cs hcm RB rc rm row hrm w' (hy.touch0 t) (hcs.touch0 t) (hrow.touch0 t) hmb hrl (hok _ (List.getElem_mem hq)) hrt (hall _ (List.getElem_mem hq))
   have hlz:lazyX (evalX cs row n) ⟨k,nm,⟨vk,vn,vt⟩,op⟩ args ⟨k1,n1,s1⟩=some (bitIf k (evalX cs row n args[1])):=by unfold lazyX;rw [hlv];simp only;rw [List.getElem?_eq_getElem hq]
   obtain ⟨⟨⟨rk,rn,rs⟩,rx⟩,hre⟩:∃ r,r=evalX cs row n args[1]:=⟨_,rfl⟩
   rw [<- hre] at hlz Hev
   obtain ⟨⟨k2,nm2,⟨vk2,vn2,vt2⟩,op2⟩,A2,m2,c2'⟩:=y
   simp only [XC.val,VD.val] at Hev
   have c0:=hcell 0 _ rfl;have c1:=hcell 1 _ rfl;have c2:=hcell 2 _ rfl;have c3:=hcell 3 _ rfl;have c4:=hcell 4 _ rfl;have c5:=hcell 5 _ rfl;have c6:=hcell 6 _ rfl
   rw [Nat.add_zero] at c0
   simp only at c0 c1 c2 c3 c4 c5 c6
   have hqI:(1:Int) < (args.length:Int):=by omega
   have C0:=lh c0;have C1:=lh c1;have C2:=lh c2;have C3:=lh c3;have C4:=lh c4;have C5:=lh c5;have C6:=lh c6
   clear hcell c0 c1 c2 c3 c4 c5 c6 hy hre hlv hq
   by_cases hx:rx=0
   ·subst hx
    by_cases hk4:k=4
    ·subst hk4
     have Hf:=lh (hlz.trans (congrArg some (bitIf_4 ⟨rk,rn,rs⟩)))
     have Ht2:=lh fun w'=>true_any ⟨rk,rn,rs⟩ w'
     simp only [VD.val] at Ht2
     rcases htv:VD.tru ⟨rk,rn,rs⟩ with _ | _
     ·rw [htv] at Ht2 Hf;simp only [bitV,Bool.false_eq_true,if_false] at Hf;clear htv hlz
      go_enter Tryz.func148,Tryz.ntmps148
      go_wp2_with fail
      rw [<- HW.out]
      refine (Htr.out _).mono ?_
      rintro e w1 ⟨rfl,u1⟩
      obtain ⟨a0,a1,a2,a3,a4,a5,a6,_⟩:=blk7 (u1.blk Hb1.out (by simp))
      obtain ⟨b0,b1,b2,_⟩:=blk3x (u1.blk Hb2.out (by simp))
      obtain ⟨r0,r1,r2,f0,f1,f2⟩:=blk3x (u1.blk Hbr.out (by simp))
      have c0:=(T0.out.trans0 u1).cell C0.out (by simp)
      have c1:=(T0.out.trans0 u1).cell C1.out (by simp)
      have c2:=(T0.out.trans0 u1).cell C2.out (by simp)
      have c3:=(T0.out.trans0 u1).cell C3.out (by simp)
      have c4:=(T0.out.trans0 u1).cell C4.out (by simp)
      have c5:=(T0.out.trans0 u1).cell C5.out (by simp)
      have c6:=(T0.out.trans0 u1).cell C6.out (by simp)
      go_wp2_with fail
      clear a0 a1 a2 b0 b1 b2 r0 r1 r2 f0 f1 f2 a3 a4 a5 a6 c0 c1 c2 c3 c4 c5 c6
      refine (Hev.out _ (T0.out.trans0 u1)).mono ?_
      rintro e w2 ⟨rfl,u2⟩
      have tb:=(Touch.refl [] w2).alloc (.cells #[.int .i64 rk,.int .i64 rn,.string rs] 31)
      have hbz:=heap_alloc_new w2 (.cells #[.int .i64 rk,.int .i64 rn,.string rs] 31)
      have hzl:=(Array.getElem?_eq_some_iff.1 (u2.blk (u1.blk Hbr.out (by simp)) (by simp))).1
      obtain ⟨z0,z1,z2,_⟩:=blk3x hbz
      obtain ⟨a0,a1,a2,a3,a4,a5,a6,_⟩:=blk7 (tb.blk (u2.blk (u1.blk Hb1.out (by simp)) (by simp)) (by simp))
      obtain ⟨b0,b1,b2,_⟩:=blk3x (tb.blk (u2.blk (u1.blk Hb2.out (by simp)) (by simp)) (by simp))
      obtain ⟨r0,r1,r2,f0,f1,f2⟩:=blk3x (tb.blk (u2.blk (u1.blk Hbr.out (by simp)) (by simp)) (by simp))
      go_wp2_with fail
      clear a0 a1 a2 b0 b1 b2 r0 r1 r2 f0 f1 f2 a3 a4 a5 a6 z0 z1 z2
      refine (Ht2.out _).mono ?_
      rintro e w3 ⟨rfl,u3⟩
      obtain ⟨a0,a1,a2,a3,a4,a5,a6,_⟩:=blk7 (u3.blk (tb.blk (u2.blk (u1.blk Hb1.out (by simp)) (by simp)) (by simp)) (by simp))
      obtain ⟨b0,b1,b2,_⟩:=blk3x (u3.blk (tb.blk (u2.blk (u1.blk Hb2.out (by simp)) (by simp)) (by simp)) (by simp))
      obtain ⟨r0,r1,r2,f0,f1,f2⟩:=blk3x (u3.blk (tb.blk (u2.blk (u1.blk Hbr.out (by simp)) (by simp)) (by simp)) (by simp))
      go_wp2_with fail
      clear a0 a1 a2 b0 b1 b2 r0 r1 r2 f0 f1 f2 a3 a4 a5 a6
      refine (HbF.out _).mono ?_
      rintro e w4 ⟨rfl,u4⟩
      have hbz2:=u4.blk (u3.blk hbz (by simp)) (by simp)
      obtain ⟨z0,z1,z2,g0,g1,g2⟩:=blk3x hbz2
      obtain ⟨a0,a1,a2,a3,a4,a5,a6,_⟩:=blk7 (u4.blk (u3.blk (tb.blk (u2.blk (u1.blk Hb1.out (by simp)) (by simp)) (by simp)) (by simp)) (by simp))
      obtain ⟨b0,b1,b2,_⟩:=blk3x (u4.blk (u3.blk (tb.blk (u2.blk (u1.blk Hb2.out (by simp)) (by simp)) (by simp)) (by simp)) (by simp))
      obtain ⟨r0,r1,r2,f0,f1,f2⟩:=blk3x (u4.blk (u3.blk (tb.blk (u2.blk (u1.blk Hbr.out (by simp)) (by simp)) (by simp)) (by simp)) (by simp))
      go_wp2_with fail
      obtain ⟨y1,y2⟩:=out3 hbz2 (.int .i64 1) (.int .i64 0) (.string ⟨#[]⟩)
      have hrz:=y2.blk (u4.blk (u3.blk (tb.blk (u2.blk (u1.blk Hbr.out (by simp)) (by simp)) (by simp)) (by simp)) (by simp)) (by simp only [List.mem_singleton];omega)
      obtain ⟨q1,q2⟩:=out3 hrz (.int .i64 1) (.int .i64 0) (.string ⟨#[]⟩)
      obtain ⟨d0,d1,d2,_⟩:=blk3x q1
      refine bodyPost_ret (v:=.tuple #[.agg #[.int .i64 1,.int .i64 0,.string ⟨#[]⟩],.int .i64 0,.bool true]) (by simp [results,Tryz.results148,go_sem,d0,d1,d2]) rfl ⟨?_,((((((T0.out.trans0 u1).trans0 u2).trans0 tb).trans0 u3).trans0 u4).trans y2 (fun b hb=>.inr (by simp at hb;omega))).trans q2 (fun b hb=>.inr (by simp at hb;omega))⟩
      rw [Hf.out];rfl
     ·rw [htv] at Ht2 Hf;simp only [bitV,if_true] at Hf;clear htv hlz
      go_enter Tryz.func148,Tryz.ntmps148
      go_wp2_with fail
      rw [<- HW.out]
      refine (Htr.out _).mono ?_
      rintro e w1 ⟨rfl,u1⟩
      obtain ⟨a0,a1,a2,a3,a4,a5,a6,_⟩:=blk7 (u1.blk Hb1.out (by simp))
      obtain ⟨b0,b1,b2,_⟩:=blk3x (u1.blk Hb2.out (by simp))
      obtain ⟨r0,r1,r2,f0,f1,f2⟩:=blk3x (u1.blk Hbr.out (by simp))
      have c0:=(T0.out.trans0 u1).cell C0.out (by simp)
      have c1:=(T0.out.trans0 u1).cell C1.out (by simp)
      have c2:=(T0.out.trans0 u1).cell C2.out (by simp)
      have c3:=(T0.out.trans0 u1).cell C3.out (by simp)
      have c4:=(T0.out.trans0 u1).cell C4.out (by simp)
      have c5:=(T0.out.trans0 u1).cell C5.out (by simp)
      have c6:=(T0.out.trans0 u1).cell C6.out (by simp)
      go_wp2_with fail
      clear a0 a1 a2 b0 b1 b2 r0 r1 r2 f0 f1 f2 a3 a4 a5 a6 c0 c1 c2 c3 c4 c5 c6
      refine (Hev.out _ (T0.out.trans0 u1)).mono ?_
      rintro e w2 ⟨rfl,u2⟩
      have tb:=(Touch.refl [] w2).alloc (.cells #[.int .i64 rk,.int .i64 rn,.string rs] 31)
      have hbz:=heap_alloc_new w2 (.cells #[.int .i64 rk,.int .i64 rn,.string rs] 31)
      have hzl:=(Array.getElem?_eq_some_iff.1 (u2.blk (u1.blk Hbr.out (by simp)) (by simp))).1
      obtain ⟨z0,z1,z2,_⟩:=blk3x hbz
      obtain ⟨a0,a1,a2,a3,a4,a5,a6,_⟩:=blk7 (tb.blk (u2.blk (u1.blk Hb1.out (by simp)) (by simp)) (by simp))
      obtain ⟨b0,b1,b2,_⟩:=blk3x (tb.blk (u2.blk (u1.blk Hb2.out (by simp)) (by simp)) (by simp))
      obtain ⟨r0,r1,r2,f0,f1,f2⟩:=blk3x (tb.blk (u2.blk (u1.blk Hbr.out (by simp)) (by simp)) (by simp))
      go_wp2_with fail
      clear a0 a1 a2 b0 b1 b2 r0 r1 r2 f0 f1 f2 a3 a4 a5 a6 z0 z1 z2
      refine (Ht2.out _).mono ?_
      rintro e w3 ⟨rfl,u3⟩
      obtain ⟨a0,a1,a2,a3,a4,a5,a6,_⟩:=blk7 (u3.blk (tb.blk (u2.blk (u1.blk Hb1.out (by simp)) (by simp)) (by simp)) (by simp))
      obtain ⟨b0,b1,b2,_⟩:=blk3x (u3.blk (tb.blk (u2.blk (u1.blk Hb2.out (by simp)) (by simp)) (by simp)) (by simp))
      obtain ⟨r0,r1,r2,f0,f1,f2⟩:=blk3x (u3.blk (tb.blk (u2.blk (u1.blk Hbr.out (by simp)) (by simp)) (by simp)) (by simp))
      go_wp2_with fail
      clear a0 a1 a2 b0 b1 b2 r0 r1 r2 f0 f1 f2 a3 a4 a5 a6
      refine (HbT.out _).mono ?_
      rintro e w4 ⟨rfl,u4⟩
      have hbz2:=u4.blk (u3.blk hbz (by simp)) (by simp)
      obtain ⟨z0,z1,z2,g0,g1,g2⟩:=blk3x hbz2
      obtain ⟨a0,a1,a2,a3,a4,a5,a6,_⟩:=blk7 (u4.blk (u3.blk (tb.blk (u2.blk (u1.blk Hb1.out (by simp)) (by simp)) (by simp)) (by simp)) (by simp))
      obtain ⟨b0,b1,b2,_⟩:=blk3x (u4.blk (u3.blk (tb.blk (u2.blk (u1.blk Hb2.out (by simp)) (by simp)) (by simp)) (by simp)) (by simp))
      obtain ⟨r0,r1,r2,f0,f1,f2⟩:=blk3x (u4.blk (u3.blk (tb.blk (u2.blk (u1.blk Hbr.out (by simp)) (by simp)) (by simp)) (by simp)) (by simp))
      go_wp2_with fail
      obtain ⟨y1,y2⟩:=out3 hbz2 (.int .i64 1) (.int .i64 1) (.string ⟨#[]⟩)
      have hrz:=y2.blk (u4.blk (u3.blk (tb.blk (u2.blk (u1.blk Hbr.out (by simp)) (by simp)) (by simp)) (by simp)) (by simp)) (by simp only [List.mem_singleton];omega)
      obtain ⟨q1,q2⟩:=out3 hrz (.int .i64 1) (.int .i64 1) (.string ⟨#[]⟩)
      obtain ⟨d0,d1,d2,_⟩:=blk3x q1
      refine bodyPost_ret (v:=.tuple #[.agg #[.int .i64 1,.int .i64 1,.string ⟨#[]⟩],.int .i64 0,.bool true]) (by simp [results,Tryz.results148,go_sem,d0,d1,d2]) rfl ⟨?_,((((((T0.out.trans0 u1).trans0 u2).trans0 tb).trans0 u3).trans0 u4).trans y2 (fun b hb=>.inr (by simp at hb;omega))).trans q2 (fun b hb=>.inr (by simp at hb;omega))⟩
      rw [Hf.out];rfl
    ·have Hf:=lh (hlz.trans (congrArg some (bitIf_k hk4 (⟨rk,rn,rs⟩,0))))
     have q6:(k==4)=false:=by simpa using hk4
     clear hlz hk4
     go_enter Tryz.func148,Tryz.ntmps148
     go_wp2_with fail
     rw [<- HW.out]
     refine (Htr.out _).mono ?_
     rintro e w1 ⟨rfl,u1⟩
     obtain ⟨a0,a1,a2,a3,a4,a5,a6,_⟩:=blk7 (u1.blk Hb1.out (by simp))
     obtain ⟨b0,b1,b2,_⟩:=blk3x (u1.blk Hb2.out (by simp))
     obtain ⟨r0,r1,r2,f0,f1,f2⟩:=blk3x (u1.blk Hbr.out (by simp))
     have c0:=(T0.out.trans0 u1).cell C0.out (by simp)
     have c1:=(T0.out.trans0 u1).cell C1.out (by simp)
     have c2:=(T0.out.trans0 u1).cell C2.out (by simp)
     have c3:=(T0.out.trans0 u1).cell C3.out (by simp)
     have c4:=(T0.out.trans0 u1).cell C4.out (by simp)
     have c5:=(T0.out.trans0 u1).cell C5.out (by simp)
     have c6:=(T0.out.trans0 u1).cell C6.out (by simp)
     go_wp2_with fail
     clear a0 a1 a2 b0 b1 b2 r0 r1 r2 f0 f1 f2 a3 a4 a5 a6 c0 c1 c2 c3 c4 c5 c6
     refine (Hev.out _ (T0.out.trans0 u1)).mono ?_
     rintro e w2 ⟨rfl,u2⟩
     have tb:=(Touch.refl [] w2).alloc (.cells #[.int .i64 rk,.int .i64 rn,.string rs] 31)
     have hbz:=heap_alloc_new w2 (.cells #[.int .i64 rk,.int .i64 rn,.string rs] 31)
     obtain ⟨z0,z1,z2,_⟩:=blk3x hbz
     obtain ⟨a0,a1,a2,a3,a4,a5,a6,_⟩:=blk7 (tb.blk (u2.blk (u1.blk Hb1.out (by simp)) (by simp)) (by simp))
     obtain ⟨b0,b1,b2,_⟩:=blk3x (tb.blk (u2.blk (u1.blk Hb2.out (by simp)) (by simp)) (by simp))
     obtain ⟨r0,r1,r2,f0,f1,f2⟩:=blk3x (tb.blk (u2.blk (u1.blk Hbr.out (by simp)) (by simp)) (by simp))
     go_wp2_with fail
     obtain ⟨q1,q2⟩:=out3 (tb.blk (u2.blk (u1.blk Hbr.out (by simp)) (by simp)) (by simp)) (.int .i64 rk) (.int .i64 rn) (.string rs)
     obtain ⟨d0,d1,d2,_⟩:=blk3x q1
     refine bodyPost_ret (v:=.tuple #[.agg #[.int .i64 rk,.int .i64 rn,.string rs],.int .i64 (0),.bool true]) (by simp [results,Tryz.results148,go_sem,d0,d1,d2]) rfl ⟨?_,(((T0.out.trans0 u1).trans0 u2).trans0 tb).trans q2 (fun b hb=>.inr (by simp at hb;omega))⟩
     rw [Hf.out];rfl
   ·have Hf:=lh (hlz.trans (congrArg some (bitIf_e k ⟨rk,rn,rs⟩ hx)))
    have q6:(rx==0)=false:=by simpa using hx
    clear hlz hx
    go_enter Tryz.func148,Tryz.ntmps148
    go_wp2_with fail
    rw [<- HW.out]
    refine (Htr.out _).mono ?_
    rintro e w1 ⟨rfl,u1⟩
    obtain ⟨a0,a1,a2,a3,a4,a5,a6,_⟩:=blk7 (u1.blk Hb1.out (by simp))
    obtain ⟨b0,b1,b2,_⟩:=blk3x (u1.blk Hb2.out (by simp))
    obtain ⟨r0,r1,r2,f0,f1,f2⟩:=blk3x (u1.blk Hbr.out (by simp))
    have c0:=(T0.out.trans0 u1).cell C0.out (by simp)
    have c1:=(T0.out.trans0 u1).cell C1.out (by simp)
    have c2:=(T0.out.trans0 u1).cell C2.out (by simp)
    have c3:=(T0.out.trans0 u1).cell C3.out (by simp)
    have c4:=(T0.out.trans0 u1).cell C4.out (by simp)
    have c5:=(T0.out.trans0 u1).cell C5.out (by simp)
    have c6:=(T0.out.trans0 u1).cell C6.out (by simp)
    go_wp2_with fail
    clear a0 a1 a2 b0 b1 b2 r0 r1 r2 f0 f1 f2 a3 a4 a5 a6 c0 c1 c2 c3 c4 c5 c6
    refine (Hev.out _ (T0.out.trans0 u1)).mono ?_
    rintro e w2 ⟨rfl,u2⟩
    have tb:=(Touch.refl [] w2).alloc (.cells #[.int .i64 rk,.int .i64 rn,.string rs] 31)
    have hbz:=heap_alloc_new w2 (.cells #[.int .i64 rk,.int .i64 rn,.string rs] 31)
    obtain ⟨z0,z1,z2,_⟩:=blk3x hbz
    obtain ⟨a0,a1,a2,a3,a4,a5,a6,_⟩:=blk7 (tb.blk (u2.blk (u1.blk Hb1.out (by simp)) (by simp)) (by simp))
    obtain ⟨b0,b1,b2,_⟩:=blk3x (tb.blk (u2.blk (u1.blk Hb2.out (by simp)) (by simp)) (by simp))
    obtain ⟨r0,r1,r2,f0,f1,f2⟩:=blk3x (tb.blk (u2.blk (u1.blk Hbr.out (by simp)) (by simp)) (by simp))
    go_wp2_with fail
    obtain ⟨q1,q2⟩:=out3 (tb.blk (u2.blk (u1.blk Hbr.out (by simp)) (by simp)) (by simp)) (.int .i64 rk) (.int .i64 rn) (.string rs)
    obtain ⟨d0,d1,d2,_⟩:=blk3x q1
    refine bodyPost_ret (v:=.tuple #[.agg #[.int .i64 rk,.int .i64 rn,.string rs],.int .i64 (rx),.bool true]) (by simp [results,Tryz.results148,go_sem,d0,d1,d2]) rfl ⟨?_,(((T0.out.trans0 u1).trans0 u2).trans0 tb).trans q2 (fun b hb=>.inr (by simp at hb;omega))⟩
    rw [Hf.out];rfl
  ·rw [if_pos rfl] at hst
   have Hf:=lh (show lazyX (evalX cs row n) ⟨k,nm,⟨vk,vn,vt⟩,op⟩ args ⟨k1,n1,s1⟩=some (ofV 1,(0:Int)) by unfold lazyX;rw [hst])
   clear hst hq2
   go_enter Tryz.func148,Tryz.ntmps148
   go_wp2_with fail
   rw [<- HW.out]
   refine (Htr.out _).mono ?_
   rintro e w1 ⟨rfl,u1⟩
   obtain ⟨a0,a1,a2,a3,a4,a5,a6,_⟩:=blk7 (u1.blk Hb1.out (by simp))
   obtain ⟨b0,b1,b2,_⟩:=blk3x (u1.blk Hb2.out (by simp))
   obtain ⟨r0,r1,r2,f0,f1,f2⟩:=blk3x (u1.blk Hbr.out (by simp))
   go_wp2_with fail
   clear a0 a1 a2 b0 b1 b2 r0 r1 r2 f0 f1 f2 a3 a4 a5 a6
   refine (Hof.out 1 _).mono ?_
   rintro e w2 ⟨rfl,u2⟩
   obtain ⟨a0,a1,a2,a3,a4,a5,a6,_⟩:=blk7 (u2.blk (u1.blk Hb1.out (by simp)) (by simp))
   obtain ⟨b0,b1,b2,_⟩:=blk3x (u2.blk (u1.blk Hb2.out (by simp)) (by simp))
   obtain ⟨r0,r1,r2,f0,f1,f2⟩:=blk3x (u2.blk (u1.blk Hbr.out (by simp)) (by simp))
   go_wp2_with fail
   obtain ⟨q1,q2⟩:=out3 (u2.blk (u1.blk Hbr.out (by simp)) (by simp)) (.int .i64 1) (.int .i64 1) (.string ⟨#[]⟩)
   obtain ⟨d0,d1,d2,_⟩:=blk3x q1
   refine bodyPost_ret (v:=.tuple #[.agg #[.int .i64 1,.int .i64 1,.string ⟨#[]⟩],.int .i64 (0),.bool true]) (by simp [results,Tryz.results148,go_sem,d0,d1,d2]) rfl ⟨?_,((T0.out.trans0 u1).trans0 u2).trans q2 (fun b hb=>.inr (by simp at hb;omega))⟩
   rw [Hf.out];rfl
 rw [decide_eq_false (p:=op=S [111,114]) h2] at q2
 rw [if_neg h2] at hst
 clear h2
 by_cases h3:nm=wEither
 ·rw [decide_eq_true (p:=nm=S [101,105,116,104,101,114]) h3] at q3
  rw [if_pos h3] at hst
  clear h3 q4 Htr
  by_cases h5:k1=0
  ·rw [if_pos h5] at hst
   subst h5
   have hlv:=hst;have hq:=hq2 1 hst;clear hst hq2
   obtain ⟨ad,b,off,y,rfl,hadd,hy,hcell⟩:=ha.at_ xcE_length 1 hq
   have Hev:=lh fun w' (t:Touch [] w w')=>ih args[1] y CA cc cm cs hcm RB rc rm row hrm w' (hy.touch0 t) (hcs.touch0 t) (hrow.touch0 t) hmb hrl (hok _ (List.getElem_mem hq)) hrt (hall _ (List.getElem_mem hq))
   have hlz:lazyX (evalX cs row n) ⟨k,nm,⟨vk,vn,vt⟩,op⟩ args ⟨0,n1,s1⟩=some (bitIf k (evalX cs row n args[1])):=by unfold lazyX;rw [hlv];simp only;rw [List.getElem?_eq_getElem hq]
   obtain ⟨⟨⟨rk,rn,rs⟩,rx⟩,hre⟩:∃ r,r=evalX cs row n args[1]:=⟨_,rfl⟩
   rw [<- hre] at hlz Hev
   obtain ⟨⟨k2,nm2,⟨vk2,vn2,vt2⟩,op2⟩,A2,m2,c2'⟩:=y
   simp only [XC.val,VD.val] at Hev
   have c0:=hcell 0 _ rfl;have c1:=hcell 1 _ rfl;have c2:=hcell 2 _ rfl;have c3:=hcell 3 _ rfl;have c4:=hcell 4 _ rfl;have c5:=hcell 5 _ rfl;have c6:=hcell 6 _ rfl
   rw [Nat.add_zero] at c0
   simp only at c0 c1 c2 c3 c4 c5 c6
   have hqI:(1:Int) < (args.length:Int):=by omega
   have C0:=lh c0;have C1:=lh c1;have C2:=lh c2;have C3:=lh c3;have C4:=lh c4;have C5:=lh c5;have C6:=lh c6
   clear hcell c0 c1 c2 c3 c4 c5 c6 hy hre hlv hq
   by_cases hx:rx=0
   ·subst hx
    by_cases hk4:k=4
    ·subst hk4
     have Hf:=lh (hlz.trans (congrArg some (bitIf_4 ⟨rk,rn,rs⟩)))
     have Ht2:=lh fun w'=>true_any ⟨rk,rn,rs⟩ w'
     simp only [VD.val] at Ht2
     rcases htv:VD.tru ⟨rk,rn,rs⟩ with _ | _
     ·rw [htv] at Ht2 Hf;simp only [bitV,Bool.false_eq_true,if_false] at Hf;clear htv hlz
      have c0:=((((Touch.refl [] w).alloc (.cells #[.int .i64 4,.string nm,.int .i64 vk,.int .i64 vn,.string vt,.string op,.slice (some ad) args.length c] 44)).alloc (.cells #[.int .i64 0,.int .i64 n1,.string s1] 31)).alloc (.cells #[.int .i64 0,.int .i64 0,.string ⟨#[]⟩] 31)).cell C0.out (by simp)
      have c1:=((((Touch.refl [] w).alloc (.cells #[.int .i64 4,.string nm,.int .i64 vk,.int .i64 vn,.string vt,.string op,.slice (some ad) args.length c] 44)).alloc (.cells #[.int .i64 0,.int .i64 n1,.string s1] 31)).alloc (.cells #[.int .i64 0,.int .i64 0,.string ⟨#[]⟩] 31)).cell C1.out (by simp)
      have c2:=((((Touch.refl [] w).alloc (.cells #[.int .i64 4,.string nm,.int .i64 vk,.int .i64 vn,.string vt,.string op,.slice (some ad) args.length c] 44)).alloc (.cells #[.int .i64 0,.int .i64 n1,.string s1] 31)).alloc (.cells #[.int .i64 0,.int .i64 0,.string ⟨#[]⟩] 31)).cell C2.out (by simp)
      have c3:=((((Touch.refl [] w).alloc (.cells #[.int .i64 4,.string nm,.int .i64 vk,.int .i64 vn,.string vt,.string op,.slice (some ad) args.length c] 44)).alloc (.cells #[.int .i64 0,.int .i64 n1,.string s1] 31)).alloc (.cells #[.int .i64 0,.int .i64 0,.string ⟨#[]⟩] 31)).cell C3.out (by simp)
      have c4:=((((Touch.refl [] w).alloc (.cells #[.int .i64 4,.string nm,.int .i64 vk,.int .i64 vn,.string vt,.string op,.slice (some ad) args.length c] 44)).alloc (.cells #[.int .i64 0,.int .i64 n1,.string s1] 31)).alloc (.cells #[.int .i64 0,.int .i64 0,.string ⟨#[]⟩] 31)).cell C4.out (by simp)
      have c5:=((((Touch.refl [] w).alloc (.cells #[.int .i64 4,.string nm,.int .i64 vk,.int .i64 vn,.string vt,.string op,.slice (some ad) args.length c] 44)).alloc (.cells #[.int .i64 0,.int .i64 n1,.string s1] 31)).alloc (.cells #[.int .i64 0,.int .i64 0,.string ⟨#[]⟩] 31)).cell C5.out (by simp)
      have c6:=((((Touch.refl [] w).alloc (.cells #[.int .i64 4,.string nm,.int .i64 vk,.int .i64 vn,.string vt,.string op,.slice (some ad) args.length c] 44)).alloc (.cells #[.int .i64 0,.int .i64 n1,.string s1] 31)).alloc (.cells #[.int .i64 0,.int .i64 0,.string ⟨#[]⟩] 31)).cell C6.out (by simp)
      go_enter Tryz.func148,Tryz.ntmps148
      go_wp2_with fail
      rw [<- HW.out]
      clear c0 c1 c2 c3 c4 c5 c6
      refine (Hev.out _ T0.out).mono ?_
      rintro e w1 ⟨rfl,u1⟩
      have tb:=(Touch.refl [] w1).alloc (.cells #[.int .i64 rk,.int .i64 rn,.string rs] 31)
      have hbz:=heap_alloc_new w1 (.cells #[.int .i64 rk,.int .i64 rn,.string rs] 31)
      have hzl:=(Array.getElem?_eq_some_iff.1 (u1.blk Hbr.out (by simp))).1
      obtain ⟨z0,z1,z2,_⟩:=blk3x hbz
      obtain ⟨a0,a1,a2,a3,a4,a5,a6,_⟩:=blk7 (tb.blk (u1.blk Hb1.out (by simp)) (by simp))
      obtain ⟨b0,b1,b2,_⟩:=blk3x (tb.blk (u1.blk Hb2.out (by simp)) (by simp))
      obtain ⟨r0,r1,r2,f0,f1,f2⟩:=blk3x (tb.blk (u1.blk Hbr.out (by simp)) (by simp))
      go_wp2_with fail
      clear a0 a1 a2 b0 b1 b2 r0 r1 r2 f0 f1 f2 a3 a4 a5 a6 z0 z1 z2
      refine (Ht2.out _).mono ?_
      rintro e w2 ⟨rfl,u2⟩
      obtain ⟨a0,a1,a2,a3,a4,a5,a6,_⟩:=blk7 (u2.blk (tb.blk (u1.blk Hb1.out (by simp)) (by simp)) (by simp))
      obtain ⟨b0,b1,b2,_⟩:=blk3x (u2.blk (tb.blk (u1.blk Hb2.out (by simp)) (by simp)) (by simp))
      obtain ⟨r0,r1,r2,f0,f1,f2⟩:=blk3x (u2.blk (tb.blk (u1.blk Hbr.out (by simp)) (by simp)) (by simp))
      go_wp2_with fail
      clear a0 a1 a2 b0 b1 b2 r0 r1 r2 f0 f1 f2 a3 a4 a5 a6
      refine (HbF.out _).mono ?_
      rintro e w3 ⟨rfl,u3⟩
      have hbz2:=u3.blk (u2.blk hbz (by simp)) (by simp)
      obtain ⟨z0,z1,z2,g0,g1,g2⟩:=blk3x hbz2
      obtain ⟨a0,a1,a2,a3,a4,a5,a6,_⟩:=blk7 (u3.blk (u2.blk (tb.blk (u1.blk Hb1.out (by simp)) (by simp)) (by simp)) (by simp))
      obtain ⟨b0,b1,b2,_⟩:=blk3x (u3.blk (u2.blk (tb.blk (u1.blk Hb2.out (by simp)) (by simp)) (by simp)) (by simp))
      obtain ⟨r0,r1,r2,f0,f1,f2⟩:=blk3x (u3.blk (u2.blk (tb.blk (u1.blk Hbr.out (by simp)) (by simp)) (by simp)) (by simp))
      go_wp2_with fail
      obtain ⟨y1,y2⟩:=out3 hbz2 (.int .i64 1) (.int .i64 0) (.string ⟨#[]⟩)
      have hrz:=y2.blk (u3.blk (u2.blk (tb.blk (u1.blk Hbr.out (by simp)) (by simp)) (by simp)) (by simp)) (by simp only [List.mem_singleton];omega)
      obtain ⟨q1,q2⟩:=out3 hrz (.int .i64 1) (.int .i64 0) (.string ⟨#[]⟩)
      obtain ⟨d0,d1,d2,_⟩:=blk3x q1
      refine bodyPost_ret (v:=.tuple #[.agg #[.int .i64 1,.int .i64 0,.string ⟨#[]⟩],.int .i64 0,.bool true]) (by simp [results,Tryz.results148,go_sem,d0,d1,d2]) rfl ⟨?_,(((((T0.out.trans0 u1).trans0 tb).trans0 u2).trans0 u3).trans y2 (fun b hb=>.inr (by simp at hb;omega))).trans q2 (fun b hb=>.inr (by simp at hb;omega))⟩
      rw [Hf.out];rfl
     ·rw [htv] at Ht2 Hf;simp only [bitV,if_true] at Hf;clear htv hlz
      have c0:=((((Touch.refl [] w).alloc (.cells #[.int .i64 4,.string nm,.int .i64 vk,.int .i64 vn,.string vt,.string op,.slice (some ad) args.length c] 44)).alloc (.cells #[.int .i64 0,.int .i64 n1,.string s1] 31)).alloc (.cells #[.int .i64 0,.int .i64 0,.string ⟨#[]⟩] 31)).cell C0.out (by simp)
      have c1:=((((Touch.refl [] w).alloc (.cells #[.int .i64 4,.string nm,.int .i64 vk,.int .i64 vn,.string vt,.string op,.slice (some ad) args.length c] 44)).alloc (.cells #[.int .i64 0,.int .i64 n1,.string s1] 31)).alloc (.cells #[.int .i64 0,.int .i64 0,.string ⟨#[]⟩] 31)).cell C1.out (by simp)
      have c2:=((((Touch.refl [] w).alloc (.cells #[.int .i64 4,.string nm,.int .i64 vk,.int .i64 vn,.string vt,.string op,.slice (some ad) args.length c] 44)).alloc (.cells #[.int .i64 0,.int .i64 n1,.string s1] 31)).alloc (.cells #[.int .i64 0,.int .i64 0,.string ⟨#[]⟩] 31)).cell C2.out (by simp)
      have c3:=((((Touch.refl [] w).alloc (.cells #[.int .i64 4,.string nm,.int .i64 vk,.int .i64 vn,.string vt,.string op,.slice (some ad) args.length c] 44)).alloc (.cells #[.int .i64 0,.int .i64 n1,.string s1] 31)).alloc (.cells #[.int .i64 0,.int .i64 0,.string ⟨#[]⟩] 31)).cell C3.out (by simp)
      have c4:=((((Touch.refl [] w).alloc (.cells #[.int .i64 4,.string nm,.int .i64 vk,.int .i64 vn,.string vt,.string op,.slice (some ad) args.length c] 44)).alloc (.cells #[.int .i64 0,.int .i64 n1,.string s1] 31)).alloc (.cells #[.int .i64 0,.int .i64 0,.string ⟨#[]⟩] 31)).cell C4.out (by simp)
      have c5:=((((Touch.refl [] w).alloc (.cells #[.int .i64 4,.string nm,.int .i64 vk,.int .i64 vn,.string vt,.string op,.slice (some ad) args.length c] 44)).alloc (.cells #[.int .i64 0,.int .i64 n1,.string s1] 31)).alloc (.cells #[.int .i64 0,.int .i64 0,.string ⟨#[]⟩] 31)).cell C5.out (by simp)
      have c6:=((((Touch.refl [] w).alloc (.cells #[.int .i64 4,.string nm,.int .i64 vk,.int .i64 vn,.string vt,.string op,.slice (some ad) args.length c] 44)).alloc (.cells #[.int .i64 0,.int .i64 n1,.string s1] 31)).alloc (.cells #[.int .i64 0,.int .i64 0,.string ⟨#[]⟩] 31)).cell C6.out (by simp)
      go_enter Tryz.func148,Tryz.ntmps148
      go_wp2_with fail
      rw [<- HW.out]
      clear c0 c1 c2 c3 c4 c5 c6
      refine (Hev.out _ T0.out).mono ?_
      rintro e w1 ⟨rfl,u1⟩
      have tb:=(Touch.refl [] w1).alloc (.cells #[.int .i64 rk,.int .i64 rn,.string rs] 31)
      have hbz:=heap_alloc_new w1 (.cells #[.int .i64 rk,.int .i64 rn,.string rs] 31)
      have hzl:=(Array.getElem?_eq_some_iff.1 (u1.blk Hbr.out (by simp))).1
      obtain ⟨z0,z1,z2,_⟩:=blk3x hbz
      obtain ⟨a0,a1,a2,a3,a4,a5,a6,_⟩:=blk7 (tb.blk (u1.blk Hb1.out (by simp)) (by simp))
      obtain ⟨b0,b1,b2,_⟩:=blk3x (tb.blk (u1.blk Hb2.out (by simp)) (by simp))
      obtain ⟨r0,r1,r2,f0,f1,f2⟩:=blk3x (tb.blk (u1.blk Hbr.out (by simp)) (by simp))
      go_wp2_with fail
      clear a0 a1 a2 b0 b1 b2 r0 r1 r2 f0 f1 f2 a3 a4 a5 a6 z0 z1 z2
      refine (Ht2.out _).mono ?_
      rintro e w2 ⟨rfl,u2⟩
      obtain ⟨a0,a1,a2,a3,a4,a5,a6,_⟩:=blk7 (u2.blk (tb.blk (u1.blk Hb1.out (by simp)) (by simp)) (by simp))
      obtain ⟨b0,b1,b2,_⟩:=blk3x (u2.blk (tb.blk (u1.blk Hb2.out (by simp)) (by simp)) (by simp))
      obtain ⟨r0,r1,r2,f0,f1,f2⟩:=blk3x (u2.blk (tb.blk (u1.blk Hbr.out (by simp)) (by simp)) (by simp))
      go_wp2_with fail
      clear a0 a1 a2 b0 b1 b2 r0 r1 r2 f0 f1 f2 a3 a4 a5 a6
      refine (HbT.out _).mono ?_
      rintro e w3 ⟨rfl,u3⟩
      have hbz2:=u3.blk (u2.blk hbz (by simp)) (by simp)
      obtain ⟨z0,z1,z2,g0,g1,g2⟩:=blk3x hbz2
      obtain ⟨a0,a1,a2,a3,a4,a5,a6,_⟩:=blk7 (u3.blk (u2.blk (tb.blk (u1.blk Hb1.out (by simp)) (by simp)) (by simp)) (by simp))
      obtain ⟨b0,b1,b2,_⟩:=blk3x (u3.blk (u2.blk (tb.blk (u1.blk Hb2.out (by simp)) (by simp)) (by simp)) (by simp))
      obtain ⟨r0,r1,r2,f0,f1,f2⟩:=blk3x (u3.blk (u2.blk (tb.blk (u1.blk Hbr.out (by simp)) (by simp)) (by simp)) (by simp))
      go_wp2_with fail
      obtain ⟨y1,y2⟩:=out3 hbz2 (.int .i64 1) (.int .i64 1) (.string ⟨#[]⟩)
      have hrz:=y2.blk (u3.blk (u2.blk (tb.blk (u1.blk Hbr.out (by simp)) (by simp)) (by simp)) (by simp)) (by simp only [List.mem_singleton];omega)
      obtain ⟨q1,q2⟩:=out3 hrz (.int .i64 1) (.int .i64 1) (.string ⟨#[]⟩)
      obtain ⟨d0,d1,d2,_⟩:=blk3x q1
      refine bodyPost_ret (v:=.tuple #[.agg #[.int .i64 1,.int .i64 1,.string ⟨#[]⟩],.int .i64 0,.bool true]) (by simp [results,Tryz.results148,go_sem,d0,d1,d2]) rfl ⟨?_,(((((T0.out.trans0 u1).trans0 tb).trans0 u2).trans0 u3).trans y2 (fun b hb=>.inr (by simp at hb;omega))).trans q2 (fun b hb=>.inr (by simp at hb;omega))⟩
      rw [Hf.out];rfl
    ·have Hf:=lh (hlz.trans (congrArg some (bitIf_k hk4 (⟨rk,rn,rs⟩,0))))
     have q6:(k==4)=false:=by simpa using hk4
     clear hlz hk4
     have c0:=((((Touch.refl [] w).alloc (.cells #[.int .i64 k,.string nm,.int .i64 vk,.int .i64 vn,.string vt,.string op,.slice (some ad) args.length c] 44)).alloc (.cells #[.int .i64 0,.int .i64 n1,.string s1] 31)).alloc (.cells #[.int .i64 0,.int .i64 0,.string ⟨#[]⟩] 31)).cell C0.out (by simp)
     have c1:=((((Touch.refl [] w).alloc (.cells #[.int .i64 k,.string nm,.int .i64 vk,.int .i64 vn,.string vt,.string op,.slice (some ad) args.length c] 44)).alloc (.cells #[.int .i64 0,.int .i64 n1,.string s1] 31)).alloc (.cells #[.int .i64 0,.int .i64 0,.string ⟨#[]⟩] 31)).cell C1.out (by simp)
     have c2:=((((Touch.refl [] w).alloc (.cells #[.int .i64 k,.string nm,.int .i64 vk,.int .i64 vn,.string vt,.string op,.slice (some ad) args.length c] 44)).alloc (.cells #[.int .i64 0,.int .i64 n1,.string s1] 31)).alloc (.cells #[.int .i64 0,.int .i64 0,.string ⟨#[]⟩] 31)).cell C2.out (by simp)
     have c3:=((((Touch.refl [] w).alloc (.cells #[.int .i64 k,.string nm,.int .i64 vk,.int .i64 vn,.string vt,.string op,.slice (some ad) args.length c] 44)).alloc (.cells #[.int .i64 0,.int .i64 n1,.string s1] 31)).alloc (.cells #[.int .i64 0,.int .i64 0,.string ⟨#[]⟩] 31)).cell C3.out (by simp)
     have c4:=((((Touch.refl [] w).alloc (.cells #[.int .i64 k,.string nm,.int .i64 vk,.int .i64 vn,.string vt,.string op,.slice (some ad) args.length c] 44)).alloc (.cells #[.int .i64 0,.int .i64 n1,.string s1] 31)).alloc (.cells #[.int .i64 0,.int .i64 0,.string ⟨#[]⟩] 31)).cell C4.out (by simp)
     have c5:=((((Touch.refl [] w).alloc (.cells #[.int .i64 k,.string nm,.int .i64 vk,.int .i64 vn,.string vt,.string op,.slice (some ad) args.length c] 44)).alloc (.cells #[.int .i64 0,.int .i64 n1,.string s1] 31)).alloc (.cells #[.int .i64 0,.int .i64 0,.string ⟨#[]⟩] 31)).cell C5.out (by simp)
     have c6:=((((Touch.refl [] w).alloc (.cells #[.int .i64 k,.string nm,.int .i64 vk,.int .i64 vn,.string vt,.string op,.slice (some ad) args.length c] 44)).alloc (.cells #[.int .i64 0,.int .i64 n1,.string s1] 31)).alloc (.cells #[.int .i64 0,.int .i64 0,.string ⟨#[]⟩] 31)).cell C6.out (by simp)
     go_enter Tryz.func148,Tryz.ntmps148
     go_wp2_with fail
     rw [<- HW.out]
     clear c0 c1 c2 c3 c4 c5 c6
     refine (Hev.out _ T0.out).mono ?_
     rintro e w1 ⟨rfl,u1⟩
     have tb:=(Touch.refl [] w1).alloc (.cells #[.int .i64 rk,.int .i64 rn,.string rs] 31)
     have hbz:=heap_alloc_new w1 (.cells #[.int .i64 rk,.int .i64 rn,.string rs] 31)
     obtain ⟨z0,z1,z2,_⟩:=blk3x hbz
     obtain ⟨a0,a1,a2,a3,a4,a5,a6,_⟩:=blk7 (tb.blk (u1.blk Hb1.out (by simp)) (by simp))
     obtain ⟨b0,b1,b2,_⟩:=blk3x (tb.blk (u1.blk Hb2.out (by simp)) (by simp))
     obtain ⟨r0,r1,r2,f0,f1,f2⟩:=blk3x (tb.blk (u1.blk Hbr.out (by simp)) (by simp))
     go_wp2_with fail
     obtain ⟨q1,q2⟩:=out3 (tb.blk (u1.blk Hbr.out (by simp)) (by simp)) (.int .i64 rk) (.int .i64 rn) (.string rs)
     obtain ⟨d0,d1,d2,_⟩:=blk3x q1
     refine bodyPost_ret (v:=.tuple #[.agg #[.int .i64 rk,.int .i64 rn,.string rs],.int .i64 (0),.bool true]) (by simp [results,Tryz.results148,go_sem,d0,d1,d2]) rfl ⟨?_,((T0.out.trans0 u1).trans0 tb).trans q2 (fun b hb=>.inr (by simp at hb;omega))⟩
     rw [Hf.out];rfl
   ·have Hf:=lh (hlz.trans (congrArg some (bitIf_e k ⟨rk,rn,rs⟩ hx)))
    have q6:(rx==0)=false:=by simpa using hx
    clear hlz hx
    have c0:=((((Touch.refl [] w).alloc (.cells #[.int .i64 k,.string nm,.int .i64 vk,.int .i64 vn,.string vt,.string op,.slice (some ad) args.length c] 44)).alloc (.cells #[.int .i64 0,.int .i64 n1,.string s1] 31)).alloc (.cells #[.int .i64 0,.int .i64 0,.string ⟨#[]⟩] 31)).cell C0.out (by simp)
    have c1:=((((Touch.refl [] w).alloc (.cells #[.int .i64 k,.string nm,.int .i64 vk,.int .i64 vn,.string vt,.string op,.slice (some ad) args.length c] 44)).alloc (.cells #[.int .i64 0,.int .i64 n1,.string s1] 31)).alloc (.cells #[.int .i64 0,.int .i64 0,.string ⟨#[]⟩] 31)).cell C1.out (by simp)
    have c2:=((((Touch.refl [] w).alloc (.cells #[.int .i64 k,.string nm,.int .i64 vk,.int .i64 vn,.string vt,.string op,.slice (some ad) args.length c] 44)).alloc (.cells #[.int .i64 0,.int .i64 n1,.string s1] 31)).alloc (.cells #[.int .i64 0,.int .i64 0,.string ⟨#[]⟩] 31)).cell C2.out (by simp)
    have c3:=((((Touch.refl [] w).alloc (.cells #[.int .i64 k,.string nm,.int .i64 vk,.int .i64 vn,.string vt,.string op,.slice (some ad) args.length c] 44)).alloc (.cells #[.int .i64 0,.int .i64 n1,.string s1] 31)).alloc (.cells #[.int .i64 0,.int .i64 0,.string ⟨#[]⟩] 31)).cell C3.out (by simp)
    have c4:=((((Touch.refl [] w).alloc (.cells #[.int .i64 k,.string nm,.int .i64 vk,.int .i64 vn,.string vt,.string op,.slice (some ad) args.length c] 44)).alloc (.cells #[.int .i64 0,.int .i64 n1,.string s1] 31)).alloc (.cells #[.int .i64 0,.int .i64 0,.string ⟨#[]⟩] 31)).cell C4.out (by simp)
    have c5:=((((Touch.refl [] w).alloc (.cells #[.int .i64 k,.string nm,.int .i64 vk,.int .i64 vn,.string vt,.string op,.slice (some ad) args.length c] 44)).alloc (.cells #[.int .i64 0,.int .i64 n1,.string s1] 31)).alloc (.cells #[.int .i64 0,.int .i64 0,.string ⟨#[]⟩] 31)).cell C5.out (by simp)
    have c6:=((((Touch.refl [] w).alloc (.cells #[.int .i64 k,.string nm,.int .i64 vk,.int .i64 vn,.string vt,.string op,.slice (some ad) args.length c] 44)).alloc (.cells #[.int .i64 0,.int .i64 n1,.string s1] 31)).alloc (.cells #[.int .i64 0,.int .i64 0,.string ⟨#[]⟩] 31)).cell C6.out (by simp)
    go_enter Tryz.func148,Tryz.ntmps148
    go_wp2_with fail
    rw [<- HW.out]
    clear c0 c1 c2 c3 c4 c5 c6
    refine (Hev.out _ T0.out).mono ?_
    rintro e w1 ⟨rfl,u1⟩
    have tb:=(Touch.refl [] w1).alloc (.cells #[.int .i64 rk,.int .i64 rn,.string rs] 31)
    have hbz:=heap_alloc_new w1 (.cells #[.int .i64 rk,.int .i64 rn,.string rs] 31)
    obtain ⟨z0,z1,z2,_⟩:=blk3x hbz
    obtain ⟨a0,a1,a2,a3,a4,a5,a6,_⟩:=blk7 (tb.blk (u1.blk Hb1.out (by simp)) (by simp))
    obtain ⟨b0,b1,b2,_⟩:=blk3x (tb.blk (u1.blk Hb2.out (by simp)) (by simp))
    obtain ⟨r0,r1,r2,f0,f1,f2⟩:=blk3x (tb.blk (u1.blk Hbr.out (by simp)) (by simp))
    go_wp2_with fail
    obtain ⟨q1,q2⟩:=out3 (tb.blk (u1.blk Hbr.out (by simp)) (by simp)) (.int .i64 rk) (.int .i64 rn) (.string rs)
    obtain ⟨d0,d1,d2,_⟩:=blk3x q1
    refine bodyPost_ret (v:=.tuple #[.agg #[.int .i64 rk,.int .i64 rn,.string rs],.int .i64 (rx),.bool true]) (by simp [results,Tryz.results148,go_sem,d0,d1,d2]) rfl ⟨?_,((T0.out.trans0 u1).trans0 tb).trans q2 (fun b hb=>.inr (by simp at hb;omega))⟩
    rw [Hf.out];rfl
  ·rw [if_neg h5] at hst
   have q5:(k1 != 0)=true:=by simpa using h5
   have Hf:=lh (show lazyX (evalX cs row n) ⟨k,nm,⟨vk,vn,vt⟩,op⟩ args ⟨k1,n1,s1⟩=some ((⟨k1,n1,s1⟩:VD),(0:Int)) by unfold lazyX;rw [hst])
   clear hst hq2 h5
   go_enter Tryz.func148,Tryz.ntmps148
   go_wp2_with fail
   have q1:=heap_alloc_new ((w.alloc (.cells #[.int .i64 k,.string nm,.int .i64 vk,.int .i64 vn,.string vt,.string op,.slice A args.length c] 44)).alloc (.cells #[.int .i64 k1,.int .i64 n1,.string s1] 31)) (.cells #[.int .i64 k1,.int .i64 n1,.string s1] 31)
   simp only [World.size_alloc] at q1
   obtain ⟨d0,d1,d2,_⟩:=blk3x q1
   refine bodyPost_ret (v:=.tuple #[.agg #[.int .i64 k1,.int .i64 n1,.string s1],.int .i64 (0),.bool true]) (by simp [results,Tryz.results148,go_sem,d0,d1,d2]) rfl ⟨?_,(((Touch.refl [] w).alloc (.cells #[.int .i64 k,.string nm,.int .i64 vk,.int .i64 vn,.string vt,.string op,.slice A args.length c] 44)).alloc (.cells #[.int .i64 k1,.int .i64 n1,.string s1] 31)).alloc _⟩
   rw [Hf.out];rfl
 rw [decide_eq_false (p:=nm=S [101,105,116,104,101,114]) h3] at q3
 rw [if_neg h3] at hst
 clear h3
 by_cases h4:nm=wIf
 ·rw [decide_eq_true (p:=nm=S [105,102]) h4] at q4
  rw [if_pos h4] at hst
  clear h4
  cases tr
  ·rw [if_neg (by simp)] at hst
   have hlv:=hst;have hq:=hq2 2 hst;clear hst hq2
   obtain ⟨ad,b,off,y,rfl,hadd,hy,hcell⟩:=ha.at_ xcE_length 2 hq
   have Hev:=lh fun w' (t:Touch [] w w')=>ih args[2] y CA cc cm cs hcm RB rc rm row hrm w' (hy.touch0 t) (hcs.touch0 t) (hrow.touch0 t) hmb hrl (hok _ (List.getElem_mem hq)) hrt (hall _ (List.getElem_mem hq))
   have hlz:lazyX (evalX cs row n) ⟨k,nm,⟨vk,vn,vt⟩,op⟩ args ⟨k1,n1,s1⟩=some (bitIf k (evalX cs row n args[2])):=by unfold lazyX;rw [hlv];simp only;rw [List.getElem?_eq_getElem hq]
   obtain ⟨⟨⟨rk,rn,rs⟩,rx⟩,hre⟩:∃ r,r=evalX cs row n args[2]:=⟨_,rfl⟩
   rw [<- hre] at hlz Hev
   obtain ⟨⟨k2,nm2,⟨vk2,vn2,vt2⟩,op2⟩,A2,m2,c2'⟩:=y
   simp only [XC.val,VD.val] at Hev
   have c0:=hcell 0 _ rfl;have c1:=hcell 1 _ rfl;have c2:=hcell 2 _ rfl;have c3:=hcell 3 _ rfl;have c4:=hcell 4 _ rfl;have c5:=hcell 5 _ rfl;have c6:=hcell 6 _ rfl
   rw [Nat.add_zero] at c0
   simp only at c0 c1 c2 c3 c4 c5 c6
   have hqI:(2:Int) < (args.length:Int):=by omega
   have C0:=lh c0;have C1:=lh c1;have C2:=lh c2;have C3:=lh c3;have C4:=lh c4;have C5:=lh c5;have C6:=lh c6
   clear hcell c0 c1 c2 c3 c4 c5 c6 hy hre hlv hq
   by_cases hx:rx=0
   ·subst hx
    by_cases hk4:k=4
    ·subst hk4
     have Hf:=lh (hlz.trans (congrArg some (bitIf_4 ⟨rk,rn,rs⟩)))
     have Ht2:=lh fun w'=>true_any ⟨rk,rn,rs⟩ w'
     simp only [VD.val] at Ht2
     rcases htv:VD.tru ⟨rk,rn,rs⟩ with _ | _
     ·rw [htv] at Ht2 Hf;simp only [bitV,Bool.false_eq_true,if_false] at Hf;clear htv hlz
      go_enter Tryz.func148,Tryz.ntmps148
      go_wp2_with fail
      rw [<- HW.out]
      refine (Htr.out _).mono ?_
      rintro e w1 ⟨rfl,u1⟩
      obtain ⟨a0,a1,a2,a3,a4,a5,a6,_⟩:=blk7 (u1.blk Hb1.out (by simp))
      obtain ⟨b0,b1,b2,_⟩:=blk3x (u1.blk Hb2.out (by simp))
      obtain ⟨r0,r1,r2,f0,f1,f2⟩:=blk3x (u1.blk Hbr.out (by simp))
      have c0:=(T0.out.trans0 u1).cell C0.out (by simp)
      have c1:=(T0.out.trans0 u1).cell C1.out (by simp)
      have c2:=(T0.out.trans0 u1).cell C2.out (by simp)
      have c3:=(T0.out.trans0 u1).cell C3.out (by simp)
      have c4:=(T0.out.trans0 u1).cell C4.out (by simp)
      have c5:=(T0.out.trans0 u1).cell C5.out (by simp)
      have c6:=(T0.out.trans0 u1).cell C6.out (by simp)
      go_wp2_with fail
      clear a0 a1 a2 b0 b1 b2 r0 r1 r2 f0 f1 f2 a3 a4 a5 a6 c0 c1 c2 c3 c4 c5 c6
      refine (Hev.out _ (T0.out.trans0 u1)).mono ?_
      rintro e w2 ⟨rfl,u2⟩
      have tb:=(Touch.refl [] w2).alloc (.cells #[.int .i64 rk,.int .i64 rn,.string rs] 31)
      have hbz:=heap_alloc_new w2 (.cells #[.int .i64 rk,.int .i64 rn,.string rs] 31)
      have hzl:=(Array.getElem?_eq_some_iff.1 (u2.blk (u1.blk Hbr.out (by simp)) (by simp))).1
      obtain ⟨z0,z1,z2,_⟩:=blk3x hbz
      obtain ⟨a0,a1,a2,a3,a4,a5,a6,_⟩:=blk7 (tb.blk (u2.blk (u1.blk Hb1.out (by simp)) (by simp)) (by simp))
      obtain ⟨b0,b1,b2,_⟩:=blk3x (tb.blk (u2.blk (u1.blk Hb2.out (by simp)) (by simp)) (by simp))
      obtain ⟨r0,r1,r2,f0,f1,f2⟩:=blk3x (tb.blk (u2.blk (u1.blk Hbr.out (by simp)) (by simp)) (by simp))
      go_wp2_with fail
      clear a0 a1 a2 b0 b1 b2 r0 r1 r2 f0 f1 f2 a3 a4 a5 a6 z0 z1 z2
      refine (Ht2.out _).mono ?_
      rintro e w3 ⟨rfl,u3⟩
      obtain ⟨a0,a1,a2,a3,a4,a5,a6,_⟩:=blk7 (u3.blk (tb.blk (u2.blk (u1.blk Hb1.out (by simp)) (by simp)) (by simp)) (by simp))
      obtain ⟨b0,b1,b2,_⟩:=blk3x (u3.blk (tb.blk (u2.blk (u1.blk Hb2.out (by simp)) (by simp)) (by simp)) (by simp))
      obtain ⟨r0,r1,r2,f0,f1,f2⟩:=blk3x (u3.blk (tb.blk (u2.blk (u1.blk Hbr.out (by simp)) (by simp)) (by simp)) (by simp))
      go_wp2_with fail
      clear a0 a1 a2 b0 b1 b2 r0 r1 r2 f0 f1 f2 a3 a4 a5 a6
      refine (HbF.out _).mono ?_
      rintro e w4 ⟨rfl,u4⟩
      have hbz2:=u4.blk (u3.blk hbz (by simp)) (by simp)
      obtain ⟨z0,z1,z2,g0,g1,g2⟩:=blk3x hbz2
      obtain ⟨a0,a1,a2,a3,a4,a5,a6,_⟩:=blk7 (u4.blk (u3.blk (tb.blk (u2.blk (u1.blk Hb1.out (by simp)) (by simp)) (by simp)) (by simp)) (by simp))
      obtain ⟨b0,b1,b2,_⟩:=blk3x (u4.blk (u3.blk (tb.blk (u2.blk (u1.blk Hb2.out (by simp)) (by simp)) (by simp)) (by simp)) (by simp))
      obtain ⟨r0,r1,r2,f0,f1,f2⟩:=blk3x (u4.blk (u3.blk (tb.blk (u2.blk (u1.blk Hbr.out (by simp)) (by simp)) (by simp)) (by simp)) (by simp))
      go_wp2_with fail
      obtain ⟨y1,y2⟩:=out3 hbz2 (.int .i64 1) (.int .i64 0) (.string ⟨#[]⟩)
      have hrz:=y2.blk (u4.blk (u3.blk (tb.blk (u2.blk (u1.blk Hbr.out (by simp)) (by simp)) (by simp)) (by simp)) (by simp)) (by simp only [List.mem_singleton];omega)
      obtain ⟨q1,q2⟩:=out3 hrz (.int .i64 1) (.int .i64 0) (.string ⟨#[]⟩)
      obtain ⟨d0,d1,d2,_⟩:=blk3x q1
      refine bodyPost_ret (v:=.tuple #[.agg #[.int .i64 1,.int .i64 0,.string ⟨#[]⟩],.int .i64 0,.bool true]) (by simp [results,Tryz.results148,go_sem,d0,d1,d2]) rfl ⟨?_,((((((T0.out.trans0 u1).trans0 u2).trans0 tb).trans0 u3).trans0 u4).trans y2 (fun b hb=>.inr (by simp at hb;omega))).trans q2 (fun b hb=>.inr (by simp at hb;omega))⟩
      rw [Hf.out];rfl
     ·rw [htv] at Ht2 Hf;simp only [bitV,if_true] at Hf;clear htv hlz
      go_enter Tryz.func148,Tryz.ntmps148
      go_wp2_with fail
      rw [<- HW.out]
      refine (Htr.out _).mono ?_
      rintro e w1 ⟨rfl,u1⟩
      obtain ⟨a0,a1,a2,a3,a4,a5,a6,_⟩:=blk7 (u1.blk Hb1.out (by simp))
      obtain ⟨b0,b1,b2,_⟩:=blk3x (u1.blk Hb2.out (by simp))
      obtain ⟨r0,r1,r2,f0,f1,f2⟩:=blk3x (u1.blk Hbr.out (by simp))
      have c0:=(T0.out.trans0 u1).cell C0.out (by simp)
      have c1:=(T0.out.trans0 u1).cell C1.out (by simp)
      have c2:=(T0.out.trans0 u1).cell C2.out (by simp)
      have c3:=(T0.out.trans0 u1).cell C3.out (by simp)
      have c4:=(T0.out.trans0 u1).cell C4.out (by simp)
      have c5:=(T0.out.trans0 u1).cell C5.out (by simp)
      have c6:=(T0.out.trans0 u1).cell C6.out (by simp)
      go_wp2_with fail
      clear a0 a1 a2 b0 b1 b2 r0 r1 r2 f0 f1 f2 a3 a4 a5 a6 c0 c1 c2 c3 c4 c5 c6
      refine (Hev.out _ (T0.out.trans0 u1)).mono ?_
      rintro e w2 ⟨rfl,u2⟩
      have tb:=(Touch.refl [] w2).alloc (.cells #[.int .i64 rk,.int .i64 rn,.string rs] 31)
      have hbz:=heap_alloc_new w2 (.cells #[.int .i64 rk,.int .i64 rn,.string rs] 31)
      have hzl:=(Array.getElem?_eq_some_iff.1 (u2.blk (u1.blk Hbr.out (by simp)) (by simp))).1
      obtain ⟨z0,z1,z2,_⟩:=blk3x hbz
      obtain ⟨a0,a1,a2,a3,a4,a5,a6,_⟩:=blk7 (tb.blk (u2.blk (u1.blk Hb1.out (by simp)) (by simp)) (by simp))
      obtain ⟨b0,b1,b2,_⟩:=blk3x (tb.blk (u2.blk (u1.blk Hb2.out (by simp)) (by simp)) (by simp))
      obtain ⟨r0,r1,r2,f0,f1,f2⟩:=blk3x (tb.blk (u2.blk (u1.blk Hbr.out (by simp)) (by simp)) (by simp))
      go_wp2_with fail
      clear a0 a1 a2 b0 b1 b2 r0 r1 r2 f0 f1 f2 a3 a4 a5 a6 z0 z1 z2
      refine (Ht2.out _).mono ?_
      rintro e w3 ⟨rfl,u3⟩
      obtain ⟨a0,a1,a2,a3,a4,a5,a6,_⟩:=blk7 (u3.blk (tb.blk (u2.blk (u1.blk Hb1.out (by simp)) (by simp)) (by simp)) (by simp))
      obtain ⟨b0,b1,b2,_⟩:=blk3x (u3.blk (tb.blk (u2.blk (u1.blk Hb2.out (by simp)) (by simp)) (by simp)) (by simp))
      obtain ⟨r0,r1,r2,f0,f1,f2⟩:=blk3x (u3.blk (tb.blk (u2.blk (u1.blk Hbr.out (by simp)) (by simp)) (by simp)) (by simp))
      go_wp2_with fail
      clear a0 a1 a2 b0 b1 b2 r0 r1 r2 f0 f1 f2 a3 a4 a5 a6
      refine (HbT.out _).mono ?_
      rintro e w4 ⟨rfl,u4⟩
      have hbz2:=u4.blk (u3.blk hbz (by simp)) (by simp)
      obtain ⟨z0,z1,z2,g0,g1,g2⟩:=blk3x hbz2
      obtain ⟨a0,a1,a2,a3,a4,a5,a6,_⟩:=blk7 (u4.blk (u3.blk (tb.blk (u2.blk (u1.blk Hb1.out (by simp)) (by simp)) (by simp)) (by simp)) (by simp))
      obtain ⟨b0,b1,b2,_⟩:=blk3x (u4.blk (u3.blk (tb.blk (u2.blk (u1.blk Hb2.out (by simp)) (by simp)) (by simp)) (by simp)) (by simp))
      obtain ⟨r0,r1,r2,f0,f1,f2⟩:=blk3x (u4.blk (u3.blk (tb.blk (u2.blk (u1.blk Hbr.out (by simp)) (by simp)) (by simp)) (by simp)) (by simp))
      go_wp2_with fail
      obtain ⟨y1,y2⟩:=out3 hbz2 (.int .i64 1) (.int .i64 1) (.string ⟨#[]⟩)
      have hrz:=y2.blk (u4.blk (u3.blk (tb.blk (u2.blk (u1.blk Hbr.out (by simp)) (by simp)) (by simp)) (by simp)) (by simp)) (by simp only [List.mem_singleton];omega)
      obtain ⟨q1,q2⟩:=out3 hrz (.int .i64 1) (.int .i64 1) (.string ⟨#[]⟩)
      obtain ⟨d0,d1,d2,_⟩:=blk3x q1
      refine bodyPost_ret (v:=.tuple #[.agg #[.int .i64 1,.int .i64 1,.string ⟨#[]⟩],.int .i64 0,.bool true]) (by simp [results,Tryz.results148,go_sem,d0,d1,d2]) rfl ⟨?_,((((((T0.out.trans0 u1).trans0 u2).trans0 tb).trans0 u3).trans0 u4).trans y2 (fun b hb=>.inr (by simp at hb;omega))).trans q2 (fun b hb=>.inr (by simp at hb;omega))⟩
      rw [Hf.out];rfl
    ·have Hf:=lh (hlz.trans (congrArg some (bitIf_k hk4 (⟨rk,rn,rs⟩,0))))
     have q6:(k==4)=false:=by simpa using hk4
     clear hlz hk4
     go_enter Tryz.func148,Tryz.ntmps148
     go_wp2_with fail
     rw [<- HW.out]
     refine (Htr.out _).mono ?_
     rintro e w1 ⟨rfl,u1⟩
     obtain ⟨a0,a1,a2,a3,a4,a5,a6,_⟩:=blk7 (u1.blk Hb1.out (by simp))
     obtain ⟨b0,b1,b2,_⟩:=blk3x (u1.blk Hb2.out (by simp))
     obtain ⟨r0,r1,r2,f0,f1,f2⟩:=blk3x (u1.blk Hbr.out (by simp))
     have c0:=(T0.out.trans0 u1).cell C0.out (by simp)
     have c1:=(T0.out.trans0 u1).cell C1.out (by simp)
     have c2:=(T0.out.trans0 u1).cell C2.out (by simp)
     have c3:=(T0.out.trans0 u1).cell C3.out (by simp)
     have c4:=(T0.out.trans0 u1).cell C4.out (by simp)
     have c5:=(T0.out.trans0 u1).cell C5.out (by simp)
     have c6:=(T0.out.trans0 u1).cell C6.out (by simp)
     go_wp2_with fail
     clear a0 a1 a2 b0 b1 b2 r0 r1 r2 f0 f1 f2 a3 a4 a5 a6 c0 c1 c2 c3 c4 c5 c6
     refine (Hev.out _ (T0.out.trans0 u1)).mono ?_
     rintro e w2 ⟨rfl,u2⟩
     have tb:=(Touch.refl [] w2).alloc (.cells #[.int .i64 rk,.int .i64 rn,.string rs] 31)
     have hbz:=heap_alloc_new w2 (.cells #[.int .i64 rk,.int .i64 rn,.string rs] 31)
     obtain ⟨z0,z1,z2,_⟩:=blk3x hbz
     obtain ⟨a0,a1,a2,a3,a4,a5,a6,_⟩:=blk7 (tb.blk (u2.blk (u1.blk Hb1.out (by simp)) (by simp)) (by simp))
     obtain ⟨b0,b1,b2,_⟩:=blk3x (tb.blk (u2.blk (u1.blk Hb2.out (by simp)) (by simp)) (by simp))
     obtain ⟨r0,r1,r2,f0,f1,f2⟩:=blk3x (tb.blk (u2.blk (u1.blk Hbr.out (by simp)) (by simp)) (by simp))
     go_wp2_with fail
     obtain ⟨q1,q2⟩:=out3 (tb.blk (u2.blk (u1.blk Hbr.out (by simp)) (by simp)) (by simp)) (.int .i64 rk) (.int .i64 rn) (.string rs)
     obtain ⟨d0,d1,d2,_⟩:=blk3x q1
     refine bodyPost_ret (v:=.tuple #[.agg #[.int .i64 rk,.int .i64 rn,.string rs],.int .i64 (0),.bool true]) (by simp [results,Tryz.results148,go_sem,d0,d1,d2]) rfl ⟨?_,(((T0.out.trans0 u1).trans0 u2).trans0 tb).trans q2 (fun b hb=>.inr (by simp at hb;omega))⟩
     rw [Hf.out];rfl
   ·have Hf:=lh (hlz.trans (congrArg some (bitIf_e k ⟨rk,rn,rs⟩ hx)))
    have q6:(rx==0)=false:=by simpa using hx
    clear hlz hx
    go_enter Tryz.func148,Tryz.ntmps148
    go_wp2_with fail
    rw [<- HW.out]
    refine (Htr.out _).mono ?_
    rintro e w1 ⟨rfl,u1⟩
    obtain ⟨a0,a1,a2,a3,a4,a5,a6,_⟩:=blk7 (u1.blk Hb1.out (by simp))
    obtain ⟨b0,b1,b2,_⟩:=blk3x (u1.blk Hb2.out (by simp))
    obtain ⟨r0,r1,r2,f0,f1,f2⟩:=blk3x (u1.blk Hbr.out (by simp))
    have c0:=(T0.out.trans0 u1).cell C0.out (by simp)
    have c1:=(T0.out.trans0 u1).cell C1.out (by simp)
    have c2:=(T0.out.trans0 u1).cell C2.out (by simp)
    have c3:=(T0.out.trans0 u1).cell C3.out (by simp)
    have c4:=(T0.out.trans0 u1).cell C4.out (by simp)
    have c5:=(T0.out.trans0 u1).cell C5.out (by simp)
    have c6:=(T0.out.trans0 u1).cell C6.out (by simp)
    go_wp2_with fail
    clear a0 a1 a2 b0 b1 b2 r0 r1 r2 f0 f1 f2 a3 a4 a5 a6 c0 c1 c2 c3 c4 c5 c6
    refine (Hev.out _ (T0.out.trans0 u1)).mono ?_
    rintro e w2 ⟨rfl,u2⟩
    have tb:=(Touch.refl [] w2).alloc (.cells #[.int .i64 rk,.int .i64 rn,.string rs] 31)
    have hbz:=heap_alloc_new w2 (.cells #[.int .i64 rk,.int .i64 rn,.string rs] 31)
    obtain ⟨z0,z1,z2,_⟩:=blk3x hbz
    obtain ⟨a0,a1,a2,a3,a4,a5,a6,_⟩:=blk7 (tb.blk (u2.blk (u1.blk Hb1.out (by simp)) (by simp)) (by simp))
    obtain ⟨b0,b1,b2,_⟩:=blk3x (tb.blk (u2.blk (u1.blk Hb2.out (by simp)) (by simp)) (by simp))
    obtain ⟨r0,r1,r2,f0,f1,f2⟩:=blk3x (tb.blk (u2.blk (u1.blk Hbr.out (by simp)) (by simp)) (by simp))
    go_wp2_with fail
    obtain ⟨q1,q2⟩:=out3 (tb.blk (u2.blk (u1.blk Hbr.out (by simp)) (by simp)) (by simp)) (.int .i64 rk) (.int .i64 rn) (.string rs)
    obtain ⟨d0,d1,d2,_⟩:=blk3x q1
    refine bodyPost_ret (v:=.tuple #[.agg #[.int .i64 rk,.int .i64 rn,.string rs],.int .i64 (rx),.bool true]) (by simp [results,Tryz.results148,go_sem,d0,d1,d2]) rfl ⟨?_,(((T0.out.trans0 u1).trans0 u2).trans0 tb).trans q2 (fun b hb=>.inr (by simp at hb;omega))⟩
    rw [Hf.out];rfl
  ·rw [if_pos rfl] at hst
   have hlv:=hst;have hq:=hq2 1 hst;clear hst hq2
   obtain ⟨ad,b,off,y,rfl,hadd,hy,hcell⟩:=ha.at_ xcE_length 1 hq
   have Hev:=lh fun w' (t:Touch [] w w')=>ih args[1] y CA cc cm cs hcm RB rc rm row hrm w' (hy.touch0 t) (hcs.touch0 t) (hrow.touch0 t) hmb hrl (hok _ (List.getElem_mem hq)) hrt (hall _ (List.getElem_mem hq))
   have hlz:lazyX (evalX cs row n) ⟨k,nm,⟨vk,vn,vt⟩,op⟩ args ⟨k1,n1,s1⟩=some (bitIf k (evalX cs row n args[1])):=by unfold lazyX;rw [hlv];simp only;rw [List.getElem?_eq_getElem hq]
   obtain ⟨⟨⟨rk,rn,rs⟩,rx⟩,hre⟩:∃ r,r=evalX cs row n args[1]:=⟨_,rfl⟩
   rw [<- hre] at hlz Hev
   obtain ⟨⟨k2,nm2,⟨vk2,vn2,vt2⟩,op2⟩,A2,m2,c2'⟩:=y
   simp only [XC.val,VD.val] at Hev
   have c0:=hcell 0 _ rfl;have c1:=hcell 1 _ rfl;have c2:=hcell 2 _ rfl;have c3:=hcell 3 _ rfl;have c4:=hcell 4 _ rfl;have c5:=hcell 5 _ rfl;have c6:=hcell 6 _ rfl
   rw [Nat.add_zero] at c0
   simp only at c0 c1 c2 c3 c4 c5 c6
   have hqI:(1:Int) < (args.length:Int):=by omega
   have C0:=lh c0;have C1:=lh c1;have C2:=lh c2;have C3:=lh c3;have C4:=lh c4;have C5:=lh c5;have C6:=lh c6
   clear hcell c0 c1 c2 c3 c4 c5 c6 hy hre hlv hq
   by_cases hx:rx=0
   ·subst hx
    by_cases hk4:k=4
    ·subst hk4
     have Hf:=lh (hlz.trans (congrArg some (bitIf_4 ⟨rk,rn,rs⟩)))
     have Ht2:=lh fun w'=>true_any ⟨rk,rn,rs⟩ w'
     simp only [VD.val] at Ht2
     rcases htv:VD.tru ⟨rk,rn,rs⟩ with _ | _
     ·rw [htv] at Ht2 Hf;simp only [bitV,Bool.false_eq_true,if_false] at Hf;clear htv hlz
      go_enter Tryz.func148,Tryz.ntmps148
      go_wp2_with fail
      rw [<- HW.out]
      refine (Htr.out _).mono ?_
      rintro e w1 ⟨rfl,u1⟩
      obtain ⟨a0,a1,a2,a3,a4,a5,a6,_⟩:=blk7 (u1.blk Hb1.out (by simp))
      obtain ⟨b0,b1,b2,_⟩:=blk3x (u1.blk Hb2.out (by simp))
      obtain ⟨r0,r1,r2,f0,f1,f2⟩:=blk3x (u1.blk Hbr.out (by simp))
      have c0:=(T0.out.trans0 u1).cell C0.out (by simp)
      have c1:=(T0.out.trans0 u1).cell C1.out (by simp)
      have c2:=(T0.out.trans0 u1).cell C2.out (by simp)
      have c3:=(T0.out.trans0 u1).cell C3.out (by simp)
      have c4:=(T0.out.trans0 u1).cell C4.out (by simp)
      have c5:=(T0.out.trans0 u1).cell C5.out (by simp)
      have c6:=(T0.out.trans0 u1).cell C6.out (by simp)
      go_wp2_with fail
      clear a0 a1 a2 b0 b1 b2 r0 r1 r2 f0 f1 f2 a3 a4 a5 a6 c0 c1 c2 c3 c4 c5 c6
      refine (Hev.out _ (T0.out.trans0 u1)).mono ?_
      rintro e w2 ⟨rfl,u2⟩
      have tb:=(Touch.refl [] w2).alloc (.cells #[.int .i64 rk,.int .i64 rn,.string rs] 31)
      have hbz:=heap_alloc_new w2 (.cells #[.int .i64 rk,.int .i64 rn,.string rs] 31)
      have hzl:=(Array.getElem?_eq_some_iff.1 (u2.blk (u1.blk Hbr.out (by simp)) (by simp))).1
      obtain ⟨z0,z1,z2,_⟩:=blk3x hbz
      obtain ⟨a0,a1,a2,a3,a4,a5,a6,_⟩:=blk7 (tb.blk (u2.blk (u1.blk Hb1.out (by simp)) (by simp)) (by simp))
      obtain ⟨b0,b1,b2,_⟩:=blk3x (tb.blk (u2.blk (u1.blk Hb2.out (by simp)) (by simp)) (by simp))
      obtain ⟨r0,r1,r2,f0,f1,f2⟩:=blk3x (tb.blk (u2.blk (u1.blk Hbr.out (by simp)) (by simp)) (by simp))
      go_wp2_with fail
      clear a0 a1 a2 b0 b1 b2 r0 r1 r2 f0 f1 f2 a3 a4 a5 a6 z0 z1 z2
      refine (Ht2.out _).mono ?_
      rintro e w3 ⟨rfl,u3⟩
      obtain ⟨a0,a1,a2,a3,a4,a5,a6,_⟩:=blk7 (u3.blk (tb.blk (u2.blk (u1.blk Hb1.out (by simp)) (by simp)) (by simp)) (by simp))
      obtain ⟨b0,b1,b2,_⟩:=blk3x (u3.blk (tb.blk (u2.blk (u1.blk Hb2.out (by simp)) (by simp)) (by simp)) (by simp))
      obtain ⟨r0,r1,r2,f0,f1,f2⟩:=blk3x (u3.blk (tb.blk (u2.blk (u1.blk Hbr.out (by simp)) (by simp)) (by simp)) (by simp))
      go_wp2_with fail
      clear a0 a1 a2 b0 b1 b2 r0 r1 r2 f0 f1 f2 a3 a4 a5 a6
      refine (HbF.out _).mono ?_
      rintro e w4 ⟨rfl,u4⟩
      have hbz2:=u4.blk (u3.blk hbz (by simp)) (by simp)
      obtain ⟨z0,z1,z2,g0,g1,g2⟩:=blk3x hbz2
      obtain ⟨a0,a1,a2,a3,a4,a5,a6,_⟩:=blk7 (u4.blk (u3.blk (tb.blk (u2.blk (u1.blk Hb1.out (by simp)) (by simp)) (by simp)) (by simp)) (by simp))
      obtain ⟨b0,b1,b2,_⟩:=blk3x (u4.blk (u3.blk (tb.blk (u2.blk (u1.blk Hb2.out (by simp)) (by simp)) (by simp)) (by simp)) (by simp))
      obtain ⟨r0,r1,r2,f0,f1,f2⟩:=blk3x (u4.blk (u3.blk (tb.blk (u2.blk (u1.blk Hbr.out (by simp)) (by simp)) (by simp)) (by simp)) (by simp))
      go_wp2_with fail
      obtain ⟨y1,y2⟩:=out3 hbz2 (.int .i64 1) (.int .i64 0) (.string ⟨#[]⟩)
      have hrz:=y2.blk (u4.blk (u3.blk (tb.blk (u2.blk (u1.blk Hbr.out (by simp)) (by simp)) (by simp)) (by simp)) (by simp)) (by simp only [List.mem_singleton];omega)
      obtain ⟨q1,q2⟩:=out3 hrz (.int .i64 1) (.int .i64 0) (.string ⟨#[]⟩)
      obtain ⟨d0,d1,d2,_⟩:=blk3x q1
      refine bodyPost_ret (v:=.tuple #[.agg #[.int .i64 1,.int .i64 0,.string ⟨#[]⟩],.int .i64 0,.bool true]) (by simp [results,Tryz.results148,go_sem,d0,d1,d2]) rfl ⟨?_,((((((T0.out.trans0 u1).trans0 u2).trans0 tb).trans0 u3).trans0 u4).trans y2 (fun b hb=>.inr (by simp at hb;omega))).trans q2 (fun b hb=>.inr (by simp at hb;omega))⟩
      rw [Hf.out];rfl
     ·rw [htv] at Ht2 Hf;simp only [bitV,if_true] at Hf;clear htv hlz
      go_enter Tryz.func148,Tryz.ntmps148
      go_wp2_with fail
      rw [<- HW.out]
      refine (Htr.out _).mono ?_
      rintro e w1 ⟨rfl,u1⟩
      obtain ⟨a0,a1,a2,a3,a4,a5,a6,_⟩:=blk7 (u1.blk Hb1.out (by simp))
      obtain ⟨b0,b1,b2,_⟩:=blk3x (u1.blk Hb2.out (by simp))
      obtain ⟨r0,r1,r2,f0,f1,f2⟩:=blk3x (u1.blk Hbr.out (by simp))
      have c0:=(T0.out.trans0 u1).cell C0.out (by simp)
      have c1:=(T0.out.trans0 u1).cell C1.out (by simp)
      have c2:=(T0.out.trans0 u1).cell C2.out (by simp)
      have c3:=(T0.out.trans0 u1).cell C3.out (by simp)
      have c4:=(T0.out.trans0 u1).cell C4.out (by simp)
      have c5:=(T0.out.trans0 u1).cell C5.out (by simp)
      have c6:=(T0.out.trans0 u1).cell C6.out (by simp)
      go_wp2_with fail
      clear a0 a1 a2 b0 b1 b2 r0 r1 r2 f0 f1 f2 a3 a4 a5 a6 c0 c1 c2 c3 c4 c5 c6
      refine (Hev.out _ (T0.out.trans0 u1)).mono ?_
      rintro e w2 ⟨rfl,u2⟩
      have tb:=(Touch.refl [] w2).alloc (.cells #[.int .i64 rk,.int .i64 rn,.string rs] 31)
      have hbz:=heap_alloc_new w2 (.cells #[.int .i64 rk,.int .i64 rn,.string rs] 31)
      have hzl:=(Array.getElem?_eq_some_iff.1 (u2.blk (u1.blk Hbr.out (by simp)) (by simp))).1
      obtain ⟨z0,z1,z2,_⟩:=blk3x hbz
      obtain ⟨a0,a1,a2,a3,a4,a5,a6,_⟩:=blk7 (tb.blk (u2.blk (u1.blk Hb1.out (by simp)) (by simp)) (by simp))
      obtain ⟨b0,b1,b2,_⟩:=blk3x (tb.blk (u2.blk (u1.blk Hb2.out (by simp)) (by simp)) (by simp))
      obtain ⟨r0,r1,r2,f0,f1,f2⟩:=blk3x (tb.blk (u2.blk (u1.blk Hbr.out (by simp)) (by simp)) (by simp))
      go_wp2_with fail
      clear a0 a1 a2 b0 b1 b2 r0 r1 r2 f0 f1 f2 a3 a4 a5 a6 z0 z1 z2
      refine (Ht2.out _).mono ?_
      rintro e w3 ⟨rfl,u3⟩
      obtain ⟨a0,a1,a2,a3,a4,a5,a6,_⟩:=blk7 (u3.blk (tb.blk (u2.blk (u1.blk Hb1.out (by simp)) (by simp)) (by simp)) (by simp))
      obtain ⟨b0,b1,b2,_⟩:=blk3x (u3.blk (tb.blk (u2.blk (u1.blk Hb2.out (by simp)) (by simp)) (by simp)) (by simp))
      obtain ⟨r0,r1,r2,f0,f1,f2⟩:=blk3x (u3.blk (tb.blk (u2.blk (u1.blk Hbr.out (by simp)) (by simp)) (by simp)) (by simp))
      go_wp2_with fail
      clear a0 a1 a2 b0 b1 b2 r0 r1 r2 f0 f1 f2 a3 a4 a5 a6
      refine (HbT.out _).mono ?_
      rintro e w4 ⟨rfl,u4⟩
      have hbz2:=u4.blk (u3.blk hbz (by simp)) (by simp)
      obtain ⟨z0,z1,z2,g0,g1,g2⟩:=blk3x hbz2
      obtain ⟨a0,a1,a2,a3,a4,a5,a6,_⟩:=blk7 (u4.blk (u3.blk (tb.blk (u2.blk (u1.blk Hb1.out (by simp)) (by simp)) (by simp)) (by simp)) (by simp))
      obtain ⟨b0,b1,b2,_⟩:=blk3x (u4.blk (u3.blk (tb.blk (u2.blk (u1.blk Hb2.out (by simp)) (by simp)) (by simp)) (by simp)) (by simp))
      obtain ⟨r0,r1,r2,f0,f1,f2⟩:=blk3x (u4.blk (u3.blk (tb.blk (u2.blk (u1.blk Hbr.out (by simp)) (by simp)) (by simp)) (by simp)) (by simp))
      go_wp2_with fail
      obtain ⟨y1,y2⟩:=out3 hbz2 (.int .i64 1) (.int .i64 1) (.string ⟨#[]⟩)
      have hrz:=y2.blk (u4.blk (u3.blk (tb.blk (u2.blk (u1.blk Hbr.out (by simp)) (by simp)) (by simp)) (by simp)) (by simp)) (by simp only [List.mem_singleton];omega)
      obtain ⟨q1,q2⟩:=out3 hrz (.int .i64 1) (.int .i64 1) (.string ⟨#[]⟩)
      obtain ⟨d0,d1,d2,_⟩:=blk3x q1
      refine bodyPost_ret (v:=.tuple #[.agg #[.int .i64 1,.int .i64 1,.string ⟨#[]⟩],.int .i64 0,.bool true]) (by simp [results,Tryz.results148,go_sem,d0,d1,d2]) rfl ⟨?_,((((((T0.out.trans0 u1).trans0 u2).trans0 tb).trans0 u3).trans0 u4).trans y2 (fun b hb=>.inr (by simp at hb;omega))).trans q2 (fun b hb=>.inr (by simp at hb;omega))⟩
      rw [Hf.out];rfl
    ·have Hf:=lh (hlz.trans (congrArg some (bitIf_k hk4 (⟨rk,rn,rs⟩,0))))
     have q6:(k==4)=false:=by simpa using hk4
     clear hlz hk4
     go_enter Tryz.func148,Tryz.ntmps148
     go_wp2_with fail
     rw [<- HW.out]
     refine (Htr.out _).mono ?_
     rintro e w1 ⟨rfl,u1⟩
     obtain ⟨a0,a1,a2,a3,a4,a5,a6,_⟩:=blk7 (u1.blk Hb1.out (by simp))
     obtain ⟨b0,b1,b2,_⟩:=blk3x (u1.blk Hb2.out (by simp))
     obtain ⟨r0,r1,r2,f0,f1,f2⟩:=blk3x (u1.blk Hbr.out (by simp))
     have c0:=(T0.out.trans0 u1).cell C0.out (by simp)
     have c1:=(T0.out.trans0 u1).cell C1.out (by simp)
     have c2:=(T0.out.trans0 u1).cell C2.out (by simp)
     have c3:=(T0.out.trans0 u1).cell C3.out (by simp)
     have c4:=(T0.out.trans0 u1).cell C4.out (by simp)
     have c5:=(T0.out.trans0 u1).cell C5.out (by simp)
     have c6:=(T0.out.trans0 u1).cell C6.out (by simp)
     go_wp2_with fail
     clear a0 a1 a2 b0 b1 b2 r0 r1 r2 f0 f1 f2 a3 a4 a5 a6 c0 c1 c2 c3 c4 c5 c6
     refine (Hev.out _ (T0.out.trans0 u1)).mono ?_
     rintro e w2 ⟨rfl,u2⟩
     have tb:=(Touch.refl [] w2).alloc (.cells #[.int .i64 rk,.int .i64 rn,.string rs] 31)
     have hbz:=heap_alloc_new w2 (.cells #[.int .i64 rk,.int .i64 rn,.string rs] 31)
     obtain ⟨z0,z1,z2,_⟩:=blk3x hbz
     obtain ⟨a0,a1,a2,a3,a4,a5,a6,_⟩:=blk7 (tb.blk (u2.blk (u1.blk Hb1.out (by simp)) (by simp)) (by simp))
     obtain ⟨b0,b1,b2,_⟩:=blk3x (tb.blk (u2.blk (u1.blk Hb2.out (by simp)) (by simp)) (by simp))
     obtain ⟨r0,r1,r2,f0,f1,f2⟩:=blk3x (tb.blk (u2.blk (u1.blk Hbr.out (by simp)) (by simp)) (by simp))
     go_wp2_with fail
     obtain ⟨q1,q2⟩:=out3 (tb.blk (u2.blk (u1.blk Hbr.out (by simp)) (by simp)) (by simp)) (.int .i64 rk) (.int .i64 rn) (.string rs)
     obtain ⟨d0,d1,d2,_⟩:=blk3x q1
     refine bodyPost_ret (v:=.tuple #[.agg #[.int .i64 rk,.int .i64 rn,.string rs],.int .i64 (0),.bool true]) (by simp [results,Tryz.results148,go_sem,d0,d1,d2]) rfl ⟨?_,(((T0.out.trans0 u1).trans0 u2).trans0 tb).trans q2 (fun b hb=>.inr (by simp at hb;omega))⟩
     rw [Hf.out];rfl
   ·have Hf:=lh (hlz.trans (congrArg some (bitIf_e k ⟨rk,rn,rs⟩ hx)))
    have q6:(rx==0)=false:=by simpa using hx
    clear hlz hx
    go_enter Tryz.func148,Tryz.ntmps148
    go_wp2_with fail
    rw [<- HW.out]
    refine (Htr.out _).mono ?_
    rintro e w1 ⟨rfl,u1⟩
    obtain ⟨a0,a1,a2,a3,a4,a5,a6,_⟩:=blk7 (u1.blk Hb1.out (by simp))
    obtain ⟨b0,b1,b2,_⟩:=blk3x (u1.blk Hb2.out (by simp))
    obtain ⟨r0,r1,r2,f0,f1,f2⟩:=blk3x (u1.blk Hbr.out (by simp))
    have c0:=(T0.out.trans0 u1).cell C0.out (by simp)
    have c1:=(T0.out.trans0 u1).cell C1.out (by simp)
    have c2:=(T0.out.trans0 u1).cell C2.out (by simp)
    have c3:=(T0.out.trans0 u1).cell C3.out (by simp)
    have c4:=(T0.out.trans0 u1).cell C4.out (by simp)
    have c5:=(T0.out.trans0 u1).cell C5.out (by simp)
    have c6:=(T0.out.trans0 u1).cell C6.out (by simp)
    go_wp2_with fail
    clear a0 a1 a2 b0 b1 b2 r0 r1 r2 f0 f1 f2 a3 a4 a5 a6 c0 c1 c2 c3 c4 c5 c6
    refine (Hev.out _ (T0.out.trans0 u1)).mono ?_
    rintro e w2 ⟨rfl,u2⟩
    have tb:=(Touch.refl [] w2).alloc (.cells #[.int .i64 rk,.int .i64 rn,.string rs] 31)
    have hbz:=heap_alloc_new w2 (.cells #[.int .i64 rk,.int .i64 rn,.string rs] 31)
    obtain ⟨z0,z1,z2,_⟩:=blk3x hbz
    obtain ⟨a0,a1,a2,a3,a4,a5,a6,_⟩:=blk7 (tb.blk (u2.blk (u1.blk Hb1.out (by simp)) (by simp)) (by simp))
    obtain ⟨b0,b1,b2,_⟩:=blk3x (tb.blk (u2.blk (u1.blk Hb2.out (by simp)) (by simp)) (by simp))
    obtain ⟨r0,r1,r2,f0,f1,f2⟩:=blk3x (tb.blk (u2.blk (u1.blk Hbr.out (by simp)) (by simp)) (by simp))
    go_wp2_with fail
    obtain ⟨q1,q2⟩:=out3 (tb.blk (u2.blk (u1.blk Hbr.out (by simp)) (by simp)) (by simp)) (.int .i64 rk) (.int .i64 rn) (.string rs)
    obtain ⟨d0,d1,d2,_⟩:=blk3x q1
    refine bodyPost_ret (v:=.tuple #[.agg #[.int .i64 rk,.int .i64 rn,.string rs],.int .i64 (rx),.bool true]) (by simp [results,Tryz.results148,go_sem,d0,d1,d2]) rfl ⟨?_,(((T0.out.trans0 u1).trans0 u2).trans0 tb).trans q2 (fun b hb=>.inr (by simp at hb;omega))⟩
    rw [Hf.out];rfl
 rw [decide_eq_false (p:=nm=S [105,102]) h4] at q4
 rw [if_neg h4] at hst
 have Hf:=lh (show lazyX (evalX cs row n) ⟨k,nm,⟨vk,vn,vt⟩,op⟩ args ⟨k1,n1,s1⟩=none by unfold lazyX;rw [hst])
 clear h4 hst hq2 Htr
 go_enter Tryz.func148,Tryz.ntmps148
 go_wp2_with fail
 have q1:=heap_alloc_new ((w.alloc (.cells #[.int .i64 k,.string nm,.int .i64 vk,.int .i64 vn,.string vt,.string op,.slice A args.length c] 44)).alloc (.cells #[.int .i64 k1,.int .i64 n1,.string s1] 31)) (.cells #[.int .i64 0,.int .i64 0,.string ⟨#[]⟩] 31)
 simp only [World.size_alloc] at q1
 obtain ⟨d0,d1,d2,_⟩:=blk3x q1
 refine bodyPost_ret (v:=.tuple #[.agg #[.int .i64 0,.int .i64 0,.string ⟨#[]⟩],.int .i64 (0),.bool false]) (by simp [results,Tryz.results148,go_sem,d0,d1,d2]) rfl ⟨?_,(((Touch.refl [] w).alloc (.cells #[.int .i64 k,.string nm,.int .i64 vk,.int .i64 vn,.string vt,.string op,.slice A args.length c] 44)).alloc (.cells #[.int .i64 k1,.int .i64 n1,.string s1] 31)).alloc _⟩
 rw [Hf.out];rfl
end
end Go.Proofs.YtafoklilkdnepaaGreatDoor
