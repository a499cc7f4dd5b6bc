/- Part 16 of the texts of this proof, one behind the other. No condition beyond those that its theorems state. -/
import Derived.Test.YtafoklilkdnepaaGreatDoorRi15
import Derived.Deep.DrawnRows
set_option maxRecDepth 40000
set_option maxHeartbeats 25600000
namespace Go.Proofs.YtafoklilkdnepaaGreatDoor
section
open Go.RowKit
attribute [local go_sem ↓] Go.wp_at_zero Go.wp_at_succ
def holdsV (o c:Int):Bool:=if o=1 then c==0 else if o=2 then c != 0 else if o=3 then decide (c < 0) else if o=4 then decide (c<=0) else if o=5 then decide (0 < c) else decide (0<=c)
def compareV (o:Int) (a b:VD):VD:=if a.kind=0\/b.kind=0 then zeroV else bitV (holdsV o (cmpVV a b))
def catV (a b:VD):VD × Int:=if a.kind=0\/b.kind=0 then (zeroV,0) else if 64 < a.text.size+b.text.size then (zeroV,10) else (⟨2,0,a.text++b.text⟩,0)
def wIsnull:ByteArray:=S [105,115,110,117,108,108]
def wLen:ByteArray:=S [108,101,110]
def wAbs:ByteArray:=S [97,98,115]
def wNot:ByteArray:=S [110,111,116]
def aloneV (d:ND) (v:VD):VD × Int :=
 if d.op=wNot then (bitV (!v.tru),0)
 else if d.name=wIsnull then (bitV (decide (v.kind=0)),0)
 else if v.kind=0 then (v,0)
 else if d.name=wLen then (ofV v.text.size,0)
 else if d.name=wAbs/\0<=v.num then (v,0)
 else arithV 45 (ofV 0) v
theorem holds_any (o c:Int) (w:World):Calls Tryz.prog 186 #[.int .i64 o,.int .i64 c] w fun e w'=>e=.returned (.bool (holdsV o c))/\w'=w:=by
 by_cases h1:o=1
 ·subst h1
  go_enter Tryz.func186,Tryz.ntmps186
  go_wp2_with fail
  go_ret
  exact ⟨rfl,rfl⟩
 by_cases h2:o=2
 ·subst h2
  go_enter Tryz.func186,Tryz.ntmps186
  go_wp2_with fail
  go_ret
  exact ⟨rfl,rfl⟩
 by_cases h3:o=3
 ·subst h3
  go_enter Tryz.func186,Tryz.ntmps186
  go_wp2_with fail
  go_ret
  exact ⟨rfl,rfl⟩
 by_cases h4:o=4
 ·subst h4
  go_enter Tryz.func186,Tryz.ntmps186
  go_wp2_with fail
  go_ret
  exact ⟨rfl,rfl⟩
 by_cases h5:o=5
 ·subst h5
  go_enter Tryz.func186,Tryz.ntmps186
  go_wp2_with fail
  go_ret
  exact ⟨rfl,rfl⟩
 ·have q1:(o==1)=false:=by simpa using h1
  have q2:(o==2)=false:=by simpa using h2
  have q3:(o==3)=false:=by simpa using h3
  have q4:(o==4)=false:=by simpa using h4
  have q5:(o==5)=false:=by simpa using h5
  have Hf:=lh (show holdsV o c=decide (0<=c) by unfold holdsV;rw [if_neg h1,if_neg h2,if_neg h3,if_neg h4,if_neg h5])
  clear h1 h2 h3 h4 h5
  go_enter Tryz.func186,Tryz.ntmps186
  go_wp2_with fail
  go_ret
  exact ⟨by rw [Hf.out];rfl,rfl⟩
theorem compare_any (o:Int) (ho:1<=o/\o<=6) (a b:VD) (w:World) :
  Calls Tryz.prog 152 #[.int .i64 o,a.val,b.val] w fun e w'=>e=.returned (compareV o a b).val/\Touch [] w w':=by
 have hcmp:=fun w'=>cmpVal_any a b w'
 obtain ⟨k1,n1,s1⟩:=a
 obtain ⟨k2,n2,s2⟩:=b
 dsimp only [VD.val] at hcmp ⊢
 have t0:=(((Touch.refl [] w).alloc (.cells #[.int .i64 k1,.int .i64 n1,.string s1] 31)).alloc (.cells #[.int .i64 k2,.int .i64 n2,.string s2] 31)).alloc (.cells #[.int .i64 0,.int .i64 0,.string ⟨#[]⟩] 31)
 have hb1:=(((Touch.refl [] (w.alloc (.cells #[.int .i64 k1,.int .i64 n1,.string s1] 31))).alloc (.cells #[.int .i64 k2,.int .i64 n2,.string s2] 31)).alloc (.cells #[.int .i64 0,.int .i64 0,.string ⟨#[]⟩] 31)).blk (heap_alloc_new w (.cells #[.int .i64 k1,.int .i64 n1,.string s1] 31)) (by simp)
 have hb2:=((Touch.refl [] ((w.alloc (.cells #[.int .i64 k1,.int .i64 n1,.string s1] 31)).alloc (.cells #[.int .i64 k2,.int .i64 n2,.string s2] 31))).alloc (.cells #[.int .i64 0,.int .i64 0,.string ⟨#[]⟩] 31)).blk (heap_alloc_new (w.alloc (.cells #[.int .i64 k1,.int .i64 n1,.string s1] 31)) (.cells #[.int .i64 k2,.int .i64 n2,.string s2] 31)) (by simp)
 have hbr:=heap_alloc_new ((w.alloc (.cells #[.int .i64 k1,.int .i64 n1,.string s1] 31)).alloc (.cells #[.int .i64 k2,.int .i64 n2,.string s2] 31)) (.cells #[.int .i64 0,.int .i64 0,.string ⟨#[]⟩] 31)
 simp only [World.size_alloc] at hb2 hbr
 obtain ⟨W,hW⟩:∃ W,W=((w.alloc (.cells #[.int .i64 k1,.int .i64 n1,.string s1] 31)).alloc (.cells #[.int .i64 k2,.int .i64 n2,.string s2] 31)).alloc (.cells #[.int .i64 0,.int .i64 0,.string ⟨#[]⟩] 31):=⟨_,rfl⟩
 rw [<- hW] at hb1 hb2 hbr t0
 have HW:=lh hW;have Hb1:=lh hb1;have Hb2:=lh hb2;have Hbr:=lh hbr;have T0:=lh t0
 have Hnull:=lh fun w'=>vnull_any w'
 have Hof:=lh fun n w'=>of_any n w'
 simp only [VD.val,zeroV,ofV,S] at Hnull Hof
 clear hW hb1 hb2 hbr t0
 have Hcmp:=lh hcmp
 have Hh:=lh fun w'=>holds_any o (cmpVV ⟨k1,n1,s1⟩ ⟨k2,n2,s2⟩) w'
 clear hcmp
 obtain ⟨o1,o2⟩:=ho
 by_cases h3:k1=0
 ·have Hf:=lh (show compareV o ⟨k1,n1,s1⟩ ⟨k2,n2,s2⟩=zeroV by unfold compareV;rw [if_pos (.inl h3)])
  subst h3
  go_enter Tryz.func152,Tryz.ntmps152
  go_wp2_with fail
  rw [<- HW.out]
  refine (Hnull.out _).mono ?_
  rintro e w1 ⟨rfl,u1⟩
  obtain ⟨a0,a1,a2,_⟩:=blk3x (u1.blk Hb1.out (by simp))
  obtain ⟨b0,b1,b2,_⟩:=blk3x (u1.blk Hb2.out (by simp))
  obtain ⟨r0,r1,r2,f0,f1,f2⟩:=blk3x (u1.blk Hbr.out (by simp))
  go_wp2_with fail
  obtain ⟨q1,q2⟩:=out3 (u1.blk Hbr.out (by simp)) (.int .i64 0) (.int .i64 0) (.string ⟨#[]⟩)
  refine bodyPost_ret (results_cell_row rfl _ _ (w.heap.size+1+1) _ _ _ _ rfl q1 Tryz.underlying31 rfl rfl) rfl ⟨?_,(T0.out.trans0 u1).trans q2 (fun b hb=>.inr (by simp at hb;omega))⟩
  rw [Hf.out];rfl
 have q3:(k1==0)=false:=by simpa using h3
 by_cases h4:k2=0
 ·have Hf:=lh (show compareV o ⟨k1,n1,s1⟩ ⟨k2,n2,s2⟩=zeroV by unfold compareV;rw [if_pos (.inr h4)])
  subst h4
  clear h3
  go_enter Tryz.func152,Tryz.ntmps152
  go_wp2_with fail
  rw [<- HW.out]
  refine (Hnull.out _).mono ?_
  rintro e w1 ⟨rfl,u1⟩
  obtain ⟨a0,a1,a2,_⟩:=blk3x (u1.blk Hb1.out (by simp))
  obtain ⟨b0,b1,b2,_⟩:=blk3x (u1.blk Hb2.out (by simp))
  obtain ⟨r0,r1,r2,f0,f1,f2⟩:=blk3x (u1.blk Hbr.out (by simp))
  go_wp2_with fail
  obtain ⟨q1,q2⟩:=out3 (u1.blk Hbr.out (by simp)) (.int .i64 0) (.int .i64 0) (.string ⟨#[]⟩)
  refine bodyPost_ret (results_cell_row rfl _ _ (w.heap.size+1+1) _ _ _ _ rfl q1 Tryz.underlying31 rfl rfl) rfl ⟨?_,(T0.out.trans0 u1).trans q2 (fun b hb=>.inr (by simp at hb;omega))⟩
  rw [Hf.out];rfl
 have q4:(k2==0)=false:=by simpa using h4
 have hf:compareV o ⟨k1,n1,s1⟩ ⟨k2,n2,s2⟩=bitV (holdsV o (cmpVV ⟨k1,n1,s1⟩ ⟨k2,n2,s2⟩)):=by unfold compareV;rw [if_neg (by rintro (h | h);exact h3 h;exact h4 h)]
 obtain ⟨hb,hhb⟩:∃ hb,hb=holdsV o (cmpVV ⟨k1,n1,s1⟩ ⟨k2,n2,s2⟩):=⟨_,rfl⟩
 rw [<- hhb] at Hh hf
 have Hf:=lh hf
 clear h3 h4 hf hhb
 cases hb
 ·go_enter Tryz.func152,Tryz.ntmps152
  go_wp2_with fail
  rw [<- HW.out]
  refine (Hcmp.out _).mono ?_
  rintro e w1 ⟨rfl,u1⟩
  obtain ⟨a0,a1,a2,_⟩:=blk3x (u1.blk Hb1.out (by simp))
  obtain ⟨b0,b1,b2,_⟩:=blk3x (u1.blk Hb2.out (by simp))
  obtain ⟨r0,r1,r2,f0,f1,f2⟩:=blk3x (u1.blk Hbr.out (by simp))
  go_wp2_with fail
  clear a0 a1 a2 b0 b1 b2 r0 r1 r2 f0 f1 f2
  refine (Hh.out _).mono ?_
  rintro e w' ⟨rfl,rfl⟩
  obtain ⟨a0,a1,a2,_⟩:=blk3x (u1.blk Hb1.out (by simp))
  obtain ⟨b0,b1,b2,_⟩:=blk3x (u1.blk Hb2.out (by simp))
  obtain ⟨r0,r1,r2,f0,f1,f2⟩:=blk3x (u1.blk Hbr.out (by simp))
  go_wp2_with fail
  clear a0 a1 a2 b0 b1 b2 r0 r1 r2 f0 f1 f2
  refine (Hof.out 0 _).mono ?_
  rintro e w2 ⟨rfl,u2⟩
  obtain ⟨a0,a1,a2,_⟩:=blk3x (u2.blk (u1.blk Hb1.out (by simp)) (by simp))
  obtain ⟨b0,b1,b2,_⟩:=blk3x (u2.blk (u1.blk Hb2.out (by simp)) (by simp))
  obtain ⟨r0,r1,r2,f0,f1,f2⟩:=blk3x (u2.blk (u1.blk Hbr.out (by simp)) (by simp))
  go_wp2_with fail
  obtain ⟨q1,q2⟩:=out3 (u2.blk (u1.blk Hbr.out (by simp)) (by simp)) (.int .i64 1) (.int .i64 0) (.string ⟨#[]⟩)
  refine bodyPost_ret (results_cell_row rfl _ _ (w.heap.size+1+1) _ _ _ _ rfl q1 Tryz.underlying31 rfl rfl) rfl ⟨?_,((T0.out.trans0 u1).trans0 u2).trans q2 (fun b hb=>.inr (by simp at hb;omega))⟩
  rw [Hf.out];rfl
 ·go_enter Tryz.func152,Tryz.ntmps152
  go_wp2_with fail
  rw [<- HW.out]
  refine (Hcmp.out _).mono ?_
  rintro e w1 ⟨rfl,u1⟩
  obtain ⟨a0,a1,a2,_⟩:=blk3x (u1.blk Hb1.out (by simp))
  obtain ⟨b0,b1,b2,_⟩:=blk3x (u1.blk Hb2.out (by simp))
  obtain ⟨r0,r1,r2,f0,f1,f2⟩:=blk3x (u1.blk Hbr.out (by simp))
  go_wp2_with fail
  clear a0 a1 a2 b0 b1 b2 r0 r1 r2 f0 f1 f2
  refine (Hh.out _).mono ?_
  rintro e w' ⟨rfl,rfl⟩
  obtain ⟨a0,a1,a2,_⟩:=blk3x (u1.blk Hb1.out (by simp))
  obtain ⟨b0,b1,b2,_⟩:=blk3x (u1.blk Hb2.out (by simp))
  obtain ⟨r0,r1,r2,f0,f1,f2⟩:=blk3x (u1.blk Hbr.out (by simp))
  go_wp2_with fail
  clear a0 a1 a2 b0 b1 b2 r0 r1 r2 f0 f1 f2
  refine (Hof.out 1 _).mono ?_
  rintro e w2 ⟨rfl,u2⟩
  obtain ⟨a0,a1,a2,_⟩:=blk3x (u2.blk (u1.blk Hb1.out (by simp)) (by simp))
  obtain ⟨b0,b1,b2,_⟩:=blk3x (u2.blk (u1.blk Hb2.out (by simp)) (by simp))
  obtain ⟨r0,r1,r2,f0,f1,f2⟩:=blk3x (u2.blk (u1.blk Hbr.out (by simp)) (by simp))
  go_wp2_with fail
  obtain ⟨q1,q2⟩:=out3 (u2.blk (u1.blk Hbr.out (by simp)) (by simp)) (.int .i64 1) (.int .i64 1) (.string ⟨#[]⟩)
  refine bodyPost_ret (results_cell_row rfl _ _ (w.heap.size+1+1) _ _ _ _ rfl q1 Tryz.underlying31 rfl rfl) rfl ⟨?_,((T0.out.trans0 u1).trans0 u2).trans q2 (fun b hb=>.inr (by simp at hb;omega))⟩
  rw [Hf.out];rfl
theorem cat_any (a b:VD) (ha:a.text.size<=140737000000000) (hb:b.text.size<=140737000000000) (w:World) :
  Calls Tryz.prog 151 #[a.val,b.val] w fun e w'=>e=.returned (.tuple #[(catV a b).1.val,.int .i64 (catV a b).2])/\Touch [] w w':=by
 obtain ⟨k1,n1,s1⟩:=a
 obtain ⟨k2,n2,s2⟩:=b
 dsimp only [VD.val] at ha hb ⊢
 have t0:=(((Touch.refl [] w).alloc (.cells #[.int .i64 k1,.int .i64 n1,.string s1] 31)).alloc (.cells #[.int .i64 k2,.int .i64 n2,.string s2] 31)).alloc (.cells #[.int .i64 0,.int .i64 0,.string ⟨#[]⟩] 31)
 have hb1:=(((Touch.refl [] (w.alloc (.cells #[.int .i64 k1,.int .i64 n1,.string s1] 31))).alloc (.cells #[.int .i64 k2,.int .i64 n2,.string s2] 31)).alloc (.cells #[.int .i64 0,.int .i64 0,.string ⟨#[]⟩] 31)).blk (heap_alloc_new w (.cells #[.int .i64 k1,.int .i64 n1,.string s1] 31)) (by simp)
 have hb2:=((Touch.refl [] ((w.alloc (.cells #[.int .i64 k1,.int .i64 n1,.string s1] 31)).alloc (.cells #[.int .i64 k2,.int .i64 n2,.string s2] 31))).alloc (.cells #[.int .i64 0,.int .i64 0,.string ⟨#[]⟩] 31)).blk (heap_alloc_new (w.alloc (.cells #[.int .i64 k1,.int .i64 n1,.string s1] 31)) (.cells #[.int .i64 k2,.int .i64 n2,.string s2] 31)) (by simp)
 have hbr:=heap_alloc_new ((w.alloc (.cells #[.int .i64 k1,.int .i64 n1,.string s1] 31)).alloc (.cells #[.int .i64 k2,.int .i64 n2,.string s2] 31)) (.cells #[.int .i64 0,.int .i64 0,.string ⟨#[]⟩] 31)
 simp only [World.size_alloc] at hb2 hbr
 obtain ⟨W,hW⟩:∃ W,W=((w.alloc (.cells #[.int .i64 k1,.int .i64 n1,.string s1] 31)).alloc (.cells #[.int .i64 k2,.int .i64 n2,.string s2] 31)).alloc (.cells #[.int .i64 0,.int .i64 0,.string ⟨#[]⟩] 31):=⟨_,rfl⟩
 rw [<- hW] at hb1 hb2 hbr t0
 have HW:=lh hW;have Hb1:=lh hb1;have Hb2:=lh hb2;have Hbr:=lh hbr;have T0:=lh t0
 have Hnull:=lh fun w'=>vnull_any w'
 have Hof:=lh fun n w'=>of_any n w'
 simp only [VD.val,zeroV,ofV,S] at Hnull Hof
 clear hW hb1 hb2 hbr t0
 have Htx:=lh fun s w'=>text_any s w'
 simp only [VD.val] at Htx
 by_cases h3:k1=0
 ·have Hf:=lh (show catV ⟨k1,n1,s1⟩ ⟨k2,n2,s2⟩=(zeroV,0) by unfold catV;rw [if_pos (.inl h3)])
  subst h3
  go_enter Tryz.func151,Tryz.ntmps151
  go_wp2_with fail
  rw [<- HW.out]
  refine (Hnull.out _).mono ?_
  rintro e w1 ⟨rfl,u1⟩
  obtain ⟨a0,a1,a2,_⟩:=blk3x (u1.blk Hb1.out (by simp))
  obtain ⟨b0,b1,b2,_⟩:=blk3x (u1.blk Hb2.out (by simp))
  obtain ⟨r0,r1,r2,f0,f1,f2⟩:=blk3x (u1.blk Hbr.out (by simp))
  go_wp2_with fail
  obtain ⟨q1,q2⟩:=out3 (u1.blk Hbr.out (by simp)) (.int .i64 0) (.int .i64 0) (.string ⟨#[]⟩)
  obtain ⟨d0,d1,d2,_⟩:=blk3x q1
  refine bodyPost_ret (v:=.tuple #[.agg #[.int .i64 0,.int .i64 0,.string ⟨#[]⟩],.int .i64 (0)]) (by simp [results,Tryz.results151,go_sem,d0,d1,d2]) rfl ⟨?_,(T0.out.trans0 u1).trans q2 (fun b hb=>.inr (by simp at hb;omega))⟩
  rw [Hf.out];rfl
 have q3:(k1==0)=false:=by simpa using h3
 by_cases h4:k2=0
 ·have Hf:=lh (show catV ⟨k1,n1,s1⟩ ⟨k2,n2,s2⟩=(zeroV,0) by unfold catV;rw [if_pos (.inr h4)])
  subst h4
  clear h3
  go_enter Tryz.func151,Tryz.ntmps151
  go_wp2_with fail
  rw [<- HW.out]
  refine (Hnull.out _).mono ?_
  rintro e w1 ⟨rfl,u1⟩
  obtain ⟨a0,a1,a2,_⟩:=blk3x (u1.blk Hb1.out (by simp))
  obtain ⟨b0,b1,b2,_⟩:=blk3x (u1.blk Hb2.out (by simp))
  obtain ⟨r0,r1,r2,f0,f1,f2⟩:=blk3x (u1.blk Hbr.out (by simp))
  go_wp2_with fail
  obtain ⟨q1,q2⟩:=out3 (u1.blk Hbr.out (by simp)) (.int .i64 0) (.int .i64 0) (.string ⟨#[]⟩)
  obtain ⟨d0,d1,d2,_⟩:=blk3x q1
  refine bodyPost_ret (v:=.tuple #[.agg #[.int .i64 0,.int .i64 0,.string ⟨#[]⟩],.int .i64 (0)]) (by simp [results,Tryz.results151,go_sem,d0,d1,d2]) rfl ⟨?_,(T0.out.trans0 u1).trans q2 (fun b hb=>.inr (by simp at hb;omega))⟩
  rw [Hf.out];rfl
 have q4:(k2==0)=false:=by simpa using h4
 have hne:¬ (k1=0\/k2=0):=by rintro (h | h);exact h3 h;exact h4 h
 clear h3 h4
 by_cases h6:64 < s1.size+s2.size
 ·have Hf:=lh (show catV ⟨k1,n1,s1⟩ ⟨k2,n2,s2⟩=(zeroV,10) by unfold catV;rw [if_neg hne,if_pos h6])
  have h6I:(64:Int) < (s1.size:Int)+(s2.size:Int):=by omega
  go_enter Tryz.func151,Tryz.ntmps151
  go_wp2_with fail
  rw [<- HW.out]
  have q1:=Hbr.out
  have q2:=Touch.refl [w.heap.size+1+1] W
  obtain ⟨d0,d1,d2,_⟩:=blk3x q1
  refine bodyPost_ret (v:=.tuple #[.agg #[.int .i64 0,.int .i64 0,.string ⟨#[]⟩],.int .i64 (10)]) (by simp [results,Tryz.results151,go_sem,d0,d1,d2]) rfl ⟨?_,T0.out.trans q2 (fun b hb=>.inr (by simp at hb;omega))⟩
  rw [Hf.out];rfl
 ·have Hf:=lh (show catV ⟨k1,n1,s1⟩ ⟨k2,n2,s2⟩=(⟨2,0,s1++s2⟩,0) by unfold catV;rw [if_neg hne,if_neg h6])
  have h6I:¬ (64:Int) < (s1.size:Int)+(s2.size:Int):=by omega
  go_enter Tryz.func151,Tryz.ntmps151
  go_wp2_with fail
  rw [<- HW.out]
  refine (Htx.out _ _).mono ?_
  rintro e w1 ⟨rfl,u1⟩
  obtain ⟨a0,a1,a2,_⟩:=blk3x (u1.blk Hb1.out (by simp))
  obtain ⟨b0,b1,b2,_⟩:=blk3x (u1.blk Hb2.out (by simp))
  obtain ⟨r0,r1,r2,f0,f1,f2⟩:=blk3x (u1.blk Hbr.out (by simp))
  go_wp2_with fail
  obtain ⟨q1,q2⟩:=out3 (u1.blk Hbr.out (by simp)) (.int .i64 2) (.int .i64 0) (.string (s1++s2))
  obtain ⟨d0,d1,d2,_⟩:=blk3x q1
  refine bodyPost_ret (v:=.tuple #[.agg #[.int .i64 2,.int .i64 0,.string (s1++s2)],.int .i64 (0)]) (by simp [results,Tryz.results151,go_sem,d0,d1,d2]) rfl ⟨?_,(T0.out.trans0 u1).trans q2 (fun b hb=>.inr (by simp at hb;omega))⟩
  rw [Hf.out]
end
section
open Go.RowKit
attribute [local go_sem ↓] Go.wp_at_zero Go.wp_at_succ
theorem beq_S (x:ByteArray) (l:List UInt8):(x.toList==l)=decide (x=S l):=by
 have:=bs_beq x (S l)
 rwa [S_list] at this
theorem alone_any (x:XC) (v:VD) (w:World) :
  Calls Tryz.prog 149 #[x.val,v.val] w fun e w'=>e=.returned (.tuple #[(aloneV x.nd v).1.val,.int .i64 (aloneV x.nd v).2])/\Touch [] w w':=by
 have htr:=fun w'=>true_any v w'
 have har:=fun w'=>arith_any 45 (by simp) (ofV 0) v w'
 obtain ⟨tr,htre⟩:∃ tr,tr=v.tru:=⟨_,rfl⟩
 rw [<- htre] at htr
 obtain ⟨ar,hare⟩:∃ ar,ar=arithV 45 (ofV 0) v:=⟨_,rfl⟩
 rw [<- hare] at har
 obtain ⟨⟨k,nm,⟨vk,vn,vt⟩,op⟩,A,m,c⟩:=x
 obtain ⟨k1,n1,s1⟩:=v
 dsimp only [XC.val,VD.val]
 have t0:=(((Touch.refl [] w).alloc (.cells #[.int .i64 k,.string nm,.int .i64 vk,.int .i64 vn,.string vt,.string op,.slice A m c] 44)).alloc (.cells #[.int .i64 k1,.int .i64 n1,.string s1] 31)).alloc (.cells #[.int .i64 0,.int .i64 0,.string ⟨#[]⟩] 31)
 have hb1:=(((Touch.refl [] (w.alloc (.cells #[.int .i64 k,.string nm,.int .i64 vk,.int .i64 vn,.string vt,.string op,.slice A m c] 44))).alloc (.cells #[.int .i64 k1,.int .i64 n1,.string s1] 31)).alloc (.cells #[.int .i64 0,.int .i64 0,.string ⟨#[]⟩] 31)).blk (heap_alloc_new w (.cells #[.int .i64 k,.string nm,.int .i64 vk,.int .i64 vn,.string vt,.string op,.slice A m c] 44)) (by simp)
 have hb2:=((Touch.refl [] ((w.alloc (.cells #[.int .i64 k,.string nm,.int .i64 vk,.int .i64 vn,.string vt,.string op,.slice A m c] 44)).alloc (.cells #[.int .i64 k1,.int .i64 n1,.string s1] 31))).alloc (.cells #[.int .i64 0,.int .i64 0,.string ⟨#[]⟩] 31)).blk (heap_alloc_new (w.alloc (.cells #[.int .i64 k,.string nm,.int .i64 vk,.int .i64 vn,.string vt,.string op,.slice A m c] 44)) (.cells #[.int .i64 k1,.int .i64 n1,.string s1] 31)) (by simp)
 have hbr:=heap_alloc_new ((w.alloc (.cells #[.int .i64 k,.string nm,.int .i64 vk,.int .i64 vn,.string vt,.string op,.slice A m c] 44)).alloc (.cells #[.int .i64 k1,.int .i64 n1,.string s1] 31)) (.cells #[.int .i64 0,.int .i64 0,.string ⟨#[]⟩] 31)
 simp only [World.size_alloc] at hb2 hbr
 obtain ⟨W,hW⟩:∃ W,W=((w.alloc (.cells #[.int .i64 k,.string nm,.int .i64 vk,.int .i64 vn,.string vt,.string op,.slice A m c] 44)).alloc (.cells #[.int .i64 k1,.int .i64 n1,.string s1] 31)).alloc (.cells #[.int .i64 0,.int .i64 0,.string ⟨#[]⟩] 31):=⟨_,rfl⟩
 rw [<- hW] at hb1 hb2 hbr t0
 have HW:=lh hW;have Hb1:=lh hb1;have Hb2:=lh hb2;have Hbr:=lh hbr;have T0:=lh t0
 have Hnull:=lh fun w'=>vnull_any w'
 have Hof:=lh fun n w'=>of_any n w'
 simp only [VD.val,zeroV,ofV,S] at Hnull Hof
 clear hW hb1 hb2 hbr t0
 simp only [VD.val] at htr
 simp only [VD.val,ofV,S] at har
 have HbT:=lh fun w'=>bit_any true w'
 have HbF:=lh fun w'=>bit_any false w'
 simp only [bitV,if_true,Bool.false_eq_true,if_false,VD.val,ofV,S] at HbT HbF
 have Htr:=lh htr
 have q1:=beq_S op [110,111,116]
 have q2:=beq_S nm [105,115,110,117,108,108]
 have q3:=beq_S nm [108,101,110]
 have q4:=beq_S nm [97,98,115]
 have hst:aloneV ⟨k,nm,⟨vk,vn,vt⟩,op⟩ ⟨k1,n1,s1⟩=(if op=wNot then (bitV (!tr),0) else if nm=wIsnull then (bitV (decide (k1=0)),0) else if k1=0 then (⟨k1,n1,s1⟩,0) else if nm=wLen then (ofV s1.size,0) else if nm=wAbs/\0<=n1 then (⟨k1,n1,s1⟩,0) else ar):=by
  rw [htre,hare];rfl
 clear htre hare htr
 by_cases h1:op=wNot
 ·rw [decide_eq_true (p:=op=S [110,111,116]) h1] at q1
  rw [if_pos h1] at hst
  have Hf:=lh hst
  clear hst h1 har
  cases tr
  ·simp only [bitV,Bool.not_false,if_true] at Hf
   go_enter Tryz.func149,Tryz.ntmps149
   go_wp2_with fail
   rw [<- HW.out]
   refine (Htr.out _).mono ?_
   rintro e w1 ⟨rfl,u1⟩
   obtain ⟨a0,a1,a2,a3,a4,a5,a6,_⟩:=blk7 (u1.blk Hb1.out (by simp))
   obtain ⟨b0,b1,b2,_⟩:=blk3x (u1.blk Hb2.out (by simp))
   obtain ⟨r0,r1,r2,f0,f1,f2⟩:=blk3x (u1.blk Hbr.out (by simp))
   go_wp2_with fail
   clear a0 a1 a2 b0 b1 b2 r0 r1 r2 f0 f1 f2 a3 a4 a5 a6
   refine (HbT.out _).mono ?_
   rintro e w2 ⟨rfl,u2⟩
   obtain ⟨a0,a1,a2,a3,a4,a5,a6,_⟩:=blk7 (u2.blk (u1.blk Hb1.out (by simp)) (by simp))
   obtain ⟨b0,b1,b2,_⟩:=blk3x (u2.blk (u1.blk Hb2.out (by simp)) (by simp))
   obtain ⟨r0,r1,r2,f0,f1,f2⟩:=blk3x (u2.blk (u1.blk Hbr.out (by simp)) (by simp))
   go_wp2_with fail
   obtain ⟨q1,q2⟩:=out3 (u2.blk (u1.blk Hbr.out (by simp)) (by simp)) (.int .i64 1) (.int .i64 1) (.string ⟨#[]⟩)
   obtain ⟨d0,d1,d2,_⟩:=blk3x q1
   refine bodyPost_ret (v:=.tuple #[.agg #[.int .i64 1,.int .i64 1,.string ⟨#[]⟩],.int .i64 (0)]) (by simp [results,Tryz.results149,go_sem,d0,d1,d2]) rfl ⟨?_,((T0.out.trans0 u1).trans0 u2).trans q2 (fun b hb=>.inr (by simp at hb;omega))⟩
   rw [Hf.out];rfl
  ·simp only [bitV,Bool.not_true,Bool.false_eq_true,if_false] at Hf
   go_enter Tryz.func149,Tryz.ntmps149
   go_wp2_with fail
   rw [<- HW.out]
   refine (Htr.out _).mono ?_
   rintro e w1 ⟨rfl,u1⟩
   obtain ⟨a0,a1,a2,a3,a4,a5,a6,_⟩:=blk7 (u1.blk Hb1.out (by simp))
   obtain ⟨b0,b1,b2,_⟩:=blk3x (u1.blk Hb2.out (by simp))
   obtain ⟨r0,r1,r2,f0,f1,f2⟩:=blk3x (u1.blk Hbr.out (by simp))
   go_wp2_with fail
   clear a0 a1 a2 b0 b1 b2 r0 r1 r2 f0 f1 f2 a3 a4 a5 a6
   refine (HbF.out _).mono ?_
   rintro e w2 ⟨rfl,u2⟩
   obtain ⟨a0,a1,a2,a3,a4,a5,a6,_⟩:=blk7 (u2.blk (u1.blk Hb1.out (by simp)) (by simp))
   obtain ⟨b0,b1,b2,_⟩:=blk3x (u2.blk (u1.blk Hb2.out (by simp)) (by simp))
   obtain ⟨r0,r1,r2,f0,f1,f2⟩:=blk3x (u2.blk (u1.blk Hbr.out (by simp)) (by simp))
   go_wp2_with fail
   obtain ⟨q1,q2⟩:=out3 (u2.blk (u1.blk Hbr.out (by simp)) (by simp)) (.int .i64 1) (.int .i64 0) (.string ⟨#[]⟩)
   obtain ⟨d0,d1,d2,_⟩:=blk3x q1
   refine bodyPost_ret (v:=.tuple #[.agg #[.int .i64 1,.int .i64 0,.string ⟨#[]⟩],.int .i64 (0)]) (by simp [results,Tryz.results149,go_sem,d0,d1,d2]) rfl ⟨?_,((T0.out.trans0 u1).trans0 u2).trans q2 (fun b hb=>.inr (by simp at hb;omega))⟩
   rw [Hf.out];rfl
 rw [decide_eq_false (p:=op=S [110,111,116]) h1] at q1
 rw [if_neg h1] at hst
 clear h1 Htr
 by_cases h2:nm=wIsnull
 ·rw [decide_eq_true (p:=nm=S [105,115,110,117,108,108]) h2] at q2
  rw [if_pos h2] at hst
  have Hf:=lh hst
  clear hst h2 har q3 q4
  by_cases h5:k1=0
  ·subst h5
   simp only [decide_true,bitV,if_true] at Hf
   go_enter Tryz.func149,Tryz.ntmps149
   go_wp2_with fail
   rw [<- HW.out]
   refine (HbT.out _).mono ?_
   rintro e w1 ⟨rfl,u1⟩
   obtain ⟨a0,a1,a2,a3,a4,a5,a6,_⟩:=blk7 (u1.blk Hb1.out (by simp))
   obtain ⟨b0,b1,b2,_⟩:=blk3x (u1.blk Hb2.out (by simp))
   obtain ⟨r0,r1,r2,f0,f1,f2⟩:=blk3x (u1.blk Hbr.out (by simp))
   go_wp2_with fail
   obtain ⟨q1,q2⟩:=out3 (u1.blk Hbr.out (by simp)) (.int .i64 1) (.int .i64 1) (.string ⟨#[]⟩)
   obtain ⟨d0,d1,d2,_⟩:=blk3x q1
   refine bodyPost_ret (v:=.tuple #[.agg #[.int .i64 1,.int .i64 1,.string ⟨#[]⟩],.int .i64 (0)]) (by simp [results,Tryz.results149,go_sem,d0,d1,d2]) rfl ⟨?_,(T0.out.trans0 u1).trans q2 (fun b hb=>.inr (by simp at hb;omega))⟩
   rw [Hf.out];rfl
  ·have q5:(k1==0)=false:=by simpa using h5
   simp only [h5,decide_false,bitV,Bool.false_eq_true,if_false] at Hf
   go_enter Tryz.func149,Tryz.ntmps149
   go_wp2_with fail
   rw [<- HW.out]
   refine (HbF.out _).mono ?_
   rintro e w1 ⟨rfl,u1⟩
   obtain ⟨a0,a1,a2,a3,a4,a5,a6,_⟩:=blk7 (u1.blk Hb1.out (by simp))
   obtain ⟨b0,b1,b2,_⟩:=blk3x (u1.blk Hb2.out (by simp))
   obtain ⟨r0,r1,r2,f0,f1,f2⟩:=blk3x (u1.blk Hbr.out (by simp))
   go_wp2_with fail
   obtain ⟨q1,q2⟩:=out3 (u1.blk Hbr.out (by simp)) (.int .i64 1) (.int .i64 0) (.string ⟨#[]⟩)
   obtain ⟨d0,d1,d2,_⟩:=blk3x q1
   refine bodyPost_ret (v:=.tuple #[.agg #[.int .i64 1,.int .i64 0,.string ⟨#[]⟩],.int .i64 (0)]) (by simp [results,Tryz.results149,go_sem,d0,d1,d2]) rfl ⟨?_,(T0.out.trans0 u1).trans q2 (fun b hb=>.inr (by simp at hb;omega))⟩
   rw [Hf.out];rfl
 rw [decide_eq_false (p:=nm=S [105,115,110,117,108,108]) h2] at q2
 rw [if_neg h2] at hst
 clear h2 HbT HbF
 by_cases h5:k1=0
 ·rw [if_pos h5] at hst
  have Hf:=lh hst
  clear hst har
  subst h5
  go_enter Tryz.func149,Tryz.ntmps149
  go_wp2_with fail
  have q1:=heap_alloc_new ((w.alloc (.cells #[.int .i64 k,.string nm,.int .i64 vk,.int .i64 vn,.string vt,.string op,.slice A m c] 44)).alloc (.cells #[.int .i64 0,.int .i64 n1,.string s1] 31)) (.cells #[.int .i64 0,.int .i64 n1,.string s1] 31)
  simp only [World.size_alloc] at q1
  obtain ⟨d0,d1,d2,_⟩:=blk3x q1
  refine bodyPost_ret (v:=.tuple #[.agg #[.int .i64 0,.int .i64 n1,.string s1],.int .i64 (0)]) (by simp [results,Tryz.results149,go_sem,d0,d1,d2]) rfl ⟨?_,(((Touch.refl [] w).alloc (.cells #[.int .i64 k,.string nm,.int .i64 vk,.int .i64 vn,.string vt,.string op,.slice A m c] 44)).alloc (.cells #[.int .i64 0,.int .i64 n1,.string s1] 31)).alloc _⟩
  rw [Hf.out]
 have q5:(k1==0)=false:=by simpa using h5
 rw [if_neg h5] at hst
 clear h5
 by_cases h3:nm=wLen
 ·rw [decide_eq_true (p:=nm=S [108,101,110]) h3] at q3
  rw [if_pos h3] at hst
  have Hf:=lh hst
  clear hst h3 har q4
  go_enter Tryz.func149,Tryz.ntmps149
  go_wp2_with fail
  rw [<- HW.out]
  refine (Hof.out _ _).mono ?_
  rintro e w1 ⟨rfl,u1⟩
  obtain ⟨a0,a1,a2,a3,a4,a5,a6,_⟩:=blk7 (u1.blk Hb1.out (by simp))
  obtain ⟨b0,b1,b2,_⟩:=blk3x (u1.blk Hb2.out (by simp))
  obtain ⟨r0,r1,r2,f0,f1,f2⟩:=blk3x (u1.blk Hbr.out (by simp))
  go_wp2_with fail
  obtain ⟨q1,q2⟩:=out3 (u1.blk Hbr.out (by simp)) (.int .i64 1) (.int .i64 s1.size) (.string ⟨#[]⟩)
  obtain ⟨d0,d1,d2,_⟩:=blk3x q1
  refine bodyPost_ret (v:=.tuple #[.agg #[.int .i64 1,.int .i64 s1.size,.string ⟨#[]⟩],.int .i64 (0)]) (by simp [results,Tryz.results149,go_sem,d0,d1,d2]) rfl ⟨?_,(T0.out.trans0 u1).trans q2 (fun b hb=>.inr (by simp at hb;omega))⟩
  rw [Hf.out];rfl
 rw [decide_eq_false (p:=nm=S [108,101,110]) h3] at q3
 rw [if_neg h3] at hst
 clear h3
 by_cases h4:nm=wAbs/\0<=n1
 ·rw [if_pos h4] at hst
  obtain ⟨h4a,h4b⟩:=h4
  rw [decide_eq_true (p:=nm=S [97,98,115]) h4a] at q4
  have Hf:=lh hst
  clear hst h4a har
  go_enter Tryz.func149,Tryz.ntmps149
  go_wp2_with fail
  have q1:=heap_alloc_new ((w.alloc (.cells #[.int .i64 k,.string nm,.int .i64 vk,.int .i64 vn,.string vt,.string op,.slice A m c] 44)).alloc (.cells #[.int .i64 k1,.int .i64 n1,.string s1] 31)) (.cells #[.int .i64 k1,.int .i64 n1,.string s1] 31)
  simp only [World.size_alloc] at q1
  obtain ⟨d0,d1,d2,_⟩:=blk3x q1
  refine bodyPost_ret (v:=.tuple #[.agg #[.int .i64 k1,.int .i64 n1,.string s1],.int .i64 (0)]) (by simp [results,Tryz.results149,go_sem,d0,d1,d2]) rfl ⟨?_,(((Touch.refl [] w).alloc (.cells #[.int .i64 k,.string nm,.int .i64 vk,.int .i64 vn,.string vt,.string op,.slice A m c] 44)).alloc (.cells #[.int .i64 k1,.int .i64 n1,.string s1] 31)).alloc _⟩
  rw [Hf.out]
 rw [if_neg h4] at hst
 have Har:=lh har
 have Hf:=lh hst
 clear hst har
 have td:=(Touch.refl [] W).drew
 obtain ⟨v0,v1,v2,_⟩:=blk3x (td.blk Hb2.out (by simp))
 obtain ⟨⟨rk,rn,rs⟩,rx⟩:=ar
 simp only at Har Hf
 by_cases h4a:nm=wAbs
 ·have h4b:¬ 0<=n1:=fun h=>h4 ⟨h4a,h⟩
  rw [decide_eq_true (p:=nm=S [97,98,115]) h4a] at q4
  clear h4 h4a
  go_enter Tryz.func149,Tryz.ntmps149
  go_wp2_with fail
  rw [<- HW.out]
  refine wp_region_held_drew (S:=fun w'=>w'.cell? ⟨w.heap.size+1,0,none⟩=some (.int .i64 k1)/\w'.cell? ⟨w.heap.size+1,1,none⟩=some (.int .i64 n1)/\w'.cell? ⟨w.heap.size+1,2,none⟩=some (.string s1)) (by kernel_rfl) ⟨v0,v1,v2⟩ (fun hHeld => ?_)
  refine take_d (i:=1) (d:=46) (v := ?_) rfl rfl (by kernel_rfl) (by kernel_rfl) (by kernel_rfl) (fun _ _ _ h=>h) (Or.inl ⟨by rfl, ?_⟩) (by assumption) ?_
  rotate_left
  ·intro w hSw;(try dsimp only at hSw);go_simp;(try with_reducible rfl)
  try simp only [Act.put,List.setIfInBounds_toArray,List.set_cons_zero,List.set_cons_succ]
  refine wpAnyH_ready (rs:=[0]) (by kernel_rfl) (by simp) ?_
  refine AllReadyH.cons rfl (fun K hK => ?_) AllReadyH.nil
  go_simp
  go_at_call 11
  refine (Hof.out 0 _).mono ?_
  rintro e w1 ⟨rfl,u1⟩
  have v0':=u1.cell v0 (by simp)
  have v1':=u1.cell v1 (by simp)
  have v2':=u1.cell v2 (by simp)
  (try go_wp2_with fail)
  refine hK.out _ _ ⟨v0',v1',v2'⟩ (fun _hH => ?_)
  clear hK K
  try simp only [Act.put,List.setIfInBounds_toArray,List.set_cons_zero,List.set_cons_succ]
  refine wpAnyH_ready (rs:=[2]) (by kernel_rfl) (by simp) ?_
  refine AllReadyH.cons rfl (fun K hK => ?_) AllReadyH.nil
  go_simp
  go_at_call 153
  refine (Har.out _).mono ?_
  rintro e w2 ⟨rfl,u2⟩
  have v0'':=u2.cell v0' (by simp)
  have v1'':=u2.cell v1' (by simp)
  have v2'':=u2.cell v2' (by simp)
  (try go_wp2_with fail)
  refine hK.out _ _ ⟨v0'',v1'',v2''⟩ (fun _hH => ?_)
  clear hK K
  try simp only [Act.put,List.setIfInBounds_toArray,List.set_cons_zero,List.set_cons_succ]
  refine take_d (i:=3) (d:=48) (v := ?_) rfl rfl (by kernel_rfl) (by kernel_rfl) (by kernel_rfl) (fun _ _ _ h=>h) (Or.inl ⟨by rfl, ?_⟩) (by assumption) ?_
  rotate_left
  ·intro w hSw;(try dsimp only at hSw);go_simp;(try with_reducible rfl)
  try simp only [Act.put,List.setIfInBounds_toArray,List.set_cons_zero,List.set_cons_succ]
  refine take_d (i:=4) (d:=49) (v := ?_) rfl rfl (by kernel_rfl) (by kernel_rfl) (by kernel_rfl) (fun _ _ _ h=>h) (Or.inl ⟨by rfl, ?_⟩) (by assumption) ?_
  rotate_left
  ·intro w hSw;(try dsimp only at hSw);go_simp;(try with_reducible rfl)
  try simp only [Act.put,List.setIfInBounds_toArray,List.set_cons_zero,List.set_cons_succ]
  have hbr2:=(td.trans0 (u1.trans0 u2)).blk Hbr.out (by simp)
  obtain ⟨r0,r1,r2,f0,f1,f2⟩:=blk3x hbr2
  obtain ⟨q1,q2⟩:=out3 hbr2 (.int .i64 rk) (.int .i64 rn) (.string rs)
  have z0:=q2.cell v0'' (by simp only [List.mem_singleton];omega)
  have z1:=q2.cell v1'' (by simp only [List.mem_singleton];omega)
  have z2:=q2.cell v2'' (by simp only [List.mem_singleton];omega)
  refine wpAnyH_ready (rs:=[5]) (by kernel_rfl) (by simp) ?_
  refine AllReadyH.cons rfl (fun K hK => ?_) AllReadyH.nil
  go_simp
  (try go_wp2_with fail)
  refine hK.out _ _ ⟨z0,z1,z2⟩ (fun _hH => ?_)
  clear hK K
  try simp only [Act.put,List.setIfInBounds_toArray,List.set_cons_zero,List.set_cons_succ]
  refine take_d (i:=6) (d:=5) (v := ?_) rfl rfl (by kernel_rfl) (by kernel_rfl) (by kernel_rfl) (fun _ _ _ h=>h) (Or.inl ⟨by rfl, ?_⟩) (by assumption) ?_
  rotate_left
  ·intro w hSw;(try dsimp only at hSw);go_simp;(try with_reducible rfl)
  try simp only [Act.put,List.setIfInBounds_toArray,List.set_cons_zero,List.set_cons_succ]
  refine wpAnyH_done (by kernel_rfl) ?_ _
  go_wp2_with fail
  obtain ⟨d0,d1,d2,_⟩:=blk3x q1
  refine bodyPost_ret (v:=.tuple #[.agg #[.int .i64 rk,.int .i64 rn,.string rs],.int .i64 rx]) (by simp [results,Tryz.results149,go_sem,d0,d1,d2]) rfl ⟨?_,(T0.out.trans0 (td.trans0 (u1.trans0 u2))).trans q2 (fun b hb=>.inr (by simp at hb;omega))⟩
  rw [Hf.out]
 ·rw [decide_eq_false (p:=nm=S [97,98,115]) h4a] at q4
  clear h4 h4a
  go_enter Tryz.func149,Tryz.ntmps149
  go_wp2_with fail
  rw [<- HW.out]
  refine wp_region_held_drew (S:=fun w'=>w'.cell? ⟨w.heap.size+1,0,none⟩=some (.int .i64 k1)/\w'.cell? ⟨w.heap.size+1,1,none⟩=some (.int .i64 n1)/\w'.cell? ⟨w.heap.size+1,2,none⟩=some (.string s1)) (by kernel_rfl) ⟨v0,v1,v2⟩ (fun hHeld => ?_)
  refine take_d (i:=1) (d:=46) (v := ?_) rfl rfl (by kernel_rfl) (by kernel_rfl) (by kernel_rfl) (fun _ _ _ h=>h) (Or.inl ⟨by rfl, ?_⟩) (by assumption) ?_
  rotate_left
  ·intro w hSw;(try dsimp only at hSw);go_simp;(try with_reducible rfl)
  try simp only [Act.put,List.setIfInBounds_toArray,List.set_cons_zero,List.set_cons_succ]
  refine wpAnyH_ready (rs:=[0]) (by kernel_rfl) (by simp) ?_
  refine AllReadyH.cons rfl (fun K hK => ?_) AllReadyH.nil
  go_simp
  go_at_call 11
  refine (Hof.out 0 _).mono ?_
  rintro e w1 ⟨rfl,u1⟩
  have v0':=u1.cell v0 (by simp)
  have v1':=u1.cell v1 (by simp)
  have v2':=u1.cell v2 (by simp)
  (try go_wp2_with fail)
  refine hK.out _ _ ⟨v0',v1',v2'⟩ (fun _hH => ?_)
  clear hK K
  try simp only [Act.put,List.setIfInBounds_toArray,List.set_cons_zero,List.set_cons_succ]
  refine wpAnyH_ready (rs:=[2]) (by kernel_rfl) (by simp) ?_
  refine AllReadyH.cons rfl (fun K hK => ?_) AllReadyH.nil
  go_simp
  go_at_call 153
  refine (Har.out _).mono ?_
  rintro e w2 ⟨rfl,u2⟩
  have v0'':=u2.cell v0' (by simp)
  have v1'':=u2.cell v1' (by simp)
  have v2'':=u2.cell v2' (by simp)
  (try go_wp2_with fail)
  refine hK.out _ _ ⟨v0'',v1'',v2''⟩ (fun _hH => ?_)
  clear hK K
  try simp only [Act.put,List.setIfInBounds_toArray,List.set_cons_zero,List.set_cons_succ]
  refine take_d (i:=3) (d:=48) (v := ?_) rfl rfl (by kernel_rfl) (by kernel_rfl) (by kernel_rfl) (fun _ _ _ h=>h) (Or.inl ⟨by rfl, ?_⟩) (by assumption) ?_
  rotate_left
  ·intro w hSw;(try dsimp only at hSw);go_simp;(try with_reducible rfl)
  try simp only [Act.put,List.setIfInBounds_toArray,List.set_cons_zero,List.set_cons_succ]
  refine take_d (i:=4) (d:=49) (v := ?_) rfl rfl (by kernel_rfl) (by kernel_rfl) (by kernel_rfl) (fun _ _ _ h=>h) (Or.inl ⟨by rfl, ?_⟩) (by assumption) ?_
  rotate_left
  ·intro w hSw;(try dsimp only at hSw);go_simp;(try with_reducible rfl)
  try simp only [Act.put,List.setIfInBounds_toArray,List.set_cons_zero,List.set_cons_succ]
  have hbr2:=(td.trans0 (u1.trans0 u2)).blk Hbr.out (by simp)
  obtain ⟨r0,r1,r2,f0,f1,f2⟩:=blk3x hbr2
  obtain ⟨q1,q2⟩:=out3 hbr2 (.int .i64 rk) (.int .i64 rn) (.string rs)
  have z0:=q2.cell v0'' (by simp only [List.mem_singleton];omega)
  have z1:=q2.cell v1'' (by simp only [List.mem_singleton];omega)
  have z2:=q2.cell v2'' (by simp only [List.mem_singleton];omega)
  refine wpAnyH_ready (rs:=[5]) (by kernel_rfl) (by simp) ?_
  refine AllReadyH.cons rfl (fun K hK => ?_) AllReadyH.nil
  go_simp
  (try go_wp2_with fail)
  refine hK.out _ _ ⟨z0,z1,z2⟩ (fun _hH => ?_)
  clear hK K
  try simp only [Act.put,List.setIfInBounds_toArray,List.set_cons_zero,List.set_cons_succ]
  refine take_d (i:=6) (d:=5) (v := ?_) rfl rfl (by kernel_rfl) (by kernel_rfl) (by kernel_rfl) (fun _ _ _ h=>h) (Or.inl ⟨by rfl, ?_⟩) (by assumption) ?_
  rotate_left
  ·intro w hSw;(try dsimp only at hSw);go_simp;(try with_reducible rfl)
  try simp only [Act.put,List.setIfInBounds_toArray,List.set_cons_zero,List.set_cons_succ]
  refine wpAnyH_done (by kernel_rfl) ?_ _
  go_wp2_with fail
  obtain ⟨d0,d1,d2,_⟩:=blk3x q1
  refine bodyPost_ret (v:=.tuple #[.agg #[.int .i64 rk,.int .i64 rn,.string rs],.int .i64 rx]) (by simp [results,Tryz.results149,go_sem,d0,d1,d2]) rfl ⟨?_,(T0.out.trans0 (td.trans0 (u1.trans0 u2))).trans q2 (fun b hb=>.inr (by simp at hb;omega))⟩
  rw [Hf.out]
end
section
open Go.RowKit
theorem fitL_drop (ws ts:List Int) (both:Int) (k:Nat) (h1:k < ws.length) (h2:k < ts.length) :
  fitL (ws.drop k) (ts.drop k) both=(if ts[k]=0\/ws[k]=0 then fitL (ws.drop (k+1)) (ts.drop (k+1)) both
   else if ws[k] ≠ -1/\ws[k]≠ts[k]\/ws[k] = -1/\both≠0/\both≠ts[k] then (0,false)
   else if ws[k] = -1 then fitL (ws.drop (k+1)) (ts.drop (k+1)) ts[k] else fitL (ws.drop (k+1)) (ts.drop (k+1)) both):=by
 rw [List.drop_eq_getElem_cons h1,List.drop_eq_getElem_cons h2];rfl
theorem fitX_any (A B:Option Addr) (c1 c2 n:Nat) (ws ts:List Int) (hn:ws.length=n) (hm:ts.length=n) (w:World) (h:IntsAt w A ws) (h2:IntsAt w B ts) (hl:n<=140737000000000) :
  Calls Tryz.prog 146 #[.slice A n c1,.slice B n c2] w fun e w'=>e=.returned (.tuple #[.int .i64 (fitL ws ts 0).1,.bool (fitL ws ts 0).2])/\w'=w:=by
 go_enter Tryz.func146,Tryz.ntmps146
 have Hn:=lh hn;have Hm:=lh hm
 clear hn hm
 go_wp2
 go_loop [6,11] (fun b i=>∃ (k:Nat) (both:Int),k<=n/\i=.int .i64 k/\b=.int .i64 both/\Hid (fitL ws ts 0=fitL (ws.drop k) (ts.drop k) both)) (fun _ i=>n-(intOf i).toNat)
 case atStart=>exact ⟨0,0,by omega,rfl,rfl,lh rfl⟩
 case round =>
  obtain ⟨k,both,hk,rfl,rfl,He⟩:=hrel
  by_cases hlt:k < n
  ·have hl1:k < ws.length:=by have:=Hn.out;omega
   have hl2:k < ts.length:=by have:=Hm.out;omega
   obtain ⟨ad,rfl,hc1⟩:=h.at_ k hl1
   obtain ⟨bd,rfl,hc2⟩:=h2.at_ k hl2
   have hst:=fitL_drop ws ts both k hl1 hl2
   rw [<- He.out] at hst
   obtain ⟨t,ht⟩:∃ t,t=ts[k]:=⟨_,rfl⟩
   obtain ⟨v,hv⟩:∃ v,v=ws[k]:=⟨_,rfl⟩
   rw [<- ht] at hst hc2
   rw [<- hv] at hst hc1
   have hkI:(k:Int) < (n:Int):=by omega
   clear ht hv He
   by_cases e1:t=0
   ·have Hs:=lh (show fitL ws ts 0=fitL (ws.drop (k+1)) (ts.drop (k+1)) both by rw [hst,if_pos (.inl e1)])
    subst e1
    clear hst
    go_wp2
    go_round
    case rel=>exact ⟨k+1,both,by omega,by go_num,rfl,Hs⟩
    case measure=>simp [intOf];omega
   have b1:(t==0)=false:=by simpa using e1
   by_cases e2:v=0
   ·have Hs:=lh (show fitL ws ts 0=fitL (ws.drop (k+1)) (ts.drop (k+1)) both by rw [hst,if_pos (.inr e2)])
    subst e2
    clear hst e1
    go_wp2
    go_round
    case rel=>exact ⟨k+1,both,by omega,by go_num,rfl,Hs⟩
    case measure=>simp [intOf];omega
   have b2:(v==0)=false:=by simpa using e2
   rw [if_neg (by rintro (h | h);exact e1 h;exact e2 h)] at hst
   by_cases e3:v = -1
   ·subst e3
    by_cases e4:both=0
    ·have Hs:=lh (show fitL ws ts 0=fitL (ws.drop (k+1)) (ts.drop (k+1)) t by rw [hst,if_neg (by simp [e4]),if_pos rfl])
     subst e4
     clear hst e1 e2
     go_wp2
     go_round
     case rel=>exact ⟨k+1,t,by omega,by go_num,rfl,Hs⟩
     case measure=>simp [intOf];omega
    have b4:(both != 0)=true:=by simpa using e4
    by_cases e5:both=t
    ·have Hs:=lh (show fitL ws ts 0=fitL (ws.drop (k+1)) (ts.drop (k+1)) t by rw [hst,if_neg (by simp [e5]),if_pos rfl])
     subst e5
     clear hst e1 e2 e4
     go_wp2
     go_round
     case rel=>exact ⟨k+1,_,by omega,by go_num,rfl,Hs⟩
     case measure=>simp [intOf];omega
    ·have b5:(both != t)=true:=by simpa using e5
     have Hs:=lh (show fitL ws ts 0=(0,false) by rw [hst,if_pos (.inr ⟨rfl,e4,e5⟩)])
     clear hst e1 e2 e4 e5
     go_wp2
     go_ret2
     exact ⟨by rw [Hs.out];rfl,rfl⟩
   have b3:(v == -1)=false:=by simpa using e3
   have b3':(v != -1)=true:=by simpa using e3
   by_cases e6:v=t
   ·have Hs:=lh (show fitL ws ts 0=fitL (ws.drop (k+1)) (ts.drop (k+1)) both by rw [hst,if_neg (by simp [e6];intro h;exact absurd (e6.trans h) e3),if_neg e3])
    subst e6
    clear hst e1 e2 e3
    go_wp2
    go_round
    case rel=>exact ⟨k+1,both,by omega,by go_num,rfl,Hs⟩
    case measure=>simp [intOf];omega
   ·have b6:(v != t)=true:=by simpa using e6
    have Hs:=lh (show fitL ws ts 0=(0,false) by rw [hst,if_pos (.inl ⟨e3,e6⟩)])
    clear hst e1 e2 e3 e6
    go_wp2
    go_ret2
    exact ⟨by rw [Hs.out];rfl,rfl⟩
  ·obtain rfl:k=n:=by omega
   have Hs:=lh (show fitL ws ts 0=(both,true) by rw [He.out,List.drop_of_length_le (by have:=Hn.out;omega),List.drop_of_length_le (by have:=Hm.out;omega)];rfl)
   go_wp2
   go_ret2
   exact ⟨by rw [Hs.out];rfl,rfl⟩
end
section
open Go.RowKit
theorem sizeX_any (n:Nat):∀ (e:TX n) (x:XC) (w:World),ExP xcE anyB n w x e->sizeX n e<=2000000 ->
  Calls Tryz.prog 26 #[x.val] w fun r w'=>r=.returned (.int .i64 (sizeX n e))/\Touch [] w w':=by
 induction n with
 | zero=>intro e;exact e.elim
 | succ n ih =>
  intro e x w hx hs
  obtain ⟨nd,args⟩:=e
  obtain ⟨h1,h2,h3⟩:=hx.args
  have hsum:sumX n args<=2000000:=by have hs':1+sumX n args<=2000000:=hs;omega
  have hlen:=len_le_sum n args
  have htk:=sum_take_le n args
  have hfin:sizeX (n+1) (nd,args)=1+sumX n args:=rfl
  obtain ⟨⟨k,nm,⟨vk,vn,vt⟩,op⟩,A,m,c⟩:=x
  dsimp only at h2 h3
  subst h2
  dsimp only [XC.val]
  have Htk:=lh htk;have Hfin:=lh hfin;have Ih:=lh ih
  have t0:=(Touch.refl [] w).alloc (.cells #[.int .i64 k,.string nm,.int .i64 vk,.int .i64 vn,.string vt,.string op,.slice A args.length c] 44)
  clear htk hfin ih hx h1 hs
  go_enter Tryz.func26,Tryz.ntmps26
  go_wp2_with fail
  go_loopw [3,9] (fun v i wr=>∃ j:Nat,j<=args.length/\i=.int .i64 j/\v=.int .i64 ((1+sumX n (args.take j):Nat):Int)/\Touch [] w wr) (fun _ i _=>args.length-(intOf i).toNat)
  case atStart=>exact ⟨0,by omega,rfl,by simp [sumX],t0⟩
  case round =>
   obtain ⟨j,hj,rfl,rfl,ht⟩:=hrel
   by_cases hlt:j < args.length
   ·obtain ⟨ad,b,off,y,rfl,hadd,hy,hcell⟩:=(h3.touch0 ht).at_ xcE_length j hlt
    have hsn:=sumX_snoc n args j hlt
    have hms:=size_mem (List.getElem_mem hlt)
    have htj:=Htk.out j
    have htj1:=Htk.out (j+1)
    obtain ⟨a,hae⟩:∃ a,a=args[j]:=⟨_,rfl⟩
    rw [<- hae] at hy hsn hms
    have ta:=(Touch.refl [] wr).alloc (.cells #[.int .i64 y.nd.kind,.string y.nd.name,.int .i64 y.nd.v.kind,.int .i64 y.nd.v.num,.string y.nd.v.text,.string y.nd.op,.slice y.A y.n y.c] 44)
    have hc:=lh (Ih.out a y _ (hy.touch0 ta) (by omega))
    have c0:=hcell 0 _ rfl;have c1:=hcell 1 _ rfl;have c2:=hcell 2 _ rfl;have c3:=hcell 3 _ rfl;have c4:=hcell 4 _ rfl;have c5:=hcell 5 _ rfl;have c6:=hcell 6 _ rfl
    rw [Nat.add_zero] at c0
    obtain ⟨p,hp⟩:∃ p,p=sumX n (args.take j):=⟨_,rfl⟩
    obtain ⟨q,hq⟩:∃ q,q=sizeX n a:=⟨_,rfl⟩
    rw [<- hp] at hsn htj ⊢
    rw [<- hq] at hsn hms
    rw [hsn] at htj1
    have Hsn:=lh hsn
    rw [<- hq] at hc
    clear hsn hae hcell hp hq
    obtain ⟨⟨k2,nm2,⟨vk2,vn2,vt2⟩,op2⟩,A2,m2,c2'⟩:=y
    simp only [XC.val] at hc c0 c1 c2 c3 c4 c5 c6
    go_wp2_with fail
    refine hc.out.mono ?_
    rintro e w1 ⟨rfl,t1⟩
    go_wp2_with fail
    go_roundw
    case rel=>exact ⟨j+1,by omega,by go_num,by rw [Hsn.out];go_num,(ht.trans0 ta).trans0 t1⟩
    case measure=>simp [intOf];omega
   ·obtain rfl:j=args.length:=by omega
    rw [List.take_length]
    go_wp2_with fail
    go_ret
    exact ⟨by rw [Hfin.out];rfl,ht⟩
end
end Go.Proofs.YtafoklilkdnepaaGreatDoor
