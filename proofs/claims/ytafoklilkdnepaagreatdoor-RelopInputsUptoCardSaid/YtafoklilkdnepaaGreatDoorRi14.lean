/- Part 14 of the texts of this proof, one behind the other. No condition beyond those that its theorems state. -/
import Derived.Test.YtafoklilkdnepaaGreatDoorRi13
import Derived.Laws.StructEq
import Derived.OrdersHeld
import Derived.Deep.RegionHeld3
set_option maxRecDepth 40000
set_option maxHeartbeats 25600000
namespace Go.Proofs.YtafoklilkdnepaaGreatDoor
section
open Go.RowKit
def productV (a b:Int):Int × Bool :=
 if a=0\/b=0 then (0,true)
 else if a = -1/\b = -9223372036854775808\/b = -1/\a = -9223372036854775808 then (0,false)
 else (wrap64 (a*b),wrap64 ((wrap64 (a*b)).tdiv b)==a)
def reckonV (o a b:Int):Int × Bool :=
 if o=43 then (wrap64 (a+b),(decide (a < wrap64 (a+b))==decide (0 < b))||b==0)
 else if o=45 then (wrap64 (a-b),(decide (wrap64 (a-b) < a)==decide (0 < b))||b==0)
 else if o=42 then productV a b
 else if o=47 then (wrap64 (a.tdiv b),a != -9223372036854775808||b != -1)
 else if b = -1 then (0,true) else (a.tmod b,true)
def arithV (o:Int) (a b:VD):VD × Int :=
 if o≠43/\o≠45/\o≠42/\o≠47/\o≠37 then (zeroV,20)
 else if a.kind=2\/b.kind=2 then (zeroV,12)
 else if a.kind=0\/b.kind=0 then (zeroV,0)
 else if b.num=0/\(o=47\/o=37) then (zeroV,11)
 else if (reckonV o a.num b.num).2=true then (ofV (reckonV o a.num b.num).1,0) else (zeroV,10)
theorem product_any (a b:Int) (w:World) :
  Calls Tryz.prog 205 #[.int .i64 a,.int .i64 b] w fun e w'=>e=.returned (.tuple #[.int .i64 (productV a b).1,.bool (productV a b).2])/\Touch [] w w':=by
 by_cases h0:a=0\/b=0
 ·have hp:productV a b=(0,true):=by unfold productV;rw [if_pos h0]
  have Hp:=lh hp
  clear hp
  by_cases ha:a=0
  ·subst ha
   go_enter Tryz.func205,Tryz.ntmps205
   go_wp2_with fail
   go_ret2
   exact ⟨by rw [Hp.out];rfl,Touch.refl _ _⟩
  ·have hb:b=0:=h0.resolve_left ha
   have qa:(a==0)=false:=by simpa using ha
   subst hb
   clear h0 ha
   go_enter Tryz.func205,Tryz.ntmps205
   go_wp2_with fail
   go_ret2
   exact ⟨by rw [Hp.out];rfl,Touch.refl _ _⟩
 have ha0:a≠0:=fun h=>h0 (.inl h)
 have hb0:b≠0:=fun h=>h0 (.inr h)
 have qa:(a==0)=false:=by simpa using ha0
 have qb:(b==0)=false:=by simpa using hb0
 by_cases h1:a = -1/\b = -9223372036854775808\/b = -1/\a = -9223372036854775808
 ·have Hp:=lh (show productV a b=(0,false) by unfold productV;rw [if_neg h0,if_pos h1])
  clear ha0 hb0 qa qb h0
  rcases h1 with ⟨rfl,rfl⟩ | ⟨rfl,rfl⟩
  ·go_enter Tryz.func205,Tryz.ntmps205
   go_wp2_with fail
   go_ret2
   exact ⟨by rw [Hp.out];rfl,Touch.refl _ _⟩
  ·go_enter Tryz.func205,Tryz.ntmps205
   go_wp2_with fail
   go_ret2
   exact ⟨by rw [Hp.out];rfl,Touch.refl _ _⟩
 ·have Hp:=lh (show productV a b=(wrap64 (a*b),wrap64 ((wrap64 (a*b)).tdiv b)==a) by unfold productV;rw [if_neg h0,if_neg h1])
  have hnot:((a == -1&&b == -9223372036854775808)||(b == -1&&a == -9223372036854775808))=false:=by
   rw [Bool.eq_false_iff]
   intro h
   simp only [Bool.or_eq_true,Bool.and_eq_true,beq_iff_eq] at h
   exact h1 h
  have key:∀ (W:World),Touch [] w W->True:=fun _ _=>trivial
  clear h0 h1 ha0 key
  rcases e1:(a == -1) with _ | _ <;> rcases e2:(b == -9223372036854775808) with _ | _ <;> rcases e3:(b == -1) with _ | _ <;> rcases e4:(a == -9223372036854775808) with _ | _ <;> (try (exfalso;simp [e1,e2,e3,e4] at hnot;done))
  all_goals
   clear hnot
   go_enter Tryz.func205,Tryz.ntmps205
   go_wp2_with fail
   refine wp_region_tw w (Touch.refl _ _) (by kernel_rfl) (by kernel_rfl) ?_
   repeat (go_big_quiet_step (fail))
   refine wpQuiet_nil ?_
   rintro _ ⟨y,rfl⟩
   go_wp2
   go_ret2
   exact ⟨by rw [Hp.out];rfl,y.t⟩
theorem reckon_any (o a b:Int) (hb:o=47\/o=37->b≠0) (ho:o=43\/o=45\/o=42\/o=47\/o=37) (w:World) :
  Calls Tryz.prog 188 #[.int .u8 o,.int .i64 a,.int .i64 b] w fun e w'=>e=.returned (.tuple #[.int .i64 (reckonV o a b).1,.bool (reckonV o a b).2])/\Touch [] w w':=by
 rcases ho with rfl | rfl | rfl | rfl | rfl
 ·clear hb
  go_enter Tryz.func188,Tryz.ntmps188
  go_wp2_with fail
  all_goals
   go_ret2
   refine ⟨?_,Touch.refl _ _⟩
   simp [reckonV, *]
 ·clear hb
  go_enter Tryz.func188,Tryz.ntmps188
  go_wp2_with fail
  all_goals
   go_ret2
   refine ⟨?_,Touch.refl _ _⟩
   simp [reckonV, *]
 ·have Hp:=lh fun w'=>product_any a b w'
  have hr:reckonV 42 a b=productV a b:=by simp [reckonV]
  have Hr:=lh hr
  clear hb hr
  go_enter Tryz.func188,Tryz.ntmps188
  go_wp2_with fail
  refine (Hp.out _).mono ?_
  rintro e w1 ⟨rfl,t1⟩
  go_wp2_with fail
  go_ret2
  exact ⟨by rw [Hr.out];rfl,t1⟩
 ·have hb0:=hb (.inl rfl)
  have qb:(b==0)=false:=by simpa using hb0
  clear hb
  go_enter Tryz.func188,Tryz.ntmps188
  go_wp2_with fail
  all_goals
   go_ret2
   refine ⟨?_,Touch.refl _ _⟩
   simp [reckonV, *]
 ·have hb0:=hb (.inr rfl)
  have qb:(b==0)=false:=by simpa using hb0
  clear hb
  by_cases h1:b = -1
  ·subst h1
   go_enter Tryz.func188,Tryz.ntmps188
   go_wp2_with fail
   all_goals
    go_ret2
    refine ⟨?_,Touch.refl _ _⟩
    simp [reckonV]
  ·have q1:(b == -1)=false:=by simpa using h1
   go_enter Tryz.func188,Tryz.ntmps188
   go_wp2_with fail
   all_goals
    go_ret2
    refine ⟨?_,Touch.refl _ _⟩
    simp [reckonV,h1]
theorem idx_ops {o:Int} (ho:o=43\/o=45\/o=42\/o=47\/o=37):∃ n:Nat,Lib.indexByte (S [43,45,42,47,37]).data.toList o.toNat.toUInt8=(n:Int):=by
 rcases ho with rfl | rfl | rfl | rfl | rfl
 ·exact ⟨0,by decide +kernel⟩
 ·exact ⟨1,by decide +kernel⟩
 ·exact ⟨2,by decide +kernel⟩
 ·exact ⟨3,by decide +kernel⟩
 ·exact ⟨4,by decide +kernel⟩
theorem arith_any (o:Int) (ho:o=43\/o=45\/o=42\/o=47\/o=37) (a b:VD) (w:World) :
  Calls Tryz.prog 153 #[.int .u8 o,a.val,b.val] w fun e w'=>e=.returned (.tuple #[(arithV o a b).1.val,.int .i64 (arithV o a b).2])/\Touch [] w w':=by
 obtain ⟨k1,n1,s1⟩:=a
 obtain ⟨k2,n2,s2⟩:=b
 dsimp only [VD.val]
 have t0:=(((Touch.refl [] w).alloc (.cells #[.int .i64 k1,.int .i64 n1,.string s1] 31)).alloc (.cells #[.int .i64 k2,.int .i64 n2,.string s2] 31)).alloc (.cells #[.int .i64 0,.int .i64 0,.string ⟨#[]⟩] 31)
 have hb1:=(((Touch.refl [] (w.alloc (.cells #[.int .i64 k1,.int .i64 n1,.string s1] 31))).alloc (.cells #[.int .i64 k2,.int .i64 n2,.string s2] 31)).alloc (.cells #[.int .i64 0,.int .i64 0,.string ⟨#[]⟩] 31)).blk (heap_alloc_new w (.cells #[.int .i64 k1,.int .i64 n1,.string s1] 31)) (by simp)
 have hb2:=((Touch.refl [] ((w.alloc (.cells #[.int .i64 k1,.int .i64 n1,.string s1] 31)).alloc (.cells #[.int .i64 k2,.int .i64 n2,.string s2] 31))).alloc (.cells #[.int .i64 0,.int .i64 0,.string ⟨#[]⟩] 31)).blk (heap_alloc_new (w.alloc (.cells #[.int .i64 k1,.int .i64 n1,.string s1] 31)) (.cells #[.int .i64 k2,.int .i64 n2,.string s2] 31)) (by simp)
 have hbr:=heap_alloc_new ((w.alloc (.cells #[.int .i64 k1,.int .i64 n1,.string s1] 31)).alloc (.cells #[.int .i64 k2,.int .i64 n2,.string s2] 31)) (.cells #[.int .i64 0,.int .i64 0,.string ⟨#[]⟩] 31)
 simp only [World.size_alloc] at hb2 hbr
 obtain ⟨W,hW⟩:∃ W,W=((w.alloc (.cells #[.int .i64 k1,.int .i64 n1,.string s1] 31)).alloc (.cells #[.int .i64 k2,.int .i64 n2,.string s2] 31)).alloc (.cells #[.int .i64 0,.int .i64 0,.string ⟨#[]⟩] 31):=⟨_,rfl⟩
 rw [<- hW] at hb1 hb2 hbr t0
 have HW:=lh hW;have Hb1:=lh hb1;have Hb2:=lh hb2;have Hbr:=lh hbr;have T0:=lh t0
 have Hnull:=lh fun w'=>vnull_any w'
 have Hof:=lh fun n w'=>of_any n w'
 simp only [VD.val,zeroV,ofV,S] at Hnull Hof
 clear hW hb1 hb2 hbr t0
 have hib:=fun w'=>Tryz.strings_IndexByte (S [43,45,42,47,37]) o w'
 obtain ⟨ix,hix⟩:=idx_ops ho
 rw [hix] at hib
 have Hib:=lh hib
 have hno:¬ (o≠43/\o≠45/\o≠42/\o≠47/\o≠37):=by omega
 clear hix hib
 by_cases h1:k1=2
 ·have Hf:=lh (show arithV o ⟨k1,n1,s1⟩ ⟨k2,n2,s2⟩=(zeroV,12) by unfold arithV;rw [if_neg hno,if_pos (.inl h1)])
  subst h1
  go_enter Tryz.func153,Tryz.ntmps153
  go_wp2_with fail
  rw [<- HW.out]
  refine (Hib.out _).mono ?_
  rintro e w' ⟨rfl,rfl⟩
  obtain ⟨a0,a1,a2,_⟩:=blk3x Hb1.out
  obtain ⟨b0,b1,b2,_⟩:=blk3x Hb2.out
  have hbr0:=Hbr.out
  obtain ⟨r0,r1,r2,f0,f1,f2⟩:=blk3x Hbr.out
  go_wp2_with fail
  obtain ⟨q1,q2⟩:=out3 Hbr.out (.int .i64 0) (.int .i64 0) (.string ⟨#[]⟩)
  obtain ⟨d0,d1,d2,_⟩:=blk3x q1
  refine bodyPost_ret (v:=.tuple #[.agg #[.int .i64 0,.int .i64 0,.string ⟨#[]⟩],.int .i64 (12)]) (by simp [results,Tryz.results153,go_sem,d0,d1,d2]) rfl ⟨?_,T0.out.trans q2 (fun b hb=>.inr (by simp at hb;omega))⟩
  rw [Hf.out];rfl
 have q1:(k1==2)=false:=by simpa using h1
 by_cases h2:k2=2
 ·have Hf:=lh (show arithV o ⟨k1,n1,s1⟩ ⟨k2,n2,s2⟩=(zeroV,12) by unfold arithV;rw [if_neg hno,if_pos (.inr h2)])
  subst h2
  go_enter Tryz.func153,Tryz.ntmps153
  go_wp2_with fail
  rw [<- HW.out]
  refine (Hib.out _).mono ?_
  rintro e w' ⟨rfl,rfl⟩
  obtain ⟨a0,a1,a2,_⟩:=blk3x Hb1.out
  obtain ⟨b0,b1,b2,_⟩:=blk3x Hb2.out
  have hbr0:=Hbr.out
  obtain ⟨r0,r1,r2,f0,f1,f2⟩:=blk3x Hbr.out
  go_wp2_with fail
  obtain ⟨q1,q2⟩:=out3 Hbr.out (.int .i64 0) (.int .i64 0) (.string ⟨#[]⟩)
  obtain ⟨d0,d1,d2,_⟩:=blk3x q1
  refine bodyPost_ret (v:=.tuple #[.agg #[.int .i64 0,.int .i64 0,.string ⟨#[]⟩],.int .i64 (12)]) (by simp [results,Tryz.results153,go_sem,d0,d1,d2]) rfl ⟨?_,T0.out.trans q2 (fun b hb=>.inr (by simp at hb;omega))⟩
  rw [Hf.out];rfl
 have q2':(k2==2)=false:=by simpa using h2
 by_cases h3:k1=0
 ·have Hf:=lh (show arithV o ⟨k1,n1,s1⟩ ⟨k2,n2,s2⟩=(zeroV,0) by unfold arithV;rw [if_neg hno,if_neg (by rintro (h | h);exact h1 h;exact h2 h),if_pos (.inl h3)])
  subst h3
  clear h1 h2
  go_enter Tryz.func153,Tryz.ntmps153
  go_wp2_with fail
  rw [<- HW.out]
  refine (Hib.out _).mono ?_
  rintro e w' ⟨rfl,rfl⟩
  obtain ⟨a0,a1,a2,_⟩:=blk3x Hb1.out
  obtain ⟨b0,b1,b2,_⟩:=blk3x Hb2.out
  have hbr0:=Hbr.out
  obtain ⟨r0,r1,r2,f0,f1,f2⟩:=blk3x Hbr.out
  go_wp2_with fail
  clear a0 a1 a2 b0 b1 b2 r0 r1 r2 f0 f1 f2
  refine (Hnull.out _).mono ?_
  rintro e w1 ⟨rfl,u1⟩
  obtain ⟨a0,a1,a2,_⟩:=blk3x (u1.blk Hb1.out (by simp))
  obtain ⟨b0,b1,b2,_⟩:=blk3x (u1.blk Hb2.out (by simp))
  have hbr1:=(u1.blk Hbr.out (by simp))
  obtain ⟨r0,r1,r2,f0,f1,f2⟩:=blk3x (u1.blk Hbr.out (by simp))
  go_wp2_with fail
  obtain ⟨q1,q2⟩:=out3 (u1.blk Hbr.out (by simp)) (.int .i64 0) (.int .i64 0) (.string ⟨#[]⟩)
  obtain ⟨d0,d1,d2,_⟩:=blk3x q1
  refine bodyPost_ret (v:=.tuple #[.agg #[.int .i64 0,.int .i64 0,.string ⟨#[]⟩],.int .i64 (0)]) (by simp [results,Tryz.results153,go_sem,d0,d1,d2]) rfl ⟨?_,(T0.out.trans0 u1).trans q2 (fun b hb=>.inr (by simp at hb;omega))⟩
  rw [Hf.out];rfl
 have q3:(k1==0)=false:=by simpa using h3
 by_cases h4:k2=0
 ·have Hf:=lh (show arithV o ⟨k1,n1,s1⟩ ⟨k2,n2,s2⟩=(zeroV,0) by unfold arithV;rw [if_neg hno,if_neg (by rintro (h | h);exact h1 h;exact h2 h),if_pos (.inr h4)])
  subst h4
  clear h1 h2 h3
  go_enter Tryz.func153,Tryz.ntmps153
  go_wp2_with fail
  rw [<- HW.out]
  refine (Hib.out _).mono ?_
  rintro e w' ⟨rfl,rfl⟩
  obtain ⟨a0,a1,a2,_⟩:=blk3x Hb1.out
  obtain ⟨b0,b1,b2,_⟩:=blk3x Hb2.out
  have hbr0:=Hbr.out
  obtain ⟨r0,r1,r2,f0,f1,f2⟩:=blk3x Hbr.out
  go_wp2_with fail
  clear a0 a1 a2 b0 b1 b2 r0 r1 r2 f0 f1 f2
  refine (Hnull.out _).mono ?_
  rintro e w1 ⟨rfl,u1⟩
  obtain ⟨a0,a1,a2,_⟩:=blk3x (u1.blk Hb1.out (by simp))
  obtain ⟨b0,b1,b2,_⟩:=blk3x (u1.blk Hb2.out (by simp))
  have hbr1:=(u1.blk Hbr.out (by simp))
  obtain ⟨r0,r1,r2,f0,f1,f2⟩:=blk3x (u1.blk Hbr.out (by simp))
  go_wp2_with fail
  obtain ⟨q1,q2⟩:=out3 (u1.blk Hbr.out (by simp)) (.int .i64 0) (.int .i64 0) (.string ⟨#[]⟩)
  obtain ⟨d0,d1,d2,_⟩:=blk3x q1
  refine bodyPost_ret (v:=.tuple #[.agg #[.int .i64 0,.int .i64 0,.string ⟨#[]⟩],.int .i64 (0)]) (by simp [results,Tryz.results153,go_sem,d0,d1,d2]) rfl ⟨?_,(T0.out.trans0 u1).trans q2 (fun b hb=>.inr (by simp at hb;omega))⟩
  rw [Hf.out];rfl
 have q4:(k2==0)=false:=by simpa using h4
 have harith:arithV o ⟨k1,n1,s1⟩ ⟨k2,n2,s2⟩=if n2=0/\(o=47\/o=37) then (zeroV,11) else if (reckonV o n1 n2).2=true then (ofV (reckonV o n1 n2).1,0) else (zeroV,10):=by
  unfold arithV;rw [if_neg hno,if_neg (by rintro (h | h);exact h1 h;exact h2 h),if_neg (by rintro (h | h);exact h3 h;exact h4 h)]
 clear h1 h2 h3 h4 hno
 by_cases h5:n2=0/\(o=47\/o=37)
 ·have Hf:=lh (show arithV o ⟨k1,n1,s1⟩ ⟨k2,n2,s2⟩=(zeroV,11) by rw [harith,if_pos h5])
  obtain ⟨rfl,h6⟩:=h5
  clear harith
  rcases h6 with rfl | rfl
  ·clear ho
   go_enter Tryz.func153,Tryz.ntmps153
   go_wp2_with fail
   rw [<- HW.out]
   refine (Hib.out _).mono ?_
   rintro e w' ⟨rfl,rfl⟩
   obtain ⟨a0,a1,a2,_⟩:=blk3x Hb1.out
   obtain ⟨b0,b1,b2,_⟩:=blk3x Hb2.out
   have hbr0:=Hbr.out
   obtain ⟨r0,r1,r2,f0,f1,f2⟩:=blk3x Hbr.out
   go_wp2_with fail
   obtain ⟨q1,q2⟩:=out3 Hbr.out (.int .i64 0) (.int .i64 0) (.string ⟨#[]⟩)
   obtain ⟨d0,d1,d2,_⟩:=blk3x q1
   refine bodyPost_ret (v:=.tuple #[.agg #[.int .i64 0,.int .i64 0,.string ⟨#[]⟩],.int .i64 (11)]) (by simp [results,Tryz.results153,go_sem,d0,d1,d2]) rfl ⟨?_,T0.out.trans q2 (fun b hb=>.inr (by simp at hb;omega))⟩
   rw [Hf.out];rfl
  ·clear ho
   go_enter Tryz.func153,Tryz.ntmps153
   go_wp2_with fail
   rw [<- HW.out]
   refine (Hib.out _).mono ?_
   rintro e w' ⟨rfl,rfl⟩
   obtain ⟨a0,a1,a2,_⟩:=blk3x Hb1.out
   obtain ⟨b0,b1,b2,_⟩:=blk3x Hb2.out
   have hbr0:=Hbr.out
   obtain ⟨r0,r1,r2,f0,f1,f2⟩:=blk3x Hbr.out
   go_wp2_with fail
   obtain ⟨q1,q2⟩:=out3 Hbr.out (.int .i64 0) (.int .i64 0) (.string ⟨#[]⟩)
   obtain ⟨d0,d1,d2,_⟩:=blk3x q1
   refine bodyPost_ret (v:=.tuple #[.agg #[.int .i64 0,.int .i64 0,.string ⟨#[]⟩],.int .i64 (11)]) (by simp [results,Tryz.results153,go_sem,d0,d1,d2]) rfl ⟨?_,T0.out.trans q2 (fun b hb=>.inr (by simp at hb;omega))⟩
   rw [Hf.out];rfl
 rw [if_neg h5] at harith
 have hrk:=fun w'=>reckon_any o n1 n2 (fun h hn=>h5 ⟨hn,h⟩) ho w'
 have hd:(n2==0)=true->(o==47)=false/\(o==37)=false:=fun h=>by
  have hn:n2=0:=by simpa using h
  exact ⟨by simpa using fun h'=>h5 ⟨hn,.inl h'⟩,by simpa using fun h'=>h5 ⟨hn,.inr h'⟩⟩
 obtain ⟨rv,hrv⟩:∃ rv,rv=reckonV o n1 n2:=⟨_,rfl⟩
 rw [<- hrv] at hrk harith
 obtain ⟨rn,rb⟩:=rv
 simp only at hrk harith
 have Hrk:=lh hrk
 have Hha:=lh harith
 clear hrk hrv h5 ho harith
 rcases hz:(n2==0) with _ | _
 ·clear hd
  cases rb
  ·have Hf:=lh (show arithV o ⟨k1,n1,s1⟩ ⟨k2,n2,s2⟩=(zeroV,10) by rw [Hha.out,if_neg (by simp)])
   go_enter Tryz.func153,Tryz.ntmps153
   go_wp2_with fail
   rw [<- HW.out]
   refine (Hib.out _).mono ?_
   rintro e w' ⟨rfl,rfl⟩
   obtain ⟨a0,a1,a2,_⟩:=blk3x Hb1.out
   obtain ⟨b0,b1,b2,_⟩:=blk3x Hb2.out
   have hbr0:=Hbr.out
   obtain ⟨r0,r1,r2,f0,f1,f2⟩:=blk3x Hbr.out
   go_wp2_with fail
   clear a0 a1 a2 b0 b1 b2 r0 r1 r2 f0 f1 f2
   refine (Hrk.out _).mono ?_
   rintro e w1 ⟨rfl,u1⟩
   obtain ⟨a0,a1,a2,_⟩:=blk3x (u1.blk Hb1.out (by simp))
   obtain ⟨b0,b1,b2,_⟩:=blk3x (u1.blk Hb2.out (by simp))
   have hbr1:=(u1.blk Hbr.out (by simp))
   obtain ⟨r0,r1,r2,f0,f1,f2⟩:=blk3x (u1.blk Hbr.out (by simp))
   go_wp2_with fail
   obtain ⟨q1,q2⟩:=out3 (u1.blk Hbr.out (by simp)) (.int .i64 0) (.int .i64 0) (.string ⟨#[]⟩)
   obtain ⟨d0,d1,d2,_⟩:=blk3x q1
   refine bodyPost_ret (v:=.tuple #[.agg #[.int .i64 0,.int .i64 0,.string ⟨#[]⟩],.int .i64 (10)]) (by simp [results,Tryz.results153,go_sem,d0,d1,d2]) rfl ⟨?_,(T0.out.trans0 u1).trans q2 (fun b hb=>.inr (by simp at hb;omega))⟩
   rw [Hf.out];rfl
  ·have Hf:=lh (show arithV o ⟨k1,n1,s1⟩ ⟨k2,n2,s2⟩=(ofV rn,0) by rw [Hha.out,if_pos rfl])
   go_enter Tryz.func153,Tryz.ntmps153
   go_wp2_with fail
   rw [<- HW.out]
   refine (Hib.out _).mono ?_
   rintro e w' ⟨rfl,rfl⟩
   obtain ⟨a0,a1,a2,_⟩:=blk3x Hb1.out
   obtain ⟨b0,b1,b2,_⟩:=blk3x Hb2.out
   have hbr0:=Hbr.out
   obtain ⟨r0,r1,r2,f0,f1,f2⟩:=blk3x Hbr.out
   go_wp2_with fail
   clear a0 a1 a2 b0 b1 b2 r0 r1 r2 f0 f1 f2
   refine (Hrk.out _).mono ?_
   rintro e w1 ⟨rfl,u1⟩
   obtain ⟨a0,a1,a2,_⟩:=blk3x (u1.blk Hb1.out (by simp))
   obtain ⟨b0,b1,b2,_⟩:=blk3x (u1.blk Hb2.out (by simp))
   have hbr1:=(u1.blk Hbr.out (by simp))
   obtain ⟨r0,r1,r2,f0,f1,f2⟩:=blk3x (u1.blk Hbr.out (by simp))
   go_wp2_with fail
   clear a0 a1 a2 b0 b1 b2 r0 r1 r2 f0 f1 f2
   refine (Hof.out _ _).mono ?_
   rintro e w2 ⟨rfl,u2⟩
   obtain ⟨a0,a1,a2,_⟩:=blk3x (u2.blk (u1.blk Hb1.out (by simp)) (by simp))
   obtain ⟨b0,b1,b2,_⟩:=blk3x (u2.blk (u1.blk Hb2.out (by simp)) (by simp))
   have hbr2:=(u2.blk (u1.blk Hbr.out (by simp)) (by simp))
   obtain ⟨r0,r1,r2,f0,f1,f2⟩:=blk3x (u2.blk (u1.blk Hbr.out (by simp)) (by simp))
   go_wp2_with fail
   obtain ⟨q1,q2⟩:=out3 (u2.blk (u1.blk Hbr.out (by simp)) (by simp)) (.int .i64 1) (.int .i64 rn) (.string ⟨#[]⟩)
   obtain ⟨d0,d1,d2,_⟩:=blk3x q1
   refine bodyPost_ret (v:=.tuple #[.agg #[.int .i64 1,.int .i64 rn,.string ⟨#[]⟩],.int .i64 (0)]) (by simp [results,Tryz.results153,go_sem,d0,d1,d2]) rfl ⟨?_,((T0.out.trans0 u1).trans0 u2).trans q2 (fun b hb=>.inr (by simp at hb;omega))⟩
   rw [Hf.out];rfl
 ·obtain ⟨e1,e2⟩:=hd hz
  cases rb
  ·have Hf:=lh (show arithV o ⟨k1,n1,s1⟩ ⟨k2,n2,s2⟩=(zeroV,10) by rw [Hha.out,if_neg (by simp)])
   go_enter Tryz.func153,Tryz.ntmps153
   go_wp2_with fail
   rw [<- HW.out]
   refine (Hib.out _).mono ?_
   rintro e w' ⟨rfl,rfl⟩
   obtain ⟨a0,a1,a2,_⟩:=blk3x Hb1.out
   obtain ⟨b0,b1,b2,_⟩:=blk3x Hb2.out
   have hbr0:=Hbr.out
   obtain ⟨r0,r1,r2,f0,f1,f2⟩:=blk3x Hbr.out
   go_wp2_with fail
   clear a0 a1 a2 b0 b1 b2 r0 r1 r2 f0 f1 f2
   refine (Hrk.out _).mono ?_
   rintro e w1 ⟨rfl,u1⟩
   obtain ⟨a0,a1,a2,_⟩:=blk3x (u1.blk Hb1.out (by simp))
   obtain ⟨b0,b1,b2,_⟩:=blk3x (u1.blk Hb2.out (by simp))
   have hbr1:=(u1.blk Hbr.out (by simp))
   obtain ⟨r0,r1,r2,f0,f1,f2⟩:=blk3x (u1.blk Hbr.out (by simp))
   go_wp2_with fail
   obtain ⟨q1,q2⟩:=out3 (u1.blk Hbr.out (by simp)) (.int .i64 0) (.int .i64 0) (.string ⟨#[]⟩)
   obtain ⟨d0,d1,d2,_⟩:=blk3x q1
   refine bodyPost_ret (v:=.tuple #[.agg #[.int .i64 0,.int .i64 0,.string ⟨#[]⟩],.int .i64 (10)]) (by simp [results,Tryz.results153,go_sem,d0,d1,d2]) rfl ⟨?_,(T0.out.trans0 u1).trans q2 (fun b hb=>.inr (by simp at hb;omega))⟩
   rw [Hf.out];rfl
  ·have Hf:=lh (show arithV o ⟨k1,n1,s1⟩ ⟨k2,n2,s2⟩=(ofV rn,0) by rw [Hha.out,if_pos rfl])
   go_enter Tryz.func153,Tryz.ntmps153
   go_wp2_with fail
   rw [<- HW.out]
   refine (Hib.out _).mono ?_
   rintro e w' ⟨rfl,rfl⟩
   obtain ⟨a0,a1,a2,_⟩:=blk3x Hb1.out
   obtain ⟨b0,b1,b2,_⟩:=blk3x Hb2.out
   have hbr0:=Hbr.out
   obtain ⟨r0,r1,r2,f0,f1,f2⟩:=blk3x Hbr.out
   go_wp2_with fail
   clear a0 a1 a2 b0 b1 b2 r0 r1 r2 f0 f1 f2
   refine (Hrk.out _).mono ?_
   rintro e w1 ⟨rfl,u1⟩
   obtain ⟨a0,a1,a2,_⟩:=blk3x (u1.blk Hb1.out (by simp))
   obtain ⟨b0,b1,b2,_⟩:=blk3x (u1.blk Hb2.out (by simp))
   have hbr1:=(u1.blk Hbr.out (by simp))
   obtain ⟨r0,r1,r2,f0,f1,f2⟩:=blk3x (u1.blk Hbr.out (by simp))
   go_wp2_with fail
   clear a0 a1 a2 b0 b1 b2 r0 r1 r2 f0 f1 f2
   refine (Hof.out _ _).mono ?_
   rintro e w2 ⟨rfl,u2⟩
   obtain ⟨a0,a1,a2,_⟩:=blk3x (u2.blk (u1.blk Hb1.out (by simp)) (by simp))
   obtain ⟨b0,b1,b2,_⟩:=blk3x (u2.blk (u1.blk Hb2.out (by simp)) (by simp))
   have hbr2:=(u2.blk (u1.blk Hbr.out (by simp)) (by simp))
   obtain ⟨r0,r1,r2,f0,f1,f2⟩:=blk3x (u2.blk (u1.blk Hbr.out (by simp)) (by simp))
   go_wp2_with fail
   obtain ⟨q1,q2⟩:=out3 (u2.blk (u1.blk Hbr.out (by simp)) (by simp)) (.int .i64 1) (.int .i64 rn) (.string ⟨#[]⟩)
   obtain ⟨d0,d1,d2,_⟩:=blk3x q1
   refine bodyPost_ret (v:=.tuple #[.agg #[.int .i64 1,.int .i64 rn,.string ⟨#[]⟩],.int .i64 (0)]) (by simp [results,Tryz.results153,go_sem,d0,d1,d2]) rfl ⟨?_,((T0.out.trans0 u1).trans0 u2).trans q2 (fun b hb=>.inr (by simp at hb;omega))⟩
   rw [Hf.out];rfl
end
section
open Go.RowKit
def Fr (base:Nat) (w:World):Nat->Prop:=fun b=>base<=b/\b < w.heap.size
def OwnX (t:TypeId) (enc:XC->List Value) (base n:Nat) (w:World) (B:Option Addr) (c:Nat) (args:List (TX n)):Prop :=
 ∃ xs:List XC,xs.length=args.length/\OwnK t 7 enc w B c xs/\(∀ b∈fpo B,base<=b)/\∀ i (h1:i < xs.length) (h2:i < args.length),ExP enc (fun b=>Fr base w b/\b∉fpo B) n w xs[i] args[i]
theorem OwnX.nil (t:TypeId) (enc:XC->List Value) (base n:Nat) (w:World):OwnX t enc base n w none 0 []:=⟨[],rfl,OwnK.nil _ _ _ _,by simp [fpo],fun i h=>absurd h (by simp)⟩
theorem OwnX.lt {t:TypeId} {enc:XC->List Value} {base n:Nat} {w:World} {B:Option Addr} {c:Nat} {args:List (TX n)} (h:OwnX t enc base n w B c args):∀ b∈fpo B,base<=b/\b < w.heap.size:=by
 obtain ⟨xs,_,h2,h3,_⟩:=h
 exact fun b hb=>⟨h3 b hb,h2.lt b hb⟩
theorem OwnX.touch {t:TypeId} {enc:XC->List Value} {base n:Nat} {w w':World} {B:Option Addr} {c:Nat} {args:List (TX n)} {fp:List Nat} (h:OwnX t enc base n w B c args) (ht:Touch fp w w') (hfp:∀ b∈fp,b < base):OwnX t enc base n w' B c args:=by
 obtain ⟨xs,h1,h2,h3,h4⟩:=h
 exact ⟨xs,h1,h2.touch ht (fun b hb hm=>by have:=hfp b hm;have:=h3 b hb;omega),h3,fun i a b=>((h4 i a b).touch ht (fun b hb hp=>by have:=hfp b hb;have:=hp.1.1;omega)).mono (fun b hb=>⟨⟨hb.1.1,Nat.lt_of_lt_of_le hb.1.2 ht.size⟩,hb.2⟩)⟩
theorem OwnX.touch0 {t:TypeId} {enc:XC->List Value} {base n:Nat} {w w':World} {B:Option Addr} {c:Nat} {args:List (TX n)} (h:OwnX t enc base n w B c args) (ht:Touch [] w w'):OwnX t enc base n w' B c args:=h.touch ht (by simp)
theorem OwnX.base {t:TypeId} {enc:XC->List Value} {base base' n:Nat} {w:World} {B:Option Addr} {c:Nat} {args:List (TX n)} (h:OwnX t enc base n w B c args) (hb:base'<=base):OwnX t enc base' n w B c args:=by
 obtain ⟨xs,h1,h2,h3,h4⟩:=h
 exact ⟨xs,h1,h2,fun b hbm=>by have:=h3 b hbm;omega,fun i a b=>(h4 i a b).mono fun b hp=>⟨⟨by have:=hp.1.1;omega,hp.1.2⟩,hp.2⟩⟩
theorem blk7 {w:World} {R:Nat} {t:TypeId} {a0 a1 a2 a3 a4 a5 a6:Value} (h:w.heap[R]?=some (.cells #[a0,a1,a2,a3,a4,a5,a6] t (0,0))) :
  w.cell? ⟨R,0,none⟩=some a0/\w.cell? ⟨R,1,none⟩=some a1/\w.cell? ⟨R,2,none⟩=some a2/\w.cell? ⟨R,3,none⟩=some a3/\w.cell? ⟨R,4,none⟩=some a4/\w.cell? ⟨R,5,none⟩=some a5/\w.cell? ⟨R,6,none⟩=some a6/\w.frozen? ⟨R,0,none⟩=false/\w.frozen? ⟨R,1,none⟩=false/\w.frozen? ⟨R,2,none⟩=false/\w.frozen? ⟨R,3,none⟩=false/\w.frozen? ⟨R,4,none⟩=false/\w.frozen? ⟨R,5,none⟩=false/\w.frozen? ⟨R,6,none⟩=false :=
 ⟨cell_blk h rfl,cell_blk h rfl,cell_blk h rfl,cell_blk h rfl,cell_blk h rfl,cell_blk h rfl,cell_blk h rfl,by simp [World.frozen?,h],by simp [World.frozen?,h],by simp [World.frozen?,h],by simp [World.frozen?,h],by simp [World.frozen?,h],by simp [World.frozen?,h],by simp [World.frozen?,h]⟩
end
section
open Go.RowKit
def eqV3 (a b:VD):Bool:=decide (a.kind=b.kind)&&(decide (a.num=b.num)&&decide (a.text=b.text))
theorem eqIn_valX (a b:VD) (w:World):(Op.equalIn 10000 31 (.agg #[.int .i64 a.kind,.int .i64 a.num,.string a.text]) (.agg #[.int .i64 b.kind,.int .i64 b.num,.string b.text])).run Tryz.prog w=.ok (eqV3 a b) w:=by
 have hS:Tryz.prog.underlying 31=some (.struct (Tryz.prog.fieldsOf 31)):=by kernel_rfl
 have hp:Tryz.prog.stoodInHeld 31=false:=by kernel_rfl
 rw [show (10000:Nat)=9999+1 from rfl,run_equalIn_agg w 9999 31 _ _ hS hp]
 simp only [Program.fieldsOf,Tryz.underlying31]
 have hs:=bs_beq a.text b.text
 go_simp
 by_cases h1:a.kind=b.kind <;> by_cases h2:a.num=b.num <;> by_cases h3:a.text=b.text <;> simp [eqV3,h1,h2,h3]
theorem guard_valX (op:BinOp) (x y:Operand) (a b:Array Value) (w:World):(eqGuard op 31 x y (.agg a) (.agg b)).run Tryz.prog w=.ok () w:=run_eqGuard_agg w op _ x y _ _ (by kernel_rfl)
end
section
open Go.RowKit
section
variable {P:Program} {ops:Array Oper} {Q:Exit->Act->World->Prop} {md:Region.Mode} {S S':World->Prop}
theorem take_d {i d:Nat} {oi:Oper} {v:Value} {fuel:Nat} {listed:Array Bool} {a:Act} {w:World} (hi:ops[i]?=some oi) (hd:oi.dst=some d)
  (hs:Region.noSelect ops=true) (hf:Region.free md ops listed i=true) (hr:(Region.ready md ops listed).contains i=true)
  (hQ:∀ c a w,Q (.panic c) (a.put oi.dst v) w->Q (.panic c) a w) (hy:YieldsIf P ops S oi v a) (hS:S w)
  (h:wpAnyH P md ops Q S fuel (listed.setIfInBounds i true) (a.put (some d) v) w):wpAnyH P md ops Q S (fuel+1) listed a w :=
 wpAnyH_take hi hs hf hr hQ hy hS (by rw [hd];exact h)
end
end
section
open Go.RowKit
def IntsAt (w:World) (A:Option Addr) (l:List Int):Prop:=RdK inE w A l
theorem IntsAt.touch0 {w w':World} {A:Option Addr} {l:List Int} (h:IntsAt w A l) (ht:Touch [] w w'):IntsAt w' A l:=RdK.touch0 h ht
theorem IntsAt.at_ {w:World} {A:Option Addr} {l:List Int} (h:IntsAt w A l) (i:Nat) (hi:i < l.length):∃ ad,A=some ad/\w.cell? (ad.add i)=some (.int .i64 l[i]):=by
 obtain ⟨ad,b,off,e1,e2,_,e3⟩:=RdK.at_ h 1 inE_length (by omega) i hi
 rw [Nat.mul_one] at e2
 exact ⟨ad,e1,by rw [e2];exact e3 0 _ rfl⟩
structure RC where
 name:ByteArray
 A:Option Addr
 n:Nat
 c:Nat
 out:Int
def ruE (r:RC):List Value:=[.string r.name,.slice r.A r.n r.c,.int .i64 r.out]
theorem ruE_length (r:RC):(ruE r).length=3:=rfl
def RulesAt (p:Nat->Prop) (w:World) (A:Option Addr) (rs:List RU):Prop :=
 (∀ b∈fpo A,p b)/\∃ cs:List RC,cs.length=rs.length/\RdK ruE w A cs/\∀ i (h1:i < cs.length) (h2:i < rs.length),cs[i].name=rs[i].name/\cs[i].out=rs[i].out/\cs[i].n=rs[i].args.length/\IntsAt w cs[i].A rs[i].args/\∀ b∈fpo cs[i].A,p b
theorem RulesAt.touch {p:Nat->Prop} {w w':World} {A:Option Addr} {rs:List RU} {fp:List Nat} (h:RulesAt p w A rs) (ht:Touch fp w w') (hp:∀ b∈fp,¬ p b):RulesAt p w' A rs:=by
 obtain ⟨h0,cs,h1,h2,h3⟩:=h
 exact ⟨h0,cs,h1,RdK.touch h2 ht (fun b hb hm=>hp b hm (h0 b hb)),fun i a b=>⟨(h3 i a b).1,(h3 i a b).2.1,(h3 i a b).2.2.1,RdK.touch (h3 i a b).2.2.2.1 ht (fun x hx hm=>hp x hm ((h3 i a b).2.2.2.2 x hx)),(h3 i a b).2.2.2.2⟩⟩
theorem RulesAt.touch0 {p:Nat->Prop} {w w':World} {A:Option Addr} {rs:List RU} (h:RulesAt p w A rs) (ht:Touch [] w w'):RulesAt p w' A rs:=h.touch ht (by simp)
theorem RulesAt.at_ {p:Nat->Prop} {w:World} {A:Option Addr} {rs:List RU} (h:RulesAt p w A rs) (i:Nat) (hi:i < rs.length) :
  ∃ ad b off B c,A=some ad/\ad.add (i*3)=⟨b,off,none⟩/\w.cell? ⟨b,off,none⟩=some (.string rs[i].name)/\w.cell? ⟨b,off+1,none⟩=some (.slice B rs[i].args.length c)/\w.cell? ⟨b,off+2,none⟩=some (.int .i64 rs[i].out)/\IntsAt w B rs[i].args/\p b/\∀ b∈fpo B,p b:=by
 obtain ⟨h0,cs,h1,h2,h3⟩:=h
 obtain ⟨ad,b,off,e1,e2,e4,e3⟩:=RdK.at_ h2 3 ruE_length (by omega) i (by omega)
 obtain ⟨f1,f2,f3,f4,f5⟩:=h3 i (by omega) hi
 refine ⟨ad,b,off,cs[i].A,cs[i].c,e1,e2, ?_, ?_, ?_,f4,h0 b (by rw [e1,e4];simp [fpo]),f5⟩
 ·rw [<- f1];exact e3 0 _ rfl
 ·rw [<- f3];exact e3 1 _ rfl
 ·rw [<- f2];exact e3 2 _ rfl
def allocI:World->List (List Int)->World
 | w,[]=>w
 | w,l :: r=>allocI (w.alloc (.cells (l.flatMap inE).toArray 3)) r
theorem allocI_touch:∀ (L:List (List Int)) (w:World),Touch [] w (allocI w L)
 | [],_=>Touch.refl _ _
 | _ :: r,w=>((Touch.refl [] w).alloc _).trans0 (allocI_touch r _)
theorem allocI_size:∀ (L:List (List Int)) (w:World),(allocI w L).heap.size=w.heap.size+L.length
 | [],w=>rfl
 | l :: r,w=>by
  show (allocI _ r).heap.size=_
  rw [allocI_size r,World.size_alloc,List.length_cons];omega
theorem allocI_at:∀ (L:List (List Int)) (w:World) (i:Nat) (h:i < L.length),IntsAt (allocI w L) (some ⟨w.heap.size+i,0,none⟩) L[i]
 | l :: r,w,0,_=>(RdK.row w 3 l _ (by simp)).touch0 (allocI_touch r _)
 | l :: r,w,i+1,h=>by
  have:=allocI_at r (w.alloc (.cells (l.flatMap inE).toArray 3)) i (by simpa using h)
  rw [World.size_alloc] at this
  have e:w.heap.size+1+i=w.heap.size+(i+1):=by omega
  rw [e] at this
  exact this
def rcs (base:Nat):List RU->List RC
 | []=>[]
 | r :: s=>⟨r.name,some ⟨base,0,none⟩,r.args.length,r.args.length,r.out⟩ :: rcs (base+1) s
theorem rcs_len:∀ (rs:List RU) (base:Nat),(rcs base rs).length=rs.length
 | [],_=>rfl
 | r :: s,base=>by show (rcs (base+1) s).length+1=_;rw [rcs_len s];rfl
theorem rcs_at:∀ (rs:List RU) (base i:Nat) (h1:i < (rcs base rs).length) (h2:i < rs.length),(rcs base rs)[i]=⟨rs[i].name,some ⟨base+i,0,none⟩,rs[i].args.length,rs[i].args.length,rs[i].out⟩
 | r :: s,base,0,_,_=>rfl
 | r :: s,base,i+1,h1,h2=>by
  have:=rcs_at s (base+1) i (by simpa [rcs] using h1) (by simpa using h2)
  have e:base+1+i=base+(i+1):=by omega
  rw [e] at this
  exact this
theorem rules_laid (rs:List RU) (w:World):RulesAt (fun b=>w.heap.size<=b) ((allocI w (rs.map RU.args)).alloc (.cells ((rcs w.heap.size rs).flatMap ruE).toArray 202)) (some ⟨w.heap.size+rs.length,0,none⟩) rs /\
  Touch [] w ((allocI w (rs.map RU.args)).alloc (.cells ((rcs w.heap.size rs).flatMap ruE).toArray 202)):=by
 have ta:=(Touch.refl [] (allocI w (rs.map RU.args))).alloc (.cells ((rcs w.heap.size rs).flatMap ruE).toArray 202)
 refine ⟨⟨fun b hb=>by simp [fpo] at hb;omega,rcs w.heap.size rs,rcs_len _ _, ?_,fun i h1 h2 => ?_⟩,(allocI_touch _ _).trans0 ta⟩
 ·have:=RdK.row (enc:=ruE) (allocI w (rs.map RU.args)) 202 (rcs w.heap.size rs) ((rcs w.heap.size rs).flatMap ruE).toArray (by simp)
  rw [allocI_size,List.length_map] at this
  exact this
 ·rw [rcs_at rs w.heap.size i h1 h2]
  refine ⟨rfl,rfl,rfl,IntsAt.touch0 ?_ ta,fun b hb=>by simp [fpo] at hb;omega⟩
  have:=allocI_at (rs.map RU.args) w i (by simpa using h2)
  rw [List.getElem_map] at this
  exact this
theorem rules_any (k:Int) (w:World) :
  Calls Tryz.prog 179 #[.int .i64 k] w fun e w'=>∃ A c,e=.returned (.slice A (rulesV k).length c)/\RulesAt (fun b=>w.heap.size<=b) w' A (rulesV k)/\Touch [] w w':=by
 by_cases h3:k=3
 ·subst h3
  go_enter Tryz.func179,Tryz.ntmps179
  go_wp2_with fail
  go_ret
  exact ⟨_,_,rfl,(rules_laid (rulesV 3) w).1,(rules_laid (rulesV 3) w).2⟩
 by_cases h4:k=4
 ·subst h4
  go_enter Tryz.func179,Tryz.ntmps179
  go_wp2_with fail
  go_ret
  exact ⟨_,_,rfl,(rules_laid (rulesV 4) w).1,(rules_laid (rulesV 4) w).2⟩
 by_cases h5:k=5
 ·subst h5
  go_enter Tryz.func179,Tryz.ntmps179
  go_wp2_with fail
  go_ret
  exact ⟨_,_,rfl,(rules_laid (rulesV 5) w).1,(rules_laid (rulesV 5) w).2⟩
 ·have e3:(k==3)=false:=by simpa using h3
  have e4:(k==4)=false:=by simpa using h4
  have e5:(k==5)=false:=by simpa using h5
  have Hr:=lh (show rulesV k=[] by unfold rulesV;rw [if_neg h3,if_neg h4,if_neg h5])
  clear h3 h4 h5
  go_enter Tryz.func179,Tryz.ntmps179
  go_wp2_with fail
  go_ret
  exact ⟨none,0,by rw [Hr.out];rfl,by rw [Hr.out];exact ⟨by simp [fpo],[],rfl,RdK.nil _ _ _,fun i h=>absurd h (by simp)⟩,Touch.refl _ _⟩
end
end Go.Proofs.YtafoklilkdnepaaGreatDoor
