/- Part 19 of the texts of this proof, one behind the other. No condition beyond those that its theorems state. -/
import Derived.Test.YtafoklilkdnepaaGreatDoorRi18
set_option maxRecDepth 40000
set_option maxHeartbeats 25600000
namespace Go.Proofs.YtafoklilkdnepaaGreatDoor
section
open Go.RowKit
attribute [local go_sem ↓] Go.wp_at_zero Go.wp_at_succ
theorem comparing_any (s:ByteArray) (w:World):Calls Tryz.prog 150 #[.string s] w fun e w'=>e=.returned (.int .i64 (cmpI s))/\Touch [] w w':=by
 have Hix:=lh fun w' h=>Go.Proofs.Tryz.slices_Index_string w.heap.size 0 7 7 [S [],S [61],S [33,61],S [60],S [60,61],S [62],S [62,61]] s w' (by decide) (by decide) h
 go_enter Tryz.func150,Tryz.ntmps150
 go_wp2_with fail
 refine (Hix.out _ ?_).mono ?_
 ·intro j hj
  have hj':j < 7:=hj
  have:j=0\/j=1\/j=2\/j=3\/j=4\/j=5\/j=6:=by omega
  rcases this with rfl | rfl | rfl | rfl | rfl | rfl | rfl <;> exact cell_blk (heap_alloc_new w _) rfl
 ·rintro e w1 ⟨rfl,rfl⟩
  go_wp2_with fail
  go_ret
  exact ⟨rfl,(Touch.refl _ _).alloc _⟩
end
section
open Go.RowKit
theorem evalX_at (cs:List CD) (row:List VD) (n:Nat) (e:TX (n+1)) (h1:e.1.kind≠1) (h2:e.1.kind≠2) (h0:0 < e.2.length):evalX cs row (n+1) e =
  if (evalX cs row n e.2[0]).2≠0 then (zeroV,(evalX cs row n e.2[0]).2)
  else match lazyX (evalX cs row n) e.1 e.2 (evalX cs row n e.2[0]).1 with
   | some z=>z
   | none=>if h:1 < e.2.length then (if (evalX cs row n e.2[1]).2≠0 then (zeroV,(evalX cs row n e.2[1]).2) else bothV e.1 (evalX cs row n e.2[0]).1 (evalX cs row n e.2[1]).1) else aloneV e.1 (evalX cs row n e.2[0]).1:=by
 rw [evalX_succ,if_neg h1,if_neg h2]
 revert h0
 generalize e.2=args
 intro h0
 cases args with
 | nil=>exact absurd h0 (by simp)
 | cons a r =>
  simp only [List.getElem_cons_zero]
  split
  ·rfl
  ·rcases hl:lazyX (evalX cs row n) e.1 (a :: r) (evalX cs row n a).1 with _ | z
   ·cases r with
    | nil=>rfl
    | cons b r=>rfl
   ·rfl
theorem S_ne {a b:List UInt8} (h:a≠b):S a≠S b:=fun q=>h (S_inj q)
theorem lazy_in {d:ND} {n:Nat} (h:formV d n=true) (h1:d.kind≠1) (h2:d.kind≠2) (v:VD) (q:Nat) (hq:lazyV d v=some (.inr q)):q < n:=by
 have w1:S [45]≠wAnd:=S_ne (by decide)
 have w2:S [45]≠wOr:=S_ne (by decide)
 have w3:wNot≠wAnd:=S_ne (by decide)
 have w4:wNot≠wOr:=S_ne (by decide)
 have w5:S []≠wEither:=S_ne (by decide)
 have w6:S []≠wIf:=S_ne (by decide)
 have w7:S []≠wAnd:=S_ne (by decide)
 have w8:S []≠wOr:=S_ne (by decide)
 have hq2:q<=2:=by
  unfold lazyV at hq
  (repeat' split at hq) <;> simp at hq <;> (try omega)
 have hq1:q=2->d.op≠wAnd/\d.op≠wOr/\d.name=wIf:=by
  intro h2
  unfold lazyV at hq
  split at hq
  ·(split at hq <;> simp at hq <;> omega)
  ·split at hq
   ·(split at hq <;> simp at hq <;> omega)
   ·split at hq
    ·(split at hq <;> simp at hq <;> omega)
    ·split at hq
     ·exact ⟨‹_›,‹_›,‹_›⟩
     ·cases hq
 have hq0:q≠0:=by
  intro h0
  subst h0
  unfold lazyV at hq
  (repeat' split at hq) <;> simp at hq
 rcases shape h h1 h2 with ⟨_,hn,hnm,ho⟩ | ⟨_,hn,hnm,ho⟩ | ⟨_,ho,hh⟩
 ·exfalso
  unfold lazyV at hq
  rcases ho with ho | ho <;> rw [ho,hnm] at hq
  ·rw [if_neg w1,if_neg w2,if_neg w5,if_neg w6] at hq;cases hq
  ·rw [if_neg w3,if_neg w4,if_neg w5,if_neg w6] at hq;cases hq
 ·rcases Nat.lt_or_ge q 2 with h | h
  ·omega
  ·have:=(hq1 (by omega)).2.2
   rw [hnm] at this;exact absurd this w6
 ·rcases hh with ⟨hn,hm⟩ | ⟨hn,hm⟩ | ⟨hn,hm⟩
  ·exfalso
   unfold lazyV at hq
   rw [ho,if_neg w7,if_neg w8] at hq
   rcases hm with hm | hm | hm <;> rw [hm] at hq <;> simp [wEither,wIf,wLen,wAbs,wIsnull,S_eq] at hq
  ·rcases Nat.lt_or_ge q 2 with h | h
   ·omega
   ·have:=(hq1 (by omega)).2.2
    rw [this] at hm
    rcases hm with hm | hm <;> exact absurd hm (S_ne (by decide))
  ·omega
theorem both_in {d:ND} {n:Nat} (h:formV d n=true) (h1:d.kind≠1) (h2:d.kind≠2) (v:VD) (hn:n≠1) (hq:lazyV d v=none) :
  d.name=wCat\/(d.name≠wCat/\1<=cmpI d.op/\cmpI d.op<=6)\/(d.name≠wCat/\cmpI d.op<=0/\∃ o:UInt8,d.op=S [o]/\((o.toNat:Int)=43\/(o.toNat:Int)=45\/(o.toNat:Int)=42\/(o.toNat:Int)=47\/(o.toNat:Int)=37)):=by
 have c0:S []≠wCat:=S_ne (by decide)
 rcases shape h h1 h2 with ⟨_,hn',_⟩ | ⟨_,_,hnm,ho⟩ | ⟨_,ho,hh⟩
 ·exact absurd hn' hn
 ·right
  rcases ho with ho | ho | ho | ho | ho | ho | ho | ho | ho | ho | ho | ho | ho
  ·right;rw [ho,hnm];exact ⟨c0,by decide,43,rfl,by decide⟩
  ·right;rw [ho,hnm];exact ⟨c0,by decide,45,rfl,by decide⟩
  ·right;rw [ho,hnm];exact ⟨c0,by decide,42,rfl,by decide⟩
  ·right;rw [ho,hnm];exact ⟨c0,by decide,47,rfl,by decide⟩
  ·right;rw [ho,hnm];exact ⟨c0,by decide,37,rfl,by decide⟩
  ·left;rw [ho,hnm];exact ⟨c0,by decide,by decide⟩
  ·left;rw [ho,hnm];exact ⟨c0,by decide,by decide⟩
  ·left;rw [ho,hnm];exact ⟨c0,by decide,by decide⟩
  ·left;rw [ho,hnm];exact ⟨c0,by decide,by decide⟩
  ·left;rw [ho,hnm];exact ⟨c0,by decide,by decide⟩
  ·left;rw [ho,hnm];exact ⟨c0,by decide,by decide⟩
  ·unfold lazyV at hq;rw [if_pos ho] at hq;split at hq <;> cases hq
  ·unfold lazyV at hq;rw [ho] at hq;simp [wOr,wAnd,S_eq] at hq;split at hq <;> cases hq
 ·rcases hh with ⟨hn',_⟩ | ⟨_,hm⟩ | ⟨_,hm⟩
  ·exact absurd hn' hn
  ·rcases hm with hm | hm
   ·exact .inl hm
   ·unfold lazyV at hq
    rw [ho,hm] at hq;simp [wAnd,wOr,S_eq] at hq;split at hq <;> cases hq
  ·unfold lazyV at hq
   rw [ho,hm] at hq;simp [wAnd,wOr,wEither,wIf,S_eq] at hq
theorem form_args {d:ND} {n:Nat} (h:formV d n=true) (h1:d.kind≠1) (h2:d.kind≠2):0 < n:=by
 rcases shape h h1 h2 with ⟨_,hn,_⟩ | ⟨_,hn,_⟩ | ⟨_,_,⟨hn,_⟩ | ⟨hn,_⟩ | ⟨hn,_⟩⟩ <;> omega
end
section
open Go.RowKit
attribute [local go_sem ↓] Go.wp_at_zero Go.wp_at_succ
theorem eval_step (n:Nat) (ih:EvalSaid n):EvalSaid (n+1):=by
 intro e x CA cc cm cs hcm RB rc rm row hrm w hx hcs hrow hmb hrl hok hrt hall
 have hev1:=evalX_succ cs row n e
 have hev2:=evalX_at cs row n e
 obtain ⟨res,hres⟩:∃ res,res=evalX cs row (n+1) e:=⟨_,rfl⟩
 rw [<- hres] at hev1 hev2 ⊢
 clear hres
 obtain ⟨h1,h2,h3⟩:=hx.args
 obtain ⟨ha1,ha2⟩:=hall
 obtain ⟨ho1,ho2,ho3⟩:=hok
 clear hx
 generalize e.1=nd at *
 generalize e.2=args at *
 subst h1
 have Hlz:=lh fun v w' (t:Touch [] w w') hq=>lazy_any n ih x args v CA cc cm cs hcm RB rc rm row hrm w' h2 (h3.touch0 t) (hcs.touch0 t) (hrow.touch0 t) hmb hrl ho3 hrt ha2 hq
 have Hal:=lh fun v w'=>alone_any x v w'
 have Hfi:=lh fun w' (t:Touch [] w w')=>findC_any CA cc cm cs hcm x.nd.name w' (hcs.touch0 t) hmb
 have hlin:=fun h1 h2=>lazy_in ho1 h1 h2
 have hbin:=fun h1 h2=>both_in ho1 h1 h2
 have hfa:=form_args ho1
 have htx:=fun (q:Nat) (hq:q < args.length)=>eval_text cs row 140737000000000 (by omega) hrt n args[q] (ha2 _ (List.getElem_mem hq))
 obtain ⟨⟨k,nm,⟨vk,vn,vt⟩,op⟩,XA,m,c⟩:=x
 dsimp only at h2 h3 ha1 ho1 ho2 hev1 hev2 hlin hbin hfa
 simp only [XC.val] at Hlz Hal ⊢
 simp only at Hlz Hal Hfi
 have t0:=((Touch.refl [] w).alloc (.cells #[.int .i64 k,.string nm,.int .i64 vk,.int .i64 vn,.string vt,.string op,.slice XA m c] 44)).alloc (.cells #[.int .i64 0,.int .i64 0,.string ⟨#[]⟩] 31)
 have hb1:=((Touch.refl [] (w.alloc (.cells #[.int .i64 k,.string nm,.int .i64 vk,.int .i64 vn,.string vt,.string op,.slice XA m c] 44))).alloc (.cells #[.int .i64 0,.int .i64 0,.string ⟨#[]⟩] 31)).blk (heap_alloc_new w (.cells #[.int .i64 k,.string nm,.int .i64 vk,.int .i64 vn,.string vt,.string op,.slice XA m c] 44)) (by simp)
 have hbr:=heap_alloc_new (w.alloc (.cells #[.int .i64 k,.string nm,.int .i64 vk,.int .i64 vn,.string vt,.string op,.slice XA m c] 44)) (.cells #[.int .i64 0,.int .i64 0,.string ⟨#[]⟩] 31)
 simp only [World.size_alloc] at hbr
 obtain ⟨W,hW⟩:∃ W,W=(w.alloc (.cells #[.int .i64 k,.string nm,.int .i64 vk,.int .i64 vn,.string vt,.string op,.slice XA m c] 44)).alloc (.cells #[.int .i64 0,.int .i64 0,.string ⟨#[]⟩] 31):=⟨_,rfl⟩
 rw [<- hW] at hb1 hbr t0
 have HW:=lh hW;have Hb1:=lh hb1;have Hbr:=lh hbr;have T0:=lh t0
 have H2:=lh h2
 clear hW hb1 hbr t0 h2
 by_cases hk1:k=1
 ·have hpl:=ho2 hk1
  rw [if_pos hk1] at hev1
  rcases hp:placeV cs nm with _ | q
  ·rw [hp] at hpl;cases hpl
  have hql:=placeV_lt hp
  have hqr:q < row.length:=by omega
  rw [hp] at Hfi hev1
  simp only [Option.getD_some,Option.isSome_some] at Hfi hev1
  have hv:row.getD q zeroV=row[q]:=by rw [List.getD_eq_getElem?_getD,List.getElem?_eq_getElem hqr];rfl
  rw [hv] at hev1
  have Hf:=lh hev1
  have hqI:(q:Int) < (rm:Int):=by omega
  have hqI0:(0:Int)<=(q:Int):=by omega
  subst hk1
  clear hp hv hev1 hev2 hlin hbin hfa Hlz Hal hpl htx
  go_enter Tryz.func107,Tryz.ntmps107
  go_wp2_with fail
  rw [<- HW.out]
  obtain ⟨a0,a1,a2,a3,a4,a5,a6,_⟩:=blk7 Hb1.out
  go_wp2_with fail
  clear a0 a1 a2 a3 a4 a5 a6
  refine (Hfi.out _ T0.out).mono ?_
  rintro e w1 ⟨rfl,u1⟩
  obtain ⟨ad,b,off,rfl,hadd,v0,v1,v2⟩:=(hrow.touch0 (T0.out.trans0 u1)).at_ q hqr
  obtain ⟨a0,a1,a2,a3,a4,a5,a6,_⟩:=blk7 (u1.blk Hb1.out (by simp))
  obtain ⟨r0,r1,r2,f0,f1,f2⟩:=blk3x (u1.blk Hbr.out (by simp))
  go_wp2_with fail
  obtain ⟨q1,q2⟩:=out3 (u1.blk Hbr.out (by simp)) (.int .i64 row[q].kind) (.int .i64 row[q].num) (.string row[q].text)
  obtain ⟨d0,d1,d2,_⟩:=blk3x q1
  refine bodyPost_ret (v:=.tuple #[.agg #[.int .i64 row[q].kind,.int .i64 row[q].num,.string row[q].text],.int .i64 (0)]) (by simp [results,Tryz.results107,go_sem,d0,d1,d2]) rfl ⟨?_,(T0.out.trans0 u1).trans q2 (fun b hb=>.inr (by simp at hb;omega))⟩
  rw [Hf.out];rfl
 have e1:(k==1)=false:=by simpa using hk1
 by_cases hk2:k=2
 ·rw [if_neg hk1,if_pos hk2] at hev1
  have Hf:=lh hev1
  subst hk2
  clear hev1 hev2 hlin hbin hfa Hlz Hal htx Hfi
  go_enter Tryz.func107,Tryz.ntmps107
  go_wp2_with fail
  have q1:=heap_alloc_new (w.alloc (.cells #[.int .i64 2,.string nm,.int .i64 vk,.int .i64 vn,.string vt,.string op,.slice XA m c] 44)) (.cells #[.int .i64 vk,.int .i64 vn,.string vt] 31)
  simp only [World.size_alloc] at q1
  obtain ⟨d0,d1,d2,_⟩:=blk3x q1
  refine bodyPost_ret (v:=.tuple #[.agg #[.int .i64 vk,.int .i64 vn,.string vt],.int .i64 0]) (by simp [results,Tryz.results107,go_sem,d0,d1,d2]) rfl ⟨?_,((Touch.refl [] w).alloc (.cells #[.int .i64 2,.string nm,.int .i64 vk,.int .i64 vn,.string vt,.string op,.slice XA m c] 44)).alloc _⟩
  rw [Hf.out];rfl
 have e2:(k==2)=false:=by simpa using hk2
 have h0:=hfa hk1 hk2
 have hst:=hev2 hk1 hk2 h0
 have hli:=hlin hk1 hk2
 have hbi:=hbin hk1 hk2
 clear hev1 hev2 hlin hbin hfa Hfi hk1 hk2 ho2 ho1 ha1
 obtain ⟨ad,b,off,y,rfl,hadd,hy,hcell⟩:=h3.at_ xcE_length 0 h0
 have Hev:=lh fun w' (t:Touch [] w w')=>ih args[0] y CA cc cm cs hcm RB rc rm row hrm w' (hy.touch0 t) (hcs.touch0 t) (hrow.touch0 t) hmb hrl (ho3 _ (List.getElem_mem h0)) hrt (ha2 _ (List.getElem_mem h0))
 have hfx:=htx 0 h0
 obtain ⟨⟨⟨fk,fn,fs⟩,fx⟩,hfe⟩:∃ r,r=evalX cs row n args[0]:=⟨_,rfl⟩
 rw [<- hfe] at hst Hev hfx
 obtain ⟨⟨k2,nm2,⟨vk2,vn2,vt2⟩,op2⟩,A2,m2,c2'⟩:=y
 simp only [XC.val,VD.val] at Hev
 have c0:=hcell 0 _ rfl;have c1:=hcell 1 _ rfl;have c2:=hcell 2 _ rfl;have c3:=hcell 3 _ rfl;have c4:=hcell 4 _ rfl;have c5:=hcell 5 _ rfl;have c6:=hcell 6 _ rfl
 rw [Nat.add_zero] at c0
 simp only at c0 c1 c2 c3 c4 c5 c6 hfx
 have hqI:(0:Int) < (m:Int):=by have:=H2.out;omega
 have C0:=lh c0;have C1:=lh c1;have C2:=lh c2;have C3:=lh c3;have C4:=lh c4;have C5:=lh c5;have C6:=lh c6
 clear hcell c0 c1 c2 c3 c4 c5 c6 hy hfe
 have c0:=(((Touch.refl [] w).alloc (.cells #[.int .i64 k,.string nm,.int .i64 vk,.int .i64 vn,.string vt,.string op,.slice (some ad) m c] 44)).alloc (.cells #[.int .i64 0,.int .i64 0,.string ⟨#[]⟩] 31)).cell C0.out (by simp)
 have c1:=(((Touch.refl [] w).alloc (.cells #[.int .i64 k,.string nm,.int .i64 vk,.int .i64 vn,.string vt,.string op,.slice (some ad) m c] 44)).alloc (.cells #[.int .i64 0,.int .i64 0,.string ⟨#[]⟩] 31)).cell C1.out (by simp)
 have c2:=(((Touch.refl [] w).alloc (.cells #[.int .i64 k,.string nm,.int .i64 vk,.int .i64 vn,.string vt,.string op,.slice (some ad) m c] 44)).alloc (.cells #[.int .i64 0,.int .i64 0,.string ⟨#[]⟩] 31)).cell C2.out (by simp)
 have c3:=(((Touch.refl [] w).alloc (.cells #[.int .i64 k,.string nm,.int .i64 vk,.int .i64 vn,.string vt,.string op,.slice (some ad) m c] 44)).alloc (.cells #[.int .i64 0,.int .i64 0,.string ⟨#[]⟩] 31)).cell C3.out (by simp)
 have c4:=(((Touch.refl [] w).alloc (.cells #[.int .i64 k,.string nm,.int .i64 vk,.int .i64 vn,.string vt,.string op,.slice (some ad) m c] 44)).alloc (.cells #[.int .i64 0,.int .i64 0,.string ⟨#[]⟩] 31)).cell C4.out (by simp)
 have c5:=(((Touch.refl [] w).alloc (.cells #[.int .i64 k,.string nm,.int .i64 vk,.int .i64 vn,.string vt,.string op,.slice (some ad) m c] 44)).alloc (.cells #[.int .i64 0,.int .i64 0,.string ⟨#[]⟩] 31)).cell C5.out (by simp)
 have c6:=(((Touch.refl [] w).alloc (.cells #[.int .i64 k,.string nm,.int .i64 vk,.int .i64 vn,.string vt,.string op,.slice (some ad) m c] 44)).alloc (.cells #[.int .i64 0,.int .i64 0,.string ⟨#[]⟩] 31)).cell C6.out (by simp)
 go_enter Tryz.func107,Tryz.ntmps107
 go_wp2_with fail
 rw [<- HW.out]
 clear c0 c1 c2 c3 c4 c5 c6
 refine (Hev.out _ T0.out).mono ?_
 rintro e w1 ⟨rfl,u1⟩
 have tf:=(Touch.refl [] w1).alloc (.cells #[.int .i64 fk,.int .i64 fn,.string fs] 31)
 have hf:=heap_alloc_new w1 (.cells #[.int .i64 fk,.int .i64 fn,.string fs] 31)
 have TT1:=lh ((T0.out.trans0 u1).trans0 tf)
 have Ha1:=lh (tf.blk (u1.blk Hb1.out (by simp)) (by simp))
 have Hr1:=lh (tf.blk (u1.blk Hbr.out (by simp)) (by simp))
 have Hf1:=lh hf
 clear Hev
 by_cases hfx0:fx≠0
 ·rw [if_pos hfx0] at hst
  have Hf:=lh hst
  have q6:(fx != 0)=true:=by simpa using hfx0
  clear hst hfx0 Hlz Hal
  obtain ⟨a0,a1,a2,a3,a4,a5,a6,_⟩:=blk7 Ha1.out
  obtain ⟨r0,r1,r2,f0,f1,f2⟩:=blk3x Hr1.out
  obtain ⟨f0,f1,f2,_⟩:=blk3x Hf1.out
  go_wp2_with fail
  obtain ⟨q1,q2⟩:=out3 Hr1.out (.int .i64 0) (.int .i64 0) (.string ⟨#[]⟩)
  obtain ⟨d0,d1,d2,_⟩:=blk3x q1
  refine bodyPost_ret (v:=.tuple #[.agg #[.int .i64 0,.int .i64 0,.string ⟨#[]⟩],.int .i64 (fx)]) (by simp [results,Tryz.results107,go_sem,d0,d1,d2]) rfl ⟨?_,TT1.out.trans q2 (fun b hb=>.inr (by simp at hb;omega))⟩
  rw [Hf.out];rfl
 have hfx1:fx=0:=by omega
 rw [if_neg hfx0] at hst
 subst hfx1
 clear hfx0
 have hlz:=fun w' t=>Hlz.out ⟨fk,fn,fs⟩ w' t (hli ⟨fk,fn,fs⟩)
 obtain ⟨lz,hlze⟩:∃ r,r=lazyX (evalX cs row n) ⟨k,nm,⟨vk,vn,vt⟩,op⟩ args ⟨fk,fn,fs⟩:=⟨_,rfl⟩
 rw [<- hlze] at hst hlz
 simp only [VD.val] at hlz
 clear Hlz hli
 obtain ⟨a0,a1,a2,a3,a4,a5,a6,_⟩:=blk7 Ha1.out
 obtain ⟨f0,f1,f2,_⟩:=blk3x Hf1.out
 go_wp2_with fail
 clear a0 a1 a2 a3 a4 a5 a6 f0 f1 f2
 rcases lz with _ | ⟨⟨zk,zn,zs⟩,zx⟩
 rotate_left
 ·simp only at hst
  have Hf:=lh hst
  simp only [toldV,VD.val] at hlz
  clear hst hbi hlze Hal
  refine (hlz _ TT1.out).mono ?_
  rintro e w2 ⟨rfl,u2⟩
  have tz:=(Touch.refl [] w2).alloc (.cells #[.int .i64 zk,.int .i64 zn,.string zs] 31)
  have hz:=heap_alloc_new w2 (.cells #[.int .i64 zk,.int .i64 zn,.string zs] 31)
  obtain ⟨a0,a1,a2,a3,a4,a5,a6,_⟩:=blk7 (tz.blk (u2.blk Ha1.out (by simp)) (by simp))
  obtain ⟨r0,r1,r2,f0,f1,f2⟩:=blk3x (tz.blk (u2.blk Hr1.out (by simp)) (by simp))
  obtain ⟨z0,z1,z2,_⟩:=blk3x hz
  go_wp2_with fail
  obtain ⟨q1,q2⟩:=out3 (tz.blk (u2.blk Hr1.out (by simp)) (by simp)) (.int .i64 zk) (.int .i64 zn) (.string zs)
  obtain ⟨d0,d1,d2,_⟩:=blk3x q1
  refine bodyPost_ret (v:=.tuple #[.agg #[.int .i64 zk,.int .i64 zn,.string zs],.int .i64 (zx)]) (by simp [results,Tryz.results107,go_sem,d0,d1,d2]) rfl ⟨?_,((TT1.out.trans0 u2).trans0 tz).trans q2 (fun b hb=>.inr (by simp at hb;omega))⟩
  rw [Hf.out];rfl
 have hlv:lazyV ⟨k,nm,⟨vk,vn,vt⟩,op⟩ ⟨fk,fn,fs⟩=none:=by
  unfold lazyX at hlze
  rcases hv:lazyV ⟨k,nm,⟨vk,vn,vt⟩,op⟩ ⟨fk,fn,fs⟩ with _ | u
  ·rfl
  ·rw [hv] at hlze
   cases u with
   | inl u=>cases hlze
   | inr q=>simp only at hlze;split at hlze <;> cases hlze
 have hbi2:=fun h=>hbi ⟨fk,fn,fs⟩ h hlv
 simp only at hst
 simp only [toldV,VD.val,zeroV,S] at hlz
 clear hlze hlv hbi
 refine (hlz _ TT1.out).mono ?_
 rintro e w2 ⟨rfl,u2⟩
 have tz:=(Touch.refl [] w2).alloc (.cells #[.int .i64 0,.int .i64 0,.string ⟨#[]⟩] 31)
 have hz:=heap_alloc_new w2 (.cells #[.int .i64 0,.int .i64 0,.string ⟨#[]⟩] 31)
 have TT2:=lh ((TT1.out.trans0 u2).trans0 tz)
 have Ha2:=lh (tz.blk (u2.blk Ha1.out (by simp)) (by simp))
 have Hr2:=lh (tz.blk (u2.blk Hr1.out (by simp)) (by simp))
 have Hf2:=lh (tz.blk (u2.blk Hf1.out (by simp)) (by simp))
 have Hz2:=lh hz
 clear hlz
 by_cases hm1:m=1
 ·rw [dif_neg (by have:=H2.out;omega)] at hst
  have hal:=fun w'=>Hal.out ⟨fk,fn,fs⟩ w'
  have q7:((m:Int)==1)=true:=by rw [hm1];rfl
  obtain ⟨⟨⟨gk,gn,gs⟩,gx⟩,hge⟩:∃ r,r=aloneV ⟨k,nm,⟨vk,vn,vt⟩,op⟩ ⟨fk,fn,fs⟩:=⟨_,rfl⟩
  rw [<- hge] at hst hal
  simp only [VD.val] at hal
  have Hf:=lh hst
  clear hst hbi2 hge Hal hm1
  obtain ⟨a0,a1,a2,a3,a4,a5,a6,_⟩:=blk7 Ha2.out
  obtain ⟨f0,f1,f2,_⟩:=blk3x Hf2.out
  obtain ⟨z0,z1,z2,_⟩:=blk3x Hz2.out
  go_wp2_with fail
  clear a0 a1 a2 a3 a4 a5 a6 f0 f1 f2 z0 z1 z2
  refine (hal _).mono ?_
  rintro e w3 ⟨rfl,u3⟩
  obtain ⟨r0,r1,r2,f0,f1,f2⟩:=blk3x (u3.blk Hr2.out (by simp))
  go_wp2_with fail
  obtain ⟨q1,q2⟩:=out3 (u3.blk Hr2.out (by simp)) (.int .i64 gk) (.int .i64 gn) (.string gs)
  obtain ⟨d0,d1,d2,_⟩:=blk3x q1
  refine bodyPost_ret (v:=.tuple #[.agg #[.int .i64 gk,.int .i64 gn,.string gs],.int .i64 (gx)]) (by simp [results,Tryz.results107,go_sem,d0,d1,d2]) rfl ⟨?_,(TT2.out.trans0 u3).trans q2 (fun b hb=>.inr (by simp at hb;omega))⟩
  rw [Hf.out];rfl
 have hbi:=hbi2 (by have:=H2.out;omega)
 have q7:((m:Int)==1)=false:=by simp;omega
 have h1:1 < args.length:=by have:=H2.out;omega
 rw [dif_pos h1] at hst
 obtain ⟨ad',b',off',y',hade,hadd',hy',hcell⟩:=h3.at_ xcE_length 1 h1
 obtain rfl:ad=ad':=Option.some.inj hade
 have Hev:=lh fun w' (t:Touch [] w w')=>ih args[1] y' CA cc cm cs hcm RB rc rm row hrm w' (hy'.touch0 t) (hcs.touch0 t) (hrow.touch0 t) hmb hrl (ho3 _ (List.getElem_mem h1)) hrt (ha2 _ (List.getElem_mem h1))
 have hgx:=htx 1 h1
 obtain ⟨⟨⟨gk,gn,gs⟩,gx⟩,hge⟩:∃ r,r=evalX cs row n args[1]:=⟨_,rfl⟩
 rw [<- hge] at hst Hev hgx
 obtain ⟨⟨k3,nm3,⟨vk3,vn3,vt3⟩,op3⟩,A3,m3,c3'⟩:=y'
 simp only [XC.val,VD.val] at Hev
 have c0:=hcell 0 _ rfl;have c1:=hcell 1 _ rfl;have c2:=hcell 2 _ rfl;have c3:=hcell 3 _ rfl;have c4:=hcell 4 _ rfl;have c5:=hcell 5 _ rfl;have c6:=hcell 6 _ rfl
 rw [Nat.add_zero] at c0
 simp only at c0 c1 c2 c3 c4 c5 c6 hgx
 have hqI1:(1:Int) < (m:Int):=by have:=H2.out;omega
 have hcmp0:=fun w'=>comparing_any op w'
 obtain ⟨cm',hcme⟩:∃ r,r=cmpI op:=⟨_,rfl⟩
 rw [<- hcme] at hcmp0
 have Hcmp:=lh hcmp0
 have Hcme:=lh hcme
 clear hcmp0 hcme
 clear hcell hy' hge Hal hbi2 hade hadd htx hm1 hqI h0 C0 C1 C2 C3 C4 C5 C6
 replace c0:=TT2.out.cell c0 (by simp);replace c1:=TT2.out.cell c1 (by simp);replace c2:=TT2.out.cell c2 (by simp);replace c3:=TT2.out.cell c3 (by simp);replace c4:=TT2.out.cell c4 (by simp);replace c5:=TT2.out.cell c5 (by simp);replace c6:=TT2.out.cell c6 (by simp)
 obtain ⟨a0,a1,a2,a3,a4,a5,a6,_⟩:=blk7 Ha2.out
 obtain ⟨f0,f1,f2,_⟩:=blk3x Hf2.out
 obtain ⟨z0,z1,z2,_⟩:=blk3x Hz2.out
 go_wp2_with fail
 clear a0 a1 a2 a3 a4 a5 a6 f0 f1 f2 z0 z1 z2
 clear c0 c1 c2 c3 c4 c5 c6
 refine (Hev.out _ TT2.out).mono ?_
 rintro e w3 ⟨rfl,u3⟩
 have tg:=(Touch.refl [] w3).alloc (.cells #[.int .i64 gk,.int .i64 gn,.string gs] 31)
 have hg:=heap_alloc_new w3 (.cells #[.int .i64 gk,.int .i64 gn,.string gs] 31)
 obtain ⟨a0,a1,a2,a3,a4,a5,a6,_⟩:=blk7 (tg.blk (u3.blk Ha2.out (by simp)) (by simp))
 go_wp2_with fail
 clear a0 a1 a2 a3 a4 a5 a6
 refine (Hcmp.out _).mono ?_
 rintro e w4 ⟨rfl,u4⟩
 have TT3:=lh (((TT2.out.trans0 u3).trans0 tg).trans0 u4)
 have Ha3:=lh (u4.blk (tg.blk (u3.blk Ha2.out (by simp)) (by simp)) (by simp))
 have Hr3:=lh (u4.blk (tg.blk (u3.blk Hr2.out (by simp)) (by simp)) (by simp))
 have Hf3:=lh (u4.blk (tg.blk (u3.blk Hf2.out (by simp)) (by simp)) (by simp))
 have Hz3:=lh (u4.blk (tg.blk (u3.blk Hz2.out (by simp)) (by simp)) (by simp))
 have Hg3:=lh (u4.blk hg (by simp))
 clear Hev Hcmp
 by_cases hgx0:gx≠0
 ·rw [if_pos hgx0] at hst
  have Hf:=lh hst
  have q6:(gx != 0)=true:=by simpa using hgx0
  clear hst hgx0 hbi
  obtain ⟨a0,a1,a2,a3,a4,a5,a6,_⟩:=blk7 Ha3.out
  obtain ⟨r0,r1,r2,f0,f1,f2⟩:=blk3x Hr3.out
  go_wp2_with fail
  obtain ⟨q1,q2⟩:=out3 Hr3.out (.int .i64 0) (.int .i64 0) (.string ⟨#[]⟩)
  obtain ⟨d0,d1,d2,_⟩:=blk3x q1
  refine bodyPost_ret (v:=.tuple #[.agg #[.int .i64 0,.int .i64 0,.string ⟨#[]⟩],.int .i64 (gx)]) (by simp [results,Tryz.results107,go_sem,d0,d1,d2]) rfl ⟨?_,TT3.out.trans q2 (fun b hb=>.inr (by simp at hb;omega))⟩
  rw [Hf.out];rfl
 have hgx1:gx=0:=by omega
 rw [if_neg hgx0] at hst
 subst hgx1
 clear hgx0
 have q8:=beq_S nm [99,97,116]
 try dsimp only at hbi
 have hcme:=Hcme.out
 rcases hbi with hb | ⟨hb,hb1,hb2⟩ | ⟨hb,hb1,o,hop,hb2⟩
 ·rw [decide_eq_true (p:=nm=S [99,97,116]) hb] at q8
  rw [show bothV ⟨k,nm,⟨vk,vn,vt⟩,op⟩ ⟨fk,fn,fs⟩ ⟨gk,gn,gs⟩=catV ⟨fk,fn,fs⟩ ⟨gk,gn,gs⟩ from if_pos hb] at hst
  have hca:=fun w'=>cat_any ⟨fk,fn,fs⟩ ⟨gk,gn,gs⟩ hfx hgx w'
  obtain ⟨⟨⟨jk,jn,js⟩,jx⟩,hje⟩:∃ r,r=catV ⟨fk,fn,fs⟩ ⟨gk,gn,gs⟩:=⟨_,rfl⟩
  rw [<- hje] at hst hca
  simp only [VD.val] at hca
  have Hf:=lh hst
  clear hst hje hb hcme
  obtain ⟨a0,a1,a2,a3,a4,a5,a6,_⟩:=blk7 Ha3.out
  obtain ⟨f0,f1,f2,_⟩:=blk3x Hf3.out
  obtain ⟨g0,g1,g2,_⟩:=blk3x Hg3.out
  go_wp2_with fail
  clear a0 a1 a2 a3 a4 a5 a6 f0 f1 f2 g0 g1 g2
  refine (hca _).mono ?_
  rintro e w5 ⟨rfl,u5⟩
  obtain ⟨r0,r1,r2,f0,f1,f2⟩:=blk3x (u5.blk Hr3.out (by simp))
  go_wp2_with fail
  obtain ⟨q1,q2⟩:=out3 (u5.blk Hr3.out (by simp)) (.int .i64 jk) (.int .i64 jn) (.string js)
  obtain ⟨d0,d1,d2,_⟩:=blk3x q1
  refine bodyPost_ret (v:=.tuple #[.agg #[.int .i64 jk,.int .i64 jn,.string js],.int .i64 (jx)]) (by simp [results,Tryz.results107,go_sem,d0,d1,d2]) rfl ⟨?_,(TT3.out.trans0 u5).trans q2 (fun b hb=>.inr (by simp at hb;omega))⟩
  rw [Hf.out];rfl
 ·rw [decide_eq_false (p:=nm=S [99,97,116]) hb] at q8
  rw [show bothV ⟨k,nm,⟨vk,vn,vt⟩,op⟩ ⟨fk,fn,fs⟩ ⟨gk,gn,gs⟩=(compareV (cmpI op) ⟨fk,fn,fs⟩ ⟨gk,gn,gs⟩,0) by unfold bothV;rw [if_neg hb,if_pos (by dsimp only;omega)]] at hst
  have hca:=fun w'=>compare_any (cmpI op) ⟨hb1,hb2⟩ ⟨fk,fn,fs⟩ ⟨gk,gn,gs⟩ w'
  have hb3:0 < cmpI op:=by omega
  rw [<- hcme] at hst hca hb3
  obtain ⟨⟨jk,jn,js⟩,hje⟩:∃ r,r=compareV cm' ⟨fk,fn,fs⟩ ⟨gk,gn,gs⟩:=⟨_,rfl⟩
  rw [<- hje] at hst hca
  simp only [VD.val] at hca
  have Hf:=lh hst
  clear hst hje hb hb1 hb2 hcme
  obtain ⟨a0,a1,a2,a3,a4,a5,a6,_⟩:=blk7 Ha3.out
  obtain ⟨f0,f1,f2,_⟩:=blk3x Hf3.out
  obtain ⟨g0,g1,g2,_⟩:=blk3x Hg3.out
  go_wp2_with fail
  clear a0 a1 a2 a3 a4 a5 a6 f0 f1 f2 g0 g1 g2
  refine (hca _).mono ?_
  rintro e w5 ⟨rfl,u5⟩
  obtain ⟨r0,r1,r2,f0,f1,f2⟩:=blk3x (u5.blk Hr3.out (by simp))
  go_wp2_with fail
  obtain ⟨q1,q2⟩:=out3 (u5.blk Hr3.out (by simp)) (.int .i64 jk) (.int .i64 jn) (.string js)
  obtain ⟨d0,d1,d2,_⟩:=blk3x q1
  refine bodyPost_ret (v:=.tuple #[.agg #[.int .i64 jk,.int .i64 jn,.string js],.int .i64 (0)]) (by simp [results,Tryz.results107,go_sem,d0,d1,d2]) rfl ⟨?_,(TT3.out.trans0 u5).trans q2 (fun b hb=>.inr (by simp at hb;omega))⟩
  rw [Hf.out];rfl
 ·rw [decide_eq_false (p:=nm=S [99,97,116]) hb] at q8
  subst hop
  rw [show bothV ⟨k,nm,⟨vk,vn,vt⟩,S [o]⟩ ⟨fk,fn,fs⟩ ⟨gk,gn,gs⟩=arithV (o.toNat:Int) ⟨fk,fn,fs⟩ ⟨gk,gn,gs⟩ by unfold bothV;rw [if_neg hb,if_neg (by dsimp only;omega)];rfl] at hst
  have Har:=lh fun w'=>arith_any (o.toNat:Int) hb2 ⟨fk,fn,fs⟩ ⟨gk,gn,gs⟩ w'
  have hb3:¬ 0 < cmpI (S [o]):=by omega
  rw [<- hcme] at hb3
  obtain ⟨⟨⟨jk,jn,js⟩,jx⟩,hje⟩:∃ r,r=arithV (o.toNat:Int) ⟨fk,fn,fs⟩ ⟨gk,gn,gs⟩:=⟨_,rfl⟩
  rw [<- hje] at hst Har
  simp only [VD.val] at Har
  have Hf:=lh hst
  clear hst hje hb hb1 hb2 hcme
  obtain ⟨a0,a1,a2,a3,a4,a5,a6,_⟩:=blk7 Ha3.out
  obtain ⟨f0,f1,f2,_⟩:=blk3x Hf3.out
  obtain ⟨g0,g1,g2,_⟩:=blk3x Hg3.out
  go_wp2_with fail
  clear a0 a1 a2 a3 a4 a5 a6 f0 f1 f2 g0 g1 g2
  have td:=(Touch.refl [] w4).drew
  have hdr:=td.blk Hr3.out (by simp)
  obtain ⟨_,_,_,_,_,a5,_,_⟩:=blk7 (td.blk Ha3.out (by simp))
  obtain ⟨f0,f1,f2,_⟩:=blk3x (td.blk Hf3.out (by simp))
  obtain ⟨g0,g1,g2,_⟩:=blk3x (td.blk Hg3.out (by simp))
  have hzf:=(Array.getElem?_eq_some_iff.1 Hf3.out).1
  have hzg:=(Array.getElem?_eq_some_iff.1 Hg3.out).1
  have hzr:=(Array.getElem?_eq_some_iff.1 Hbr.out).1
  have hz1:=u1.size
  have hz3:=u3.size
  have hzr2:=(Array.getElem?_eq_some_iff.1 Hr2.out).1
  refine wp_region_held_drew (S:=fun w'=>w'.cell? ⟨w.heap.size,5,none⟩=some (.string (S [o]))/\w'.cell? ⟨w1.heap.size,0,none⟩=some (.int .i64 fk)/\w'.cell? ⟨w1.heap.size,1,none⟩=some (.int .i64 fn)/\w'.cell? ⟨w1.heap.size,2,none⟩=some (.string fs)/\w'.cell? ⟨w3.heap.size,0,none⟩=some (.int .i64 gk)/\w'.cell? ⟨w3.heap.size,1,none⟩=some (.int .i64 gn)/\w'.cell? ⟨w3.heap.size,2,none⟩=some (.string gs)) (by kernel_rfl) ⟨a5,f0,f1,f2,g0,g1,g2⟩ (fun hHeld => ?_)
  refine take_d (i:=0) (d:=105) (v := ?_) rfl rfl (by kernel_rfl) (by kernel_rfl) (by kernel_rfl) (fun _ _ _ h=>h) (Or.inl ⟨by rfl, ?_⟩) (by assumption) ?_
  rotate_left
  ·intro w hSw;(try dsimp only at hSw);go_simp;(try with_reducible rfl)
  try simp only [Act.put,List.setIfInBounds_toArray,List.set_cons_zero,List.set_cons_succ]
  refine take_d (i:=1) (d:=106) (v := ?_) rfl rfl (by kernel_rfl) (by kernel_rfl) (by kernel_rfl) (fun _ _ _ h=>h) (Or.inl ⟨by rfl, ?_⟩) (by assumption) ?_
  rotate_left
  ·intro w hSw;(try dsimp only at hSw);go_simp;(try with_reducible rfl)
  try simp only [Act.put,List.setIfInBounds_toArray,List.set_cons_zero,List.set_cons_succ]
  refine take_d (i:=2) (d:=107) (v:=.int .u8 (o.toNat:Int)) rfl rfl (by kernel_rfl) (by kernel_rfl) (by kernel_rfl) (fun _ _ _ h=>h) (Or.inl ⟨by rfl, ?_⟩) (by assumption) ?_
  ·intro w hSw;(try dsimp only at hSw);go_simp;rw [dif_pos (show 0 < (S [o]).size from Nat.one_pos)];rfl
  try simp only [Act.put,List.setIfInBounds_toArray,List.set_cons_zero,List.set_cons_succ]
  refine take_d (i:=3) (d:=108) (v := ?_) rfl rfl (by kernel_rfl) (by kernel_rfl) (by kernel_rfl) (fun _ _ _ h=>h) (Or.inl ⟨by rfl, ?_⟩) (by assumption) ?_
  rotate_left
  ·intro w hSw;(try dsimp only at hSw);go_simp;(try with_reducible rfl)
  try simp only [Act.put,List.setIfInBounds_toArray,List.set_cons_zero,List.set_cons_succ]
  refine take_d (i:=4) (d:=109) (v := ?_) rfl rfl (by kernel_rfl) (by kernel_rfl) (by kernel_rfl) (fun _ _ _ h=>h) (Or.inl ⟨by rfl, ?_⟩) (by assumption) ?_
  rotate_left
  ·intro w hSw;(try dsimp only at hSw);go_simp;(try with_reducible rfl)
  try simp only [Act.put,List.setIfInBounds_toArray,List.set_cons_zero,List.set_cons_succ]
  refine wpAnyH_ready (rs:=[5]) (by kernel_rfl) (by simp) ?_
  refine AllReadyH.cons rfl (fun K hK => ?_) AllReadyH.nil
  go_simp
  go_at_call 153
  refine (Har.out _).mono ?_
  rintro e w5 ⟨rfl,u5⟩
  have a5':=u5.cell a5 (by simp)
  have f0':=u5.cell f0 (by simp)
  have f1':=u5.cell f1 (by simp)
  have f2':=u5.cell f2 (by simp)
  have g0':=u5.cell g0 (by simp)
  have g1':=u5.cell g1 (by simp)
  have g2':=u5.cell g2 (by simp)
  (try go_wp2_with fail)
  refine hK.out _ _ ⟨a5',f0',f1',f2',g0',g1',g2'⟩ (fun _hH => ?_)
  clear hK K
  try simp only [Act.put,List.setIfInBounds_toArray,List.set_cons_zero,List.set_cons_succ]
  refine take_d (i:=6) (d:=111) (v := ?_) rfl rfl (by kernel_rfl) (by kernel_rfl) (by kernel_rfl) (fun _ _ _ h=>h) (Or.inl ⟨by rfl, ?_⟩) (by assumption) ?_
  rotate_left
  ·intro w hSw;(try dsimp only at hSw);go_simp;(try with_reducible rfl)
  try simp only [Act.put,List.setIfInBounds_toArray,List.set_cons_zero,List.set_cons_succ]
  refine take_d (i:=7) (d:=112) (v := ?_) rfl rfl (by kernel_rfl) (by kernel_rfl) (by kernel_rfl) (fun _ _ _ h=>h) (Or.inl ⟨by rfl, ?_⟩) (by assumption) ?_
  rotate_left
  ·intro w hSw;(try dsimp only at hSw);go_simp;(try with_reducible rfl)
  try simp only [Act.put,List.setIfInBounds_toArray,List.set_cons_zero,List.set_cons_succ]
  have hbr2:=u5.blk hdr (by simp)
  obtain ⟨r0,r1,r2,f0r,f1r,f2r⟩:=blk3x hbr2
  obtain ⟨q1,q2⟩:=out3 hbr2 (.int .i64 jk) (.int .i64 jn) (.string js)
  have a5'':=q2.cell a5' (by simp only [List.mem_singleton];omega)
  have f0'':=q2.cell f0' (by simp only [List.mem_singleton];omega)
  have f1'':=q2.cell f1' (by simp only [List.mem_singleton];omega)
  have f2'':=q2.cell f2' (by simp only [List.mem_singleton];omega)
  have g0'':=q2.cell g0' (by simp only [List.mem_singleton];omega)
  have g1'':=q2.cell g1' (by simp only [List.mem_singleton];omega)
  have g2'':=q2.cell g2' (by simp only [List.mem_singleton];omega)
  refine wpAnyH_ready (rs:=[8]) (by kernel_rfl) (by simp) ?_
  refine AllReadyH.cons rfl (fun K hK => ?_) AllReadyH.nil
  go_simp
  (try go_wp2_with fail)
  refine hK.out _ _ ⟨a5'',f0'',f1'',f2'',g0'',g1'',g2''⟩ (fun _hH => ?_)
  clear hK K
  try simp only [Act.put,List.setIfInBounds_toArray,List.set_cons_zero,List.set_cons_succ]
  refine take_d (i:=9) (d:=7) (v := ?_) rfl rfl (by kernel_rfl) (by kernel_rfl) (by kernel_rfl) (fun _ _ _ h=>h) (Or.inl ⟨by rfl, ?_⟩) (by assumption) ?_
  rotate_left
  ·intro w hSw;(try dsimp only at hSw);go_simp;(try with_reducible rfl)
  try simp only [Act.put,List.setIfInBounds_toArray,List.set_cons_zero,List.set_cons_succ]
  refine wpAnyH_done (by kernel_rfl) ?_ _
  go_wp2_with fail
  obtain ⟨d0,d1,d2,_⟩:=blk3x q1
  refine bodyPost_ret (v:=.tuple #[.agg #[.int .i64 jk,.int .i64 jn,.string js],.int .i64 jx]) (by simp [results,Tryz.results107,go_sem,d0,d1,d2]) rfl ⟨?_,((TT3.out.trans0 td).trans0 u5).trans q2 (fun b hb=>.inr (by simp at hb;omega))⟩
  rw [Hf.out];rfl
theorem eval_any:∀ n,EvalSaid n
 | 0=>fun e=>e.elim
 | n+1=>eval_step n (eval_any n)
end
section
open Go.RowKit
attribute [local go_sem ↓] Go.wp_at_zero Go.wp_at_succ
theorem typeX_any (n:Nat) (e:TX n) (x:XC) (A:Option Addr) (cap m:Nat) (cs:List CD) (hm:cs.length=m) (hok:∀ c∈cs,c.Ok) (w:World) (hx:ExP xcE anyB n w x e) (hcs:ColsAt w A cs) (hmb:m<=140737000000000)
  (hs:sizeX n e<=1000000) (hall:allX (fun q=>q.v.text.size<=140737000000000) n e) :
  Calls Tryz.prog 68 #[x.val,.slice A m cap] w fun r w'=>r=.returned (.tuple #[.int .i64 (typeX cs n e).1,.int .i64 (typeX cs n e).2])/\Touch [] w w':=by
 have Hchk:=lh fun w' (t:Touch [] w w')=>check_any A cap m cs hm hok w' (hcs.touch0 t) (by omega)
 have Hsz:=lh fun w' (t:Touch [] w w')=>sizeX_any n e x w' (hx.touch0 t) (by omega)
 have Hty:=lh fun w' (t:Touch [] w w')=>typed_any n e x A cap m cs hm 1 w' (hx.touch0 t) (hcs.touch0 t) hmb hs hall (by omega)
 obtain ⟨res,hres⟩:∃ res,res=typeX cs n e:=⟨_,rfl⟩
 rw [<- hres]
 unfold typeX at hres
 obtain ⟨⟨k,nm,⟨vk,vn,vt⟩,op⟩,XA,xm,c⟩:=x
 simp only [XC.val] at Hchk Hsz Hty ⊢
 clear hx hall hs
 have t0:=(Touch.refl [] w).alloc (.cells #[.int .i64 k,.string nm,.int .i64 vk,.int .i64 vn,.string vt,.string op,.slice XA xm c] 44)
 have hb:=heap_alloc_new w (.cells #[.int .i64 k,.string nm,.int .i64 vk,.int .i64 vn,.string vt,.string op,.slice XA xm c] 44)
 have Hb:=lh hb
 clear hb
 obtain ⟨cv,hcv⟩:∃ r,r=checkV cs:=⟨_,rfl⟩
 rw [<- hcv] at Hchk hres
 clear hcv
 by_cases h0:cv=0
 rotate_left
 ·rw [if_neg h0] at hres
  have Hf:=lh hres
  have q0:(cv != 0)=true:=by simpa using h0
  clear h0 hres
  go_enter Tryz.func68,Tryz.ntmps68
  go_wp2_with fail
  refine (Hchk.out _ t0).mono ?_
  rintro e w1 ⟨rfl,t1⟩
  go_wp2_with fail
  go_ret2
  exact ⟨by rw [Hf.out];rfl,t0.trans0 t1⟩
 subst h0
 rw [if_pos rfl] at hres
 obtain ⟨sz,hsz⟩:∃ r,r=sizeX n e:=⟨_,rfl⟩
 rw [<- hsz] at Hsz hres
 clear hsz
 by_cases h1:256 < sz
 ·rw [if_pos h1] at hres
  have Hf:=lh hres
  have q1:(256:Int) < (sz:Int):=by omega
  clear h1 hres
  go_enter Tryz.func68,Tryz.ntmps68
  go_wp2_with fail
  refine (Hchk.out _ t0).mono ?_
  rintro e w1 ⟨rfl,t1⟩
  obtain ⟨c0,c1,c2,c3,c4,c5,c6,_⟩:=blk7 (t1.blk Hb.out (by simp))
  go_wp2_with fail
  refine (Hsz.out _ (t0.trans0 t1)).mono ?_
  rintro e w2 ⟨rfl,t2⟩
  go_wp2_with fail
  go_ret2
  exact ⟨by rw [Hf.out];rfl,(t0.trans0 t1).trans0 t2⟩
 ·rw [if_neg h1] at hres
  have Hf:=lh hres
  have q1:¬ (256:Int) < (sz:Int):=by omega
  clear h1 hres
  go_enter Tryz.func68,Tryz.ntmps68
  go_wp2_with fail
  refine (Hchk.out _ t0).mono ?_
  rintro e w1 ⟨rfl,t1⟩
  obtain ⟨c0,c1,c2,c3,c4,c5,c6,_⟩:=blk7 (t1.blk Hb.out (by simp))
  go_wp2_with fail
  refine (Hsz.out _ (t0.trans0 t1)).mono ?_
  rintro e w2 ⟨rfl,t2⟩
  obtain ⟨c0,c1,c2,c3,c4,c5,c6,_⟩:=blk7 (t2.blk (t1.blk Hb.out (by simp)) (by simp))
  go_wp2_with fail
  refine (Hty.out _ ((t0.trans0 t1).trans0 t2)).mono ?_
  rintro e w3 ⟨rfl,t3⟩
  go_wp2_with fail
  go_ret2
  exact ⟨by rw [Hf.out];rfl,((t0.trans0 t1).trans0 t2).trans0 t3⟩
end
section
open Go.RowKit
attribute [local go_sem ↓] Go.wp_at_zero Go.wp_at_succ
def topX (cs:List CD) (row:List VD) (n:Nat) (e:TX n):VD × Int :=
 if (typeX cs n e).2≠0 then (zeroV,(typeX cs n e).2) else if fitR cs row=true then evalX cs row n e else (zeroV,12)
theorem typeX_ok {cs:List CD} {n:Nat} {e:TX n} (h:(typeX cs n e).2=0):checkV cs=0/\sizeX n e<=256/\(typedX cs n 1 e).2=0/\typeX cs n e=typedX cs n 1 e:=by
 unfold typeX at h ⊢
 by_cases h0:checkV cs=0
 ·rw [if_pos h0] at h ⊢
  by_cases h1:256 < sizeX n e
  ·rw [if_pos h1] at h;cases h
  ·rw [if_neg h1] at h ⊢;exact ⟨h0,by omega,h,rfl⟩
 ·rw [if_neg h0] at h;exact absurd h h0
theorem fitR_len {cs:List CD} {row:List VD} (h:fitR cs row=true):row.length=cs.length:=by
 unfold fitR at h
 rw [Bool.and_eq_true] at h
 exact of_decide_eq_true h.1
theorem topX_any (n:Nat) (e:TX n) (x:XC) (A:Option Addr) (cap m:Nat) (cs:List CD) (hm:cs.length=m) (hok:∀ c∈cs,c.Ok) (B:Option Addr) (rc rm:Nat) (row:List VD) (hrm:row.length=rm) (hvk:∀ v∈row,v.Ok 140737000000000)
  (w:World) (hx:ExP xcE anyB n w x e) (hcs:ColsAt w A cs) (hrow:ValsAt w B row) (hmb:m<=140737000000000) (hrb:rm<=140737000000000) (hs:sizeX n e<=1000000) (hall:allX (fun q=>q.v.text.size<=140737000000000) n e) :
  Calls Tryz.prog 72 #[x.val,.slice A m cap,.slice B rm rc] w fun r w'=>r=.returned (.tuple #[(topX cs row n e).1.val,.int .i64 (topX cs row n e).2])/\Touch [] w w':=by
 have Hty:=lh fun w' (t:Touch [] w w')=>typeX_any n e x A cap m cs hm hok w' (hx.touch0 t) (hcs.touch0 t) hmb hs hall
 have Hfit:=lh fun w' (t:Touch [] w w')=>fits_any A cap m cs hm hok B rc rm row hrm hvk w' (hcs.touch0 t) (hrow.touch0 t) hmb hrb
 have Hev:=lh fun w' (t:Touch [] w w') h1 h2=>eval_any n e x A cap m cs hm B rc rm row hrm w' (hx.touch0 t) (hcs.touch0 t) (hrow.touch0 t) hmb h1 h2 (fun v hv=>(hvk v hv).t) hall
 obtain ⟨res,hres⟩:∃ res,res=topX cs row n e:=⟨_,rfl⟩
 rw [<- hres]
 unfold topX at hres
 obtain ⟨⟨k,nm,⟨vk,vn,vt⟩,op⟩,XA,xm,c⟩:=x
 simp only [XC.val] at Hty Hfit Hev ⊢
 clear hx hall hs
 have t0:=((Touch.refl [] w).alloc (.cells #[.int .i64 k,.string nm,.int .i64 vk,.int .i64 vn,.string vt,.string op,.slice XA xm c] 44)).alloc (.cells #[.int .i64 0,.int .i64 0,.string ⟨#[]⟩] 31)
 have hb1:=((Touch.refl [] (w.alloc (.cells #[.int .i64 k,.string nm,.int .i64 vk,.int .i64 vn,.string vt,.string op,.slice XA xm c] 44))).alloc (.cells #[.int .i64 0,.int .i64 0,.string ⟨#[]⟩] 31)).blk (heap_alloc_new w (.cells #[.int .i64 k,.string nm,.int .i64 vk,.int .i64 vn,.string vt,.string op,.slice XA xm c] 44)) (by simp)
 have hbr:=heap_alloc_new (w.alloc (.cells #[.int .i64 k,.string nm,.int .i64 vk,.int .i64 vn,.string vt,.string op,.slice XA xm c] 44)) (.cells #[.int .i64 0,.int .i64 0,.string ⟨#[]⟩] 31)
 simp only [World.size_alloc] at hbr
 obtain ⟨W,hW⟩:∃ W,W=(w.alloc (.cells #[.int .i64 k,.string nm,.int .i64 vk,.int .i64 vn,.string vt,.string op,.slice XA xm c] 44)).alloc (.cells #[.int .i64 0,.int .i64 0,.string ⟨#[]⟩] 31):=⟨_,rfl⟩
 rw [<- hW] at hb1 hbr t0
 have HW:=lh hW;have Hb1:=lh hb1;have Hbr:=lh hbr;have T0:=lh t0
 have Ho:=lh fun h:(typeX cs n e).2=0=>typeX_ok h
 clear hW hb1 hbr t0 hcs hrow
 obtain ⟨⟨ty,er⟩,hte⟩:∃ r,r=typeX cs n e:=⟨_,rfl⟩
 rw [<- hte] at Hty hres Ho
 simp only at Hty hres Ho
 clear hte
 by_cases h0:er≠0
 ·rw [if_pos h0] at hres
  have Hf:=lh hres
  have q0:(er != 0)=true:=by simpa using h0
  clear h0 hres Ho Hev Hfit
  go_enter Tryz.func72,Tryz.ntmps72
  go_wp2_with fail
  rw [<- HW.out]
  obtain ⟨a0,a1,a2,a3,a4,a5,a6,_⟩:=blk7 Hb1.out
  go_wp2_with fail
  clear a0 a1 a2 a3 a4 a5 a6
  refine (Hty.out _ T0.out).mono ?_
  rintro e w1 ⟨rfl,u1⟩
  obtain ⟨r0,r1,r2,f0,f1,f2⟩:=blk3x (u1.blk Hbr.out (by simp))
  go_wp2_with fail
  obtain ⟨q1,q2⟩:=out3 (u1.blk Hbr.out (by simp)) (.int .i64 0) (.int .i64 0) (.string ⟨#[]⟩)
  obtain ⟨d0,d1,d2,_⟩:=blk3x q1
  refine bodyPost_ret (v:=.tuple #[.agg #[.int .i64 0,.int .i64 0,.string ⟨#[]⟩],.int .i64 er]) (by simp [results,Tryz.results72,go_sem,d0,d1,d2]) rfl ⟨?_,(T0.out.trans0 u1).trans q2 (fun b hb=>.inr (by simp at hb;omega))⟩
  rw [Hf.out];rfl
 have h0':er=0:=by omega
 rw [if_neg h0] at hres
 subst h0'
 obtain ⟨o1,o2,o3,_⟩:=Ho.out rfl
 clear h0 Ho
 rw [o1] at Hfit
 have o4:=okX_of cs n 1 e o3
 rcases hfr:fitR cs row with _ | _
 ·rw [hfr,if_neg (by simp)] at hres
  rw [hfr] at Hfit
  have Hf:=lh hres
  clear hres hfr Hev o1 o2 o3 o4
  simp only [decide_true,Bool.and_false] at Hfit
  go_enter Tryz.func72,Tryz.ntmps72
  go_wp2_with fail
  rw [<- HW.out]
  obtain ⟨a0,a1,a2,a3,a4,a5,a6,_⟩:=blk7 Hb1.out
  go_wp2_with fail
  clear a0 a1 a2 a3 a4 a5 a6
  refine (Hty.out _ T0.out).mono ?_
  rintro e w1 ⟨rfl,u1⟩
  go_wp2_with fail
  refine (Hfit.out _ (T0.out.trans0 u1)).mono ?_
  rintro e w2 ⟨rfl,u2⟩
  obtain ⟨r0,r1,r2,f0,f1,f2⟩:=blk3x (u2.blk (u1.blk Hbr.out (by simp)) (by simp))
  go_wp2_with fail
  obtain ⟨q1,q2⟩:=out3 (u2.blk (u1.blk Hbr.out (by simp)) (by simp)) (.int .i64 0) (.int .i64 0) (.string ⟨#[]⟩)
  obtain ⟨d0,d1,d2,_⟩:=blk3x q1
  refine bodyPost_ret (v:=.tuple #[.agg #[.int .i64 0,.int .i64 0,.string ⟨#[]⟩],.int .i64 12]) (by simp [results,Tryz.results72,go_sem,d0,d1,d2]) rfl ⟨?_,((T0.out.trans0 u1).trans0 u2).trans q2 (fun b hb=>.inr (by simp at hb;omega))⟩
  rw [Hf.out];rfl
 ·rw [hfr,if_pos rfl] at hres
  rw [hfr] at Hfit
  have hev:=fun w' t=>Hev.out w' t (fitR_len hfr) o4
  rw [<- hres] at hev
  obtain ⟨⟨rk,rn,rs⟩,rx⟩:=res
  simp only [VD.val] at hev
  have Hev2:=lh hev
  clear hres hfr Hev o1 o2 o3 o4 hev
  simp only [decide_true,Bool.and_true] at Hfit
  go_enter Tryz.func72,Tryz.ntmps72
  go_wp2_with fail
  rw [<- HW.out]
  obtain ⟨a0,a1,a2,a3,a4,a5,a6,_⟩:=blk7 Hb1.out
  go_wp2_with fail
  clear a0 a1 a2 a3 a4 a5 a6
  refine (Hty.out _ T0.out).mono ?_
  rintro e w1 ⟨rfl,u1⟩
  go_wp2_with fail
  refine (Hfit.out _ (T0.out.trans0 u1)).mono ?_
  rintro e w2 ⟨rfl,u2⟩
  obtain ⟨a0,a1,a2,a3,a4,a5,a6,_⟩:=blk7 (u2.blk (u1.blk Hb1.out (by simp)) (by simp))
  go_wp2_with fail
  clear a0 a1 a2 a3 a4 a5 a6
  refine (Hev2.out _ ((T0.out.trans0 u1).trans0 u2)).mono ?_
  rintro e w3 ⟨rfl,u3⟩
  obtain ⟨r0,r1,r2,f0,f1,f2⟩:=blk3x (u3.blk (u2.blk (u1.blk Hbr.out (by simp)) (by simp)) (by simp))
  go_wp2_with fail
  obtain ⟨q1,q2⟩:=out3 (u3.blk (u2.blk (u1.blk Hbr.out (by simp)) (by simp)) (by simp)) (.int .i64 rk) (.int .i64 rn) (.string rs)
  obtain ⟨d0,d1,d2,_⟩:=blk3x q1
  exact bodyPost_ret (v:=.tuple #[.agg #[.int .i64 rk,.int .i64 rn,.string rs],.int .i64 rx]) (by simp [results,Tryz.results72,go_sem,d0,d1,d2]) rfl ⟨rfl,(((T0.out.trans0 u1).trans0 u2).trans0 u3).trans q2 (fun b hb=>.inr (by simp at hb;omega))⟩
end
end Go.Proofs.YtafoklilkdnepaaGreatDoor
