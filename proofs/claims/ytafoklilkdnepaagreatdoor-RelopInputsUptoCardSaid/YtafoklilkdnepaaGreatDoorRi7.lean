/- Part 7 of the texts of this proof, one behind the other. No condition beyond those that its theorems state. -/
import Derived.Test.YtafoklilkdnepaaGreatDoorRi6
set_option maxRecDepth 40000
set_option maxHeartbeats 25600000
namespace Go.Proofs.YtafoklilkdnepaaGreatDoor
section
open Go.RowKit
variable (FN:Nat) (CL:List Value)
theorem smg_main (hFN:∀ (args:Array Value) (wk:World),(callFunc FN args).run Tryz.prog wk=.ok (.enter FN args) wk) (G c n:Nat) (hn:n<=100000) (S:Nat->SL) (R:Nat->Nat->Int) (D:Nat->Nat) (hRD:∀ x y,R x y < 0 ↔ D x < D y) (w0:World) (hC:CmpOkG FN CL S R G n w0) (a m b mid:Nat) (ham:a+1 < m) (hmb:m+1 < b) (hb:b<=n) (hmid:mid=(a+b) / 2)
  (hl:∀ s,a < s->s < mid->SmSpecG FN CL S G c n D w0 a s mid) (hr:∀ e,mid < e->e < b->SmSpecG FN CL S G c n D w0 mid e b):SmSpecG FN CL S G c n D w0 a m b:=by
 intro f wr hR hT hs1 hs2 hlr hfn
 obtain ⟨W0,hW0⟩:∃ W0,W0=wr:=⟨_,rfl⟩
 subst hW0
 have HR:=lh hR
 have HT:=lh hT
 have HS:=lh (And.intro hs1 (And.intro hs2 hlr))
 have HC:=lh hC
 have HF:=lh hfn
 have HLc:=lh hl
 have HRc:=lh hr
 have HM:=lh hmid
 have b1:a < mid:=by omega
 have b2:mid < b:=by omega
 have e1:((m:Int)-(a:Int)==1)=false:=by simp;omega
 have e2:((b:Int)-(m:Int)==1)=false:=by simp;omega
 have e3:((a:Int)+(b:Int)) / 2=(mid:Int):=by omega
 obtain ⟨lo,hi,hlh⟩:∃ lo hi:Nat,(mid < m/\lo=mid+m-b/\hi=mid)\/(m<=mid/\lo=a/\hi=m):=by
  by_cases q:mid < m
  ·exact ⟨_,_,.inl ⟨q,rfl,rfl⟩⟩
  ·exact ⟨_,_,.inr ⟨by omega,rfl,rfl⟩⟩
 have hlo:a<=lo:=by omega
 have hhi:hi<=mid:=by omega
 have hhm:hi<=m:=by omega
 have hlohi:lo<=hi:=by omega
 have HLH:=lh hlh
 obtain ⟨p,hp⟩:∃ p,p=mid+m-1:=⟨_,rfl⟩
 have hp1:∀ x,lo<=x->x < hi->m<=p-x/\p-x < b/\x<=p:=by intro x h1 h2;omega
 have HP1:=lh hp1
 have hpm:p < 2*n:=by omega
 have HP:=lh hp
 clear hR hT hs1 hs2 hlr hC hfn hl hr hp1
 go_enter Tryz.func178,Tryz.ntmps178
 rcases hlh with ⟨z1,z2,z3⟩ | ⟨z1,z2,z3⟩
 ·have y1:(mid:Int) < (m:Int):=by omega
  have y2:(mid:Int)+(m:Int)-(b:Int)=(lo:Int):=by omega
  have y3:(mid:Int)+(m:Int)-1=(p:Int):=by omega
  clear z2 z3 hp hmid
  go_wp2_with fail
  go_loopw [20,21] (fun x y w1=>∃ i j:Nat,lo<=i/\i<=j/\j<=hi/\x=.int .i64 i/\y=.int .i64 j/\Hid (∀ h,lo<=h->h < i->ltL D (f h) (f (p-h)))/\Hid (∀ h,j<=h->h < hi->ltL D (f (p-h)) (f h))/\Hid (Touch [] W0 w1)) (fun x y _=>(intOf y).toNat-(intOf x).toNat)
  case atStart=>exact ⟨lo,hi,by omega,hlohi,by omega,by have:=HLH.out;go_num,by have:=HLH.out;go_num,lh (fun h q1 q2=>absurd q1 (by omega)),lh (fun h q1 q2=>absurd q1 (by omega)),lh (Touch.refl _ _)⟩
  case round =>
   obtain ⟨i,j,hi1,hij,hj,rfl,rfl,HL,HH,HW⟩:=hrel
   have hT1:Touch [G] w0 wr:=HT.out.trans HW.out (by simp)
   have hR1:RowV S wr G c n f:=HR.out.touch0 HW.out
   by_cases hlt:i < j
   ·obtain ⟨h,hh⟩:∃ h,h=(i+j) / 2:=⟨_,rfl⟩
    have hhi1:i<=h:=by omega
    have hhj:h < j:=by omega
    have hP2:=HP1.out h (by omega) (by omega)
    have ch:=TW.cell (hR1.cell h (by omega))
    obtain ⟨x,hx⟩:∃ x,x=p-h:=⟨_,rfl⟩
    have hxn:x < n:=by omega
    have ca:=TW.cell (hR1.cell x hxn)
    obtain ⟨r,hr⟩:∃ r,r=R (f x) (f h):=⟨_,rfl⟩
    have hc:∀ x8:TW wr,Calls Tryz.prog FN ((Value.slice (SL.A (S (f x))) (SL.n (S (f x))) (SL.c (S (f x)))) :: (Value.slice (SL.A (S (f h))) (SL.n (S (f h))) (SL.c (S (f h)))) :: CL).toArray x8.w fun e w'=>e=.returned (.int .i64 r)/\Touch [] x8.w w':=fun x8=>by
     rw [hr]
     exact HC.out _ (Touch.trans hT1 x8.t (by simp)) (f x) (f h) (HF.out _ (by omega)) (HF.out _ (by omega))
    have HR1:=lh hR1
    have HT1:=lh hT1
    have HCC:=lh hc
    have HQ:=lh hr
    have HX:=lh hx
    have HP2:=lh hP2
    have he:((i:Int)+(j:Int)) / 2=(h:Int):=by omega
    have he2:(p:Int)-(h:Int)=(x:Int):=by omega
    clear hR1 hT1 hc hr hh hx hP2
    go_wp2_with fail
    by_cases hr0:r < 0
    ·refine wp_region_tw wr (Touch.refl _ _) (by kernel_rfl) (by kernel_rfl) ?_
     repeat (go_big_quiet_step (((exact Calls.tw _ (HCC.out _)))))
     refine wpQuiet_nil ?_
     rintro _ ⟨x9,rfl⟩
     go_wp2_with fail
     go_roundw
     case rel =>
      have q:=(hRD _ _).1 (HQ.out ▸ hr0)
      have q2:ltL D (f (p-h)) (f h):=by rw [<- HX.out];exact .inl (by omega)
      exact ⟨i,h,by omega,by omega,by omega,rfl,by go_num,HL,lh (fun y x1 x2=>srt_gt HS.out.1 (by omega) x1 (by omega) (srt_lt HS.out.2.1 (HP1.out y (by omega) (by omega)).1 (by omega) (HP2.out).2.1 q2)),lh (HW.out.trans0 x9.t)⟩
     case measure=>simp [intOf];omega
    ·have hr1:(r < 0)=False:=by simp;omega
     refine wp_region_tw wr (Touch.refl _ _) (by kernel_rfl) (by kernel_rfl) ?_
     repeat (go_big_quiet_step (((exact Calls.tw _ (HCC.out _)))))
     refine wpQuiet_nil ?_
     rintro _ ⟨x9,rfl⟩
     go_wp2_with fail
     go_roundw
     case rel =>
      have q:=mt (hRD (f x) (f h)).2 (HQ.out ▸ hr0)
      have q2:ltL D (f h) (f (p-h)):=(ltL_num (HS.out.2.2 h (p-h) (by omega) (by omega) (by omega) (by omega))).2 (by rw [<- HX.out];omega)
      exact ⟨h+1,j,by omega,by omega,hj,by go_num,rfl,lh (fun y x1 x2=>srt_lt HS.out.1 (by omega) (show y<=h by omega) (by omega) (srt_gt HS.out.2.1 (HP2.out).1 (by omega) (HP1.out y (by omega) (by omega)).2.1 q2)),HH,lh (HW.out.trans0 x9.t)⟩
     case measure=>simp [intOf];omega
   ·obtain ⟨s,hs⟩:∃ s,s=i:=⟨_,rfl⟩
    obtain rfl:s=j:=by omega
    subst hs
    have HR1:=lh hR1
    have HW1:Hid (Touch [G] W0 wr):=lh (HW.out.mono (by simp))
    have hmo:=mid_of (by omega) (by omega) HS.out.1 HS.out.2.1 HS.out.2.2 HM.out HLH.out hi1 hj (fun x x1 x2=>by rw [<- HP.out];exact HL.out x x1 x2) (fun x x1 x2=>by rw [<- HP.out];exact HH.out x x1 x2)
    obtain ⟨hMid,m1,m2,m3,m4,m5,m6,m7,m8⟩:=hmo
    obtain ⟨e,hee⟩:∃ e,e=mid+m-s:=⟨_,rfl⟩
    rw [<- hee] at hMid m4 m5 m6
    obtain ⟨g,hg⟩:∃ g,g=rot f s m e:=⟨_,rfl⟩
    rw [<- hg] at hMid
    have hgn:=hMid.lt hb HF.out
    have HMid:=lh hMid
    have HGn:=lh hgn
    have HGg:=lh hg
    have he:(mid:Int)+(m:Int)-(s:Int)=(e:Int):=by omega
    have hee1:e+s=mid+m:=by omega
    clear hMid hgn hg hee hR1 hT1 HL HH
    by_cases r1:s < m
    ·by_cases r2:s < mid
     ·by_cases l1:a < s
      ·by_cases k1:e < b
       ·have:((s:Int) < (m:Int)):=by omega
        have:((m:Int) < (e:Int)):=by omega
        have:((a:Int) < (s:Int)):=by omega
        have:((s:Int) < (mid:Int)):=by omega
        have:((mid:Int) < (e:Int)):=by omega
        have:((e:Int) < (b:Int)):=by omega
        have hro:=rotate_any G c n hn S f s m e (by omega) (by omega) (by omega) (.func (.func FN) #[] CL.toArray) wr HR1.out
        rw [<- HGg.out] at hro
        have HRo:=lh hro
        clear hro
        go_wp2_with fail
        refine HRo.out.mono ?_
        rintro e' w2 ⟨rfl,hr2,ht2⟩
        have HR2:=lh hr2
        have HT2:=lh (HW1.out.trans ht2 (fun b hb=>.inl hb))
        clear hr2 ht2 HRo
        have hlo2:=HLc.out s (by omega) (by omega) g w2 HR2.out (HT.out.trans HT2.out (fun b hb=>.inl hb)) HMid.out.s1 HMid.out.s2 HMid.out.l1 HGn.out
        have HLo:=lh hlo2
        clear hlo2
        go_wp2_with fail
        refine HLo.out.mono ?_
        rintro e' w3 ⟨rfl,g1,hr3,hm3,ht3⟩
        have HR3:=lh hr3
        have HM3:=lh hm3
        have HT3:=lh (HT2.out.trans ht3 (fun b hb=>.inl hb))
        clear hr3 hm3 ht3 HLo
        have hlo2:=HRc.out e (by omega) (by omega) g1 w3 HR3.out (HT.out.trans HT3.out (fun b hb=>.inl hb)) (HMid.out.s3.cong (fun k hk=>HM3.out.out k (.inr hk))) (HMid.out.s4.cong (fun k hk=>HM3.out.out k (.inr (by omega)))) (HMid.out.l2.cong (fun k hk=>HM3.out.out k (.inr hk))) (HM3.out.lt (by omega) HGn.out)
        have HLo:=lh hlo2
        clear hlo2
        go_wp2_with fail
        refine HLo.out.mono ?_
        rintro e' w4 ⟨rfl,g2,hr4,hm4,ht4⟩
        have HR4:=lh hr4
        have HM4:=lh hm4
        have HT4:=lh (HT3.out.trans ht4 (fun b hb=>.inl hb))
        clear hr4 hm4 ht4 HLo
        go_wp2
        go_end0
        exact ⟨rfl,g2,HR4.out,mid_join HMid.out (by omega) (by omega) HM3.out HM4.out,HT4.out⟩
       ·have:((s:Int) < (m:Int)):=by omega
        have:((m:Int) < (e:Int)):=by omega
        have:((a:Int) < (s:Int)):=by omega
        have:((s:Int) < (mid:Int)):=by omega
        have:((mid:Int) < (e:Int)):=by omega
        have:((e:Int) < (b:Int))=False:=by simp;omega
        have hro:=rotate_any G c n hn S f s m e (by omega) (by omega) (by omega) (.func (.func FN) #[] CL.toArray) wr HR1.out
        rw [<- HGg.out] at hro
        have HRo:=lh hro
        clear hro
        go_wp2_with fail
        refine HRo.out.mono ?_
        rintro e' w2 ⟨rfl,hr2,ht2⟩
        have HR2:=lh hr2
        have HT2:=lh (HW1.out.trans ht2 (fun b hb=>.inl hb))
        clear hr2 ht2 HRo
        have hlo2:=HLc.out s (by omega) (by omega) g w2 HR2.out (HT.out.trans HT2.out (fun b hb=>.inl hb)) HMid.out.s1 HMid.out.s2 HMid.out.l1 HGn.out
        have HLo:=lh hlo2
        clear hlo2
        go_wp2_with fail
        refine HLo.out.mono ?_
        rintro e' w3 ⟨rfl,g1,hr3,hm3,ht3⟩
        have HR3:=lh hr3
        have HM3:=lh hm3
        have HT3:=lh (HT2.out.trans ht3 (fun b hb=>.inl hb))
        clear hr3 hm3 ht3 HLo
        obtain ⟨w4,hw4⟩:∃ w4,w4=w3:=⟨_,rfl⟩
        subst hw4
        obtain ⟨g2,hg2⟩:∃ g2,g2=g1:=⟨_,rfl⟩
        have HR4:Hid (RowV S w4 G c n g2):=lh (by rw [hg2];exact HR3.out)
        have HM4:Hid (SM D g1 mid b g2):=lh (by rw [hg2];exact sm_right HMid.out (by omega) (fun k hk=>HM3.out.out k (.inr hk)))
        have HT4:=lh HT3.out
        clear hg2
        go_wp2
        go_end0
        exact ⟨rfl,g2,HR4.out,mid_join HMid.out (by omega) (by omega) HM3.out HM4.out,HT4.out⟩
      ·by_cases k1:e < b
       ·have:((s:Int) < (m:Int)):=by omega
        have:((m:Int) < (e:Int)):=by omega
        have:((a:Int) < (s:Int))=False:=by simp;omega
        have:((mid:Int) < (e:Int)):=by omega
        have:((e:Int) < (b:Int)):=by omega
        have hro:=rotate_any G c n hn S f s m e (by omega) (by omega) (by omega) (.func (.func FN) #[] CL.toArray) wr HR1.out
        rw [<- HGg.out] at hro
        have HRo:=lh hro
        clear hro
        go_wp2_with fail
        refine HRo.out.mono ?_
        rintro e' w2 ⟨rfl,hr2,ht2⟩
        have HR2:=lh hr2
        have HT2:=lh (HW1.out.trans ht2 (fun b hb=>.inl hb))
        clear hr2 ht2 HRo
        obtain ⟨w3,hw3⟩:∃ w3,w3=w2:=⟨_,rfl⟩
        subst hw3
        obtain ⟨g1,hg1⟩:∃ g1,g1=g:=⟨_,rfl⟩
        have HR3:Hid (RowV S w3 G c n g1):=lh (by rw [hg1];exact HR2.out)
        have HM3:Hid (SM D g a mid g1):=lh (by rw [hg1];exact sm_left HMid.out (by omega))
        have HT3:=lh HT2.out
        clear hg1
        have hlo2:=HRc.out e (by omega) (by omega) g1 w3 HR3.out (HT.out.trans HT3.out (fun b hb=>.inl hb)) (HMid.out.s3.cong (fun k hk=>HM3.out.out k (.inr hk))) (HMid.out.s4.cong (fun k hk=>HM3.out.out k (.inr (by omega)))) (HMid.out.l2.cong (fun k hk=>HM3.out.out k (.inr hk))) (HM3.out.lt (by omega) HGn.out)
        have HLo:=lh hlo2
        clear hlo2
        go_wp2_with fail
        refine HLo.out.mono ?_
        rintro e' w4 ⟨rfl,g2,hr4,hm4,ht4⟩
        have HR4:=lh hr4
        have HM4:=lh hm4
        have HT4:=lh (HT3.out.trans ht4 (fun b hb=>.inl hb))
        clear hr4 hm4 ht4 HLo
        go_wp2
        go_end0
        exact ⟨rfl,g2,HR4.out,mid_join HMid.out (by omega) (by omega) HM3.out HM4.out,HT4.out⟩
       ·have:((s:Int) < (m:Int)):=by omega
        have:((m:Int) < (e:Int)):=by omega
        have:((a:Int) < (s:Int))=False:=by simp;omega
        have:((mid:Int) < (e:Int)):=by omega
        have:((e:Int) < (b:Int))=False:=by simp;omega
        have hro:=rotate_any G c n hn S f s m e (by omega) (by omega) (by omega) (.func (.func FN) #[] CL.toArray) wr HR1.out
        rw [<- HGg.out] at hro
        have HRo:=lh hro
        clear hro
        go_wp2_with fail
        refine HRo.out.mono ?_
        rintro e' w2 ⟨rfl,hr2,ht2⟩
        have HR2:=lh hr2
        have HT2:=lh (HW1.out.trans ht2 (fun b hb=>.inl hb))
        clear hr2 ht2 HRo
        obtain ⟨w3,hw3⟩:∃ w3,w3=w2:=⟨_,rfl⟩
        subst hw3
        obtain ⟨g1,hg1⟩:∃ g1,g1=g:=⟨_,rfl⟩
        have HR3:Hid (RowV S w3 G c n g1):=lh (by rw [hg1];exact HR2.out)
        have HM3:Hid (SM D g a mid g1):=lh (by rw [hg1];exact sm_left HMid.out (by omega))
        have HT3:=lh HT2.out
        clear hg1
        obtain ⟨w4,hw4⟩:∃ w4,w4=w3:=⟨_,rfl⟩
        subst hw4
        obtain ⟨g2,hg2⟩:∃ g2,g2=g1:=⟨_,rfl⟩
        have HR4:Hid (RowV S w4 G c n g2):=lh (by rw [hg2];exact HR3.out)
        have HM4:Hid (SM D g1 mid b g2):=lh (by rw [hg2];exact sm_right HMid.out (by omega) (fun k hk=>HM3.out.out k (.inr hk)))
        have HT4:=lh HT3.out
        clear hg2
        go_wp2
        go_end0
        exact ⟨rfl,g2,HR4.out,mid_join HMid.out (by omega) (by omega) HM3.out HM4.out,HT4.out⟩
     ·have:((s:Int) < (m:Int)):=by omega
      have:((m:Int) < (e:Int))=False:=by simp;omega
      have:((a:Int) < (s:Int)):=by omega
      have:((s:Int) < (mid:Int))=False:=by simp;omega
      have:((mid:Int) < (e:Int)):=by omega
      have:((e:Int) < (b:Int)):=by omega
      obtain ⟨w2,hw2⟩:∃ w2,w2=wr:=⟨_,rfl⟩
      subst hw2
      have HR2:Hid (RowV S w2 G c n g):=lh (by rw [HGg.out,show e=m by omega,rot_a];exact HR1.out)
      have HT2:=lh HW1.out
      obtain ⟨w3,hw3⟩:∃ w3,w3=w2:=⟨_,rfl⟩
      subst hw3
      obtain ⟨g1,hg1⟩:∃ g1,g1=g:=⟨_,rfl⟩
      have HR3:Hid (RowV S w3 G c n g1):=lh (by rw [hg1];exact HR2.out)
      have HM3:Hid (SM D g a mid g1):=lh (by rw [hg1];exact sm_left HMid.out (by omega))
      have HT3:=lh HT2.out
      clear hg1
      have hlo2:=HRc.out e (by omega) (by omega) g1 w3 HR3.out (HT.out.trans HT3.out (fun b hb=>.inl hb)) (HMid.out.s3.cong (fun k hk=>HM3.out.out k (.inr hk))) (HMid.out.s4.cong (fun k hk=>HM3.out.out k (.inr (by omega)))) (HMid.out.l2.cong (fun k hk=>HM3.out.out k (.inr hk))) (HM3.out.lt (by omega) HGn.out)
      have HLo:=lh hlo2
      clear hlo2
      go_wp2_with fail
      refine HLo.out.mono ?_
      rintro e' w4 ⟨rfl,g2,hr4,hm4,ht4⟩
      have HR4:=lh hr4
      have HM4:=lh hm4
      have HT4:=lh (HT3.out.trans ht4 (fun b hb=>.inl hb))
      clear hr4 hm4 ht4 HLo
      go_wp2
      go_end0
      exact ⟨rfl,g2,HR4.out,mid_join HMid.out (by omega) (by omega) HM3.out HM4.out,HT4.out⟩
    ·by_cases r2:s < mid
     ·have:((s:Int) < (m:Int))=False:=by simp;omega
      have:((a:Int) < (s:Int)):=by omega
      have:((s:Int) < (mid:Int)):=by omega
      have:((mid:Int) < (e:Int))=False:=by simp;omega
      obtain ⟨w2,hw2⟩:∃ w2,w2=wr:=⟨_,rfl⟩
      subst hw2
      have HR2:Hid (RowV S w2 G c n g):=lh (by rw [HGg.out,show s=m by omega,rot_b];exact HR1.out)
      have HT2:=lh HW1.out
      have hlo2:=HLc.out s (by omega) (by omega) g w2 HR2.out (HT.out.trans HT2.out (fun b hb=>.inl hb)) HMid.out.s1 HMid.out.s2 HMid.out.l1 HGn.out
      have HLo:=lh hlo2
      clear hlo2
      go_wp2_with fail
      refine HLo.out.mono ?_
      rintro e' w3 ⟨rfl,g1,hr3,hm3,ht3⟩
      have HR3:=lh hr3
      have HM3:=lh hm3
      have HT3:=lh (HT2.out.trans ht3 (fun b hb=>.inl hb))
      clear hr3 hm3 ht3 HLo
      obtain ⟨w4,hw4⟩:∃ w4,w4=w3:=⟨_,rfl⟩
      subst hw4
      obtain ⟨g2,hg2⟩:∃ g2,g2=g1:=⟨_,rfl⟩
      have HR4:Hid (RowV S w4 G c n g2):=lh (by rw [hg2];exact HR3.out)
      have HM4:Hid (SM D g1 mid b g2):=lh (by rw [hg2];exact sm_right HMid.out (by omega) (fun k hk=>HM3.out.out k (.inr hk)))
      have HT4:=lh HT3.out
      clear hg2
      go_wp2
      go_end0
      exact ⟨rfl,g2,HR4.out,mid_join HMid.out (by omega) (by omega) HM3.out HM4.out,HT4.out⟩
     ·have:((s:Int) < (m:Int))=False:=by simp;omega
      have:((a:Int) < (s:Int)):=by omega
      have:((s:Int) < (mid:Int))=False:=by simp;omega
      have:((mid:Int) < (e:Int))=False:=by simp;omega
      obtain ⟨w2,hw2⟩:∃ w2,w2=wr:=⟨_,rfl⟩
      subst hw2
      have HR2:Hid (RowV S w2 G c n g):=lh (by rw [HGg.out,show s=m by omega,rot_b];exact HR1.out)
      have HT2:=lh HW1.out
      obtain ⟨w3,hw3⟩:∃ w3,w3=w2:=⟨_,rfl⟩
      subst hw3
      obtain ⟨g1,hg1⟩:∃ g1,g1=g:=⟨_,rfl⟩
      have HR3:Hid (RowV S w3 G c n g1):=lh (by rw [hg1];exact HR2.out)
      have HM3:Hid (SM D g a mid g1):=lh (by rw [hg1];exact sm_left HMid.out (by omega))
      have HT3:=lh HT2.out
      clear hg1
      obtain ⟨w4,hw4⟩:∃ w4,w4=w3:=⟨_,rfl⟩
      subst hw4
      obtain ⟨g2,hg2⟩:∃ g2,g2=g1:=⟨_,rfl⟩
      have HR4:Hid (RowV S w4 G c n g2):=lh (by rw [hg2];exact HR3.out)
      have HM4:Hid (SM D g1 mid b g2):=lh (by rw [hg2];exact sm_right HMid.out (by omega) (fun k hk=>HM3.out.out k (.inr hk)))
      have HT4:=lh HT3.out
      clear hg2
      go_wp2
      go_end0
      exact ⟨rfl,g2,HR4.out,mid_join HMid.out (by omega) (by omega) HM3.out HM4.out,HT4.out⟩
 ·have y1:((mid:Int) < (m:Int))=False:=by simp;omega
  have y3:(mid:Int)+(m:Int)-1=(p:Int):=by omega
  clear z2 z3 hp hmid
  go_wp2_with fail
  go_loopw [20,21] (fun x y w1=>∃ i j:Nat,lo<=i/\i<=j/\j<=hi/\x=.int .i64 i/\y=.int .i64 j/\Hid (∀ h,lo<=h->h < i->ltL D (f h) (f (p-h)))/\Hid (∀ h,j<=h->h < hi->ltL D (f (p-h)) (f h))/\Hid (Touch [] W0 w1)) (fun x y _=>(intOf y).toNat-(intOf x).toNat)
  case atStart=>exact ⟨lo,hi,by omega,hlohi,by omega,by have:=HLH.out;go_num,by have:=HLH.out;go_num,lh (fun h q1 q2=>absurd q1 (by omega)),lh (fun h q1 q2=>absurd q1 (by omega)),lh (Touch.refl _ _)⟩
  case round =>
   obtain ⟨i,j,hi1,hij,hj,rfl,rfl,HL,HH,HW⟩:=hrel
   have hT1:Touch [G] w0 wr:=HT.out.trans HW.out (by simp)
   have hR1:RowV S wr G c n f:=HR.out.touch0 HW.out
   by_cases hlt:i < j
   ·obtain ⟨h,hh⟩:∃ h,h=(i+j) / 2:=⟨_,rfl⟩
    have hhi1:i<=h:=by omega
    have hhj:h < j:=by omega
    have hP2:=HP1.out h (by omega) (by omega)
    have ch:=TW.cell (hR1.cell h (by omega))
    obtain ⟨x,hx⟩:∃ x,x=p-h:=⟨_,rfl⟩
    have hxn:x < n:=by omega
    have ca:=TW.cell (hR1.cell x hxn)
    obtain ⟨r,hr⟩:∃ r,r=R (f x) (f h):=⟨_,rfl⟩
    have hc:∀ x8:TW wr,Calls Tryz.prog FN ((Value.slice (SL.A (S (f x))) (SL.n (S (f x))) (SL.c (S (f x)))) :: (Value.slice (SL.A (S (f h))) (SL.n (S (f h))) (SL.c (S (f h)))) :: CL).toArray x8.w fun e w'=>e=.returned (.int .i64 r)/\Touch [] x8.w w':=fun x8=>by
     rw [hr]
     exact HC.out _ (Touch.trans hT1 x8.t (by simp)) (f x) (f h) (HF.out _ (by omega)) (HF.out _ (by omega))
    have HR1:=lh hR1
    have HT1:=lh hT1
    have HCC:=lh hc
    have HQ:=lh hr
    have HX:=lh hx
    have HP2:=lh hP2
    have he:((i:Int)+(j:Int)) / 2=(h:Int):=by omega
    have he2:(p:Int)-(h:Int)=(x:Int):=by omega
    clear hR1 hT1 hc hr hh hx hP2
    go_wp2_with fail
    by_cases hr0:r < 0
    ·refine wp_region_tw wr (Touch.refl _ _) (by kernel_rfl) (by kernel_rfl) ?_
     repeat (go_big_quiet_step (((exact Calls.tw _ (HCC.out _)))))
     refine wpQuiet_nil ?_
     rintro _ ⟨x9,rfl⟩
     go_wp2_with fail
     go_roundw
     case rel =>
      have q:=(hRD _ _).1 (HQ.out ▸ hr0)
      have q2:ltL D (f (p-h)) (f h):=by rw [<- HX.out];exact .inl (by omega)
      exact ⟨i,h,by omega,by omega,by omega,rfl,by go_num,HL,lh (fun y x1 x2=>srt_gt HS.out.1 (by omega) x1 (by omega) (srt_lt HS.out.2.1 (HP1.out y (by omega) (by omega)).1 (by omega) (HP2.out).2.1 q2)),lh (HW.out.trans0 x9.t)⟩
     case measure=>simp [intOf];omega
    ·have hr1:(r < 0)=False:=by simp;omega
     refine wp_region_tw wr (Touch.refl _ _) (by kernel_rfl) (by kernel_rfl) ?_
     repeat (go_big_quiet_step (((exact Calls.tw _ (HCC.out _)))))
     refine wpQuiet_nil ?_
     rintro _ ⟨x9,rfl⟩
     go_wp2_with fail
     go_roundw
     case rel =>
      have q:=mt (hRD (f x) (f h)).2 (HQ.out ▸ hr0)
      have q2:ltL D (f h) (f (p-h)):=(ltL_num (HS.out.2.2 h (p-h) (by omega) (by omega) (by omega) (by omega))).2 (by rw [<- HX.out];omega)
      exact ⟨h+1,j,by omega,by omega,hj,by go_num,rfl,lh (fun y x1 x2=>srt_lt HS.out.1 (by omega) (show y<=h by omega) (by omega) (srt_gt HS.out.2.1 (HP2.out).1 (by omega) (HP1.out y (by omega) (by omega)).2.1 q2)),HH,lh (HW.out.trans0 x9.t)⟩
     case measure=>simp [intOf];omega
   ·obtain ⟨s,hs⟩:∃ s,s=i:=⟨_,rfl⟩
    obtain rfl:s=j:=by omega
    subst hs
    have HR1:=lh hR1
    have HW1:Hid (Touch [G] W0 wr):=lh (HW.out.mono (by simp))
    have hmo:=mid_of (by omega) (by omega) HS.out.1 HS.out.2.1 HS.out.2.2 HM.out HLH.out hi1 hj (fun x x1 x2=>by rw [<- HP.out];exact HL.out x x1 x2) (fun x x1 x2=>by rw [<- HP.out];exact HH.out x x1 x2)
    obtain ⟨hMid,m1,m2,m3,m4,m5,m6,m7,m8⟩:=hmo
    obtain ⟨e,hee⟩:∃ e,e=mid+m-s:=⟨_,rfl⟩
    rw [<- hee] at hMid m4 m5 m6
    obtain ⟨g,hg⟩:∃ g,g=rot f s m e:=⟨_,rfl⟩
    rw [<- hg] at hMid
    have hgn:=hMid.lt hb HF.out
    have HMid:=lh hMid
    have HGn:=lh hgn
    have HGg:=lh hg
    have he:(mid:Int)+(m:Int)-(s:Int)=(e:Int):=by omega
    have hee1:e+s=mid+m:=by omega
    clear hMid hgn hg hee hR1 hT1 HL HH
    by_cases r1:s < m
    ·by_cases r2:s < mid
     ·by_cases l1:a < s
      ·by_cases k1:e < b
       ·have:((s:Int) < (m:Int)):=by omega
        have:((m:Int) < (e:Int)):=by omega
        have:((a:Int) < (s:Int)):=by omega
        have:((s:Int) < (mid:Int)):=by omega
        have:((mid:Int) < (e:Int)):=by omega
        have:((e:Int) < (b:Int)):=by omega
        have hro:=rotate_any G c n hn S f s m e (by omega) (by omega) (by omega) (.func (.func FN) #[] CL.toArray) wr HR1.out
        rw [<- HGg.out] at hro
        have HRo:=lh hro
        clear hro
        go_wp2_with fail
        refine HRo.out.mono ?_
        rintro e' w2 ⟨rfl,hr2,ht2⟩
        have HR2:=lh hr2
        have HT2:=lh (HW1.out.trans ht2 (fun b hb=>.inl hb))
        clear hr2 ht2 HRo
        have hlo2:=HLc.out s (by omega) (by omega) g w2 HR2.out (HT.out.trans HT2.out (fun b hb=>.inl hb)) HMid.out.s1 HMid.out.s2 HMid.out.l1 HGn.out
        have HLo:=lh hlo2
        clear hlo2
        go_wp2_with fail
        refine HLo.out.mono ?_
        rintro e' w3 ⟨rfl,g1,hr3,hm3,ht3⟩
        have HR3:=lh hr3
        have HM3:=lh hm3
        have HT3:=lh (HT2.out.trans ht3 (fun b hb=>.inl hb))
        clear hr3 hm3 ht3 HLo
        have hlo2:=HRc.out e (by omega) (by omega) g1 w3 HR3.out (HT.out.trans HT3.out (fun b hb=>.inl hb)) (HMid.out.s3.cong (fun k hk=>HM3.out.out k (.inr hk))) (HMid.out.s4.cong (fun k hk=>HM3.out.out k (.inr (by omega)))) (HMid.out.l2.cong (fun k hk=>HM3.out.out k (.inr hk))) (HM3.out.lt (by omega) HGn.out)
        have HLo:=lh hlo2
        clear hlo2
        go_wp2_with fail
        refine HLo.out.mono ?_
        rintro e' w4 ⟨rfl,g2,hr4,hm4,ht4⟩
        have HR4:=lh hr4
        have HM4:=lh hm4
        have HT4:=lh (HT3.out.trans ht4 (fun b hb=>.inl hb))
        clear hr4 hm4 ht4 HLo
        go_wp2
        go_end0
        exact ⟨rfl,g2,HR4.out,mid_join HMid.out (by omega) (by omega) HM3.out HM4.out,HT4.out⟩
       ·have:((s:Int) < (m:Int)):=by omega
        have:((m:Int) < (e:Int)):=by omega
        have:((a:Int) < (s:Int)):=by omega
        have:((s:Int) < (mid:Int)):=by omega
        have:((mid:Int) < (e:Int)):=by omega
        have:((e:Int) < (b:Int))=False:=by simp;omega
        have hro:=rotate_any G c n hn S f s m e (by omega) (by omega) (by omega) (.func (.func FN) #[] CL.toArray) wr HR1.out
        rw [<- HGg.out] at hro
        have HRo:=lh hro
        clear hro
        go_wp2_with fail
        refine HRo.out.mono ?_
        rintro e' w2 ⟨rfl,hr2,ht2⟩
        have HR2:=lh hr2
        have HT2:=lh (HW1.out.trans ht2 (fun b hb=>.inl hb))
        clear hr2 ht2 HRo
        have hlo2:=HLc.out s (by omega) (by omega) g w2 HR2.out (HT.out.trans HT2.out (fun b hb=>.inl hb)) HMid.out.s1 HMid.out.s2 HMid.out.l1 HGn.out
        have HLo:=lh hlo2
        clear hlo2
        go_wp2_with fail
        refine HLo.out.mono ?_
        rintro e' w3 ⟨rfl,g1,hr3,hm3,ht3⟩
        have HR3:=lh hr3
        have HM3:=lh hm3
        have HT3:=lh (HT2.out.trans ht3 (fun b hb=>.inl hb))
        clear hr3 hm3 ht3 HLo
        obtain ⟨w4,hw4⟩:∃ w4,w4=w3:=⟨_,rfl⟩
        subst hw4
        obtain ⟨g2,hg2⟩:∃ g2,g2=g1:=⟨_,rfl⟩
        have HR4:Hid (RowV S w4 G c n g2):=lh (by rw [hg2];exact HR3.out)
        have HM4:Hid (SM D g1 mid b g2):=lh (by rw [hg2];exact sm_right HMid.out (by omega) (fun k hk=>HM3.out.out k (.inr hk)))
        have HT4:=lh HT3.out
        clear hg2
        go_wp2
        go_end0
        exact ⟨rfl,g2,HR4.out,mid_join HMid.out (by omega) (by omega) HM3.out HM4.out,HT4.out⟩
      ·by_cases k1:e < b
       ·have:((s:Int) < (m:Int)):=by omega
        have:((m:Int) < (e:Int)):=by omega
        have:((a:Int) < (s:Int))=False:=by simp;omega
        have:((mid:Int) < (e:Int)):=by omega
        have:((e:Int) < (b:Int)):=by omega
        have hro:=rotate_any G c n hn S f s m e (by omega) (by omega) (by omega) (.func (.func FN) #[] CL.toArray) wr HR1.out
        rw [<- HGg.out] at hro
        have HRo:=lh hro
        clear hro
        go_wp2_with fail
        refine HRo.out.mono ?_
        rintro e' w2 ⟨rfl,hr2,ht2⟩
        have HR2:=lh hr2
        have HT2:=lh (HW1.out.trans ht2 (fun b hb=>.inl hb))
        clear hr2 ht2 HRo
        obtain ⟨w3,hw3⟩:∃ w3,w3=w2:=⟨_,rfl⟩
        subst hw3
        obtain ⟨g1,hg1⟩:∃ g1,g1=g:=⟨_,rfl⟩
        have HR3:Hid (RowV S w3 G c n g1):=lh (by rw [hg1];exact HR2.out)
        have HM3:Hid (SM D g a mid g1):=lh (by rw [hg1];exact sm_left HMid.out (by omega))
        have HT3:=lh HT2.out
        clear hg1
        have hlo2:=HRc.out e (by omega) (by omega) g1 w3 HR3.out (HT.out.trans HT3.out (fun b hb=>.inl hb)) (HMid.out.s3.cong (fun k hk=>HM3.out.out k (.inr hk))) (HMid.out.s4.cong (fun k hk=>HM3.out.out k (.inr (by omega)))) (HMid.out.l2.cong (fun k hk=>HM3.out.out k (.inr hk))) (HM3.out.lt (by omega) HGn.out)
        have HLo:=lh hlo2
        clear hlo2
        go_wp2_with fail
        refine HLo.out.mono ?_
        rintro e' w4 ⟨rfl,g2,hr4,hm4,ht4⟩
        have HR4:=lh hr4
        have HM4:=lh hm4
        have HT4:=lh (HT3.out.trans ht4 (fun b hb=>.inl hb))
        clear hr4 hm4 ht4 HLo
        go_wp2
        go_end0
        exact ⟨rfl,g2,HR4.out,mid_join HMid.out (by omega) (by omega) HM3.out HM4.out,HT4.out⟩
       ·have:((s:Int) < (m:Int)):=by omega
        have:((m:Int) < (e:Int)):=by omega
        have:((a:Int) < (s:Int))=False:=by simp;omega
        have:((mid:Int) < (e:Int)):=by omega
        have:((e:Int) < (b:Int))=False:=by simp;omega
        have hro:=rotate_any G c n hn S f s m e (by omega) (by omega) (by omega) (.func (.func FN) #[] CL.toArray) wr HR1.out
        rw [<- HGg.out] at hro
        have HRo:=lh hro
        clear hro
        go_wp2_with fail
        refine HRo.out.mono ?_
        rintro e' w2 ⟨rfl,hr2,ht2⟩
        have HR2:=lh hr2
        have HT2:=lh (HW1.out.trans ht2 (fun b hb=>.inl hb))
        clear hr2 ht2 HRo
        obtain ⟨w3,hw3⟩:∃ w3,w3=w2:=⟨_,rfl⟩
        subst hw3
        obtain ⟨g1,hg1⟩:∃ g1,g1=g:=⟨_,rfl⟩
        have HR3:Hid (RowV S w3 G c n g1):=lh (by rw [hg1];exact HR2.out)
        have HM3:Hid (SM D g a mid g1):=lh (by rw [hg1];exact sm_left HMid.out (by omega))
        have HT3:=lh HT2.out
        clear hg1
        obtain ⟨w4,hw4⟩:∃ w4,w4=w3:=⟨_,rfl⟩
        subst hw4
        obtain ⟨g2,hg2⟩:∃ g2,g2=g1:=⟨_,rfl⟩
        have HR4:Hid (RowV S w4 G c n g2):=lh (by rw [hg2];exact HR3.out)
        have HM4:Hid (SM D g1 mid b g2):=lh (by rw [hg2];exact sm_right HMid.out (by omega) (fun k hk=>HM3.out.out k (.inr hk)))
        have HT4:=lh HT3.out
        clear hg2
        go_wp2
        go_end0
        exact ⟨rfl,g2,HR4.out,mid_join HMid.out (by omega) (by omega) HM3.out HM4.out,HT4.out⟩
     ·have:((s:Int) < (m:Int)):=by omega
      have:((m:Int) < (e:Int))=False:=by simp;omega
      have:((a:Int) < (s:Int)):=by omega
      have:((s:Int) < (mid:Int))=False:=by simp;omega
      have:((mid:Int) < (e:Int)):=by omega
      have:((e:Int) < (b:Int)):=by omega
      obtain ⟨w2,hw2⟩:∃ w2,w2=wr:=⟨_,rfl⟩
      subst hw2
      have HR2:Hid (RowV S w2 G c n g):=lh (by rw [HGg.out,show e=m by omega,rot_a];exact HR1.out)
      have HT2:=lh HW1.out
      obtain ⟨w3,hw3⟩:∃ w3,w3=w2:=⟨_,rfl⟩
      subst hw3
      obtain ⟨g1,hg1⟩:∃ g1,g1=g:=⟨_,rfl⟩
      have HR3:Hid (RowV S w3 G c n g1):=lh (by rw [hg1];exact HR2.out)
      have HM3:Hid (SM D g a mid g1):=lh (by rw [hg1];exact sm_left HMid.out (by omega))
      have HT3:=lh HT2.out
      clear hg1
      have hlo2:=HRc.out e (by omega) (by omega) g1 w3 HR3.out (HT.out.trans HT3.out (fun b hb=>.inl hb)) (HMid.out.s3.cong (fun k hk=>HM3.out.out k (.inr hk))) (HMid.out.s4.cong (fun k hk=>HM3.out.out k (.inr (by omega)))) (HMid.out.l2.cong (fun k hk=>HM3.out.out k (.inr hk))) (HM3.out.lt (by omega) HGn.out)
      have HLo:=lh hlo2
      clear hlo2
      go_wp2_with fail
      refine HLo.out.mono ?_
      rintro e' w4 ⟨rfl,g2,hr4,hm4,ht4⟩
      have HR4:=lh hr4
      have HM4:=lh hm4
      have HT4:=lh (HT3.out.trans ht4 (fun b hb=>.inl hb))
      clear hr4 hm4 ht4 HLo
      go_wp2
      go_end0
      exact ⟨rfl,g2,HR4.out,mid_join HMid.out (by omega) (by omega) HM3.out HM4.out,HT4.out⟩
    ·by_cases r2:s < mid
     ·have:((s:Int) < (m:Int))=False:=by simp;omega
      have:((a:Int) < (s:Int)):=by omega
      have:((s:Int) < (mid:Int)):=by omega
      have:((mid:Int) < (e:Int))=False:=by simp;omega
      obtain ⟨w2,hw2⟩:∃ w2,w2=wr:=⟨_,rfl⟩
      subst hw2
      have HR2:Hid (RowV S w2 G c n g):=lh (by rw [HGg.out,show s=m by omega,rot_b];exact HR1.out)
      have HT2:=lh HW1.out
      have hlo2:=HLc.out s (by omega) (by omega) g w2 HR2.out (HT.out.trans HT2.out (fun b hb=>.inl hb)) HMid.out.s1 HMid.out.s2 HMid.out.l1 HGn.out
      have HLo:=lh hlo2
      clear hlo2
      go_wp2_with fail
      refine HLo.out.mono ?_
      rintro e' w3 ⟨rfl,g1,hr3,hm3,ht3⟩
      have HR3:=lh hr3
      have HM3:=lh hm3
      have HT3:=lh (HT2.out.trans ht3 (fun b hb=>.inl hb))
      clear hr3 hm3 ht3 HLo
      obtain ⟨w4,hw4⟩:∃ w4,w4=w3:=⟨_,rfl⟩
      subst hw4
      obtain ⟨g2,hg2⟩:∃ g2,g2=g1:=⟨_,rfl⟩
      have HR4:Hid (RowV S w4 G c n g2):=lh (by rw [hg2];exact HR3.out)
      have HM4:Hid (SM D g1 mid b g2):=lh (by rw [hg2];exact sm_right HMid.out (by omega) (fun k hk=>HM3.out.out k (.inr hk)))
      have HT4:=lh HT3.out
      clear hg2
      go_wp2
      go_end0
      exact ⟨rfl,g2,HR4.out,mid_join HMid.out (by omega) (by omega) HM3.out HM4.out,HT4.out⟩
     ·have:((s:Int) < (m:Int))=False:=by simp;omega
      have:((a:Int) < (s:Int)):=by omega
      have:((s:Int) < (mid:Int))=False:=by simp;omega
      have:((mid:Int) < (e:Int))=False:=by simp;omega
      obtain ⟨w2,hw2⟩:∃ w2,w2=wr:=⟨_,rfl⟩
      subst hw2
      have HR2:Hid (RowV S w2 G c n g):=lh (by rw [HGg.out,show s=m by omega,rot_b];exact HR1.out)
      have HT2:=lh HW1.out
      obtain ⟨w3,hw3⟩:∃ w3,w3=w2:=⟨_,rfl⟩
      subst hw3
      obtain ⟨g1,hg1⟩:∃ g1,g1=g:=⟨_,rfl⟩
      have HR3:Hid (RowV S w3 G c n g1):=lh (by rw [hg1];exact HR2.out)
      have HM3:Hid (SM D g a mid g1):=lh (by rw [hg1];exact sm_left HMid.out (by omega))
      have HT3:=lh HT2.out
      clear hg1
      obtain ⟨w4,hw4⟩:∃ w4,w4=w3:=⟨_,rfl⟩
      subst hw4
      obtain ⟨g2,hg2⟩:∃ g2,g2=g1:=⟨_,rfl⟩
      have HR4:Hid (RowV S w4 G c n g2):=lh (by rw [hg2];exact HR3.out)
      have HM4:Hid (SM D g1 mid b g2):=lh (by rw [hg2];exact sm_right HMid.out (by omega) (fun k hk=>HM3.out.out k (.inr hk)))
      have HT4:=lh HT3.out
      clear hg2
      go_wp2
      go_end0
      exact ⟨rfl,g2,HR4.out,mid_join HMid.out (by omega) (by omega) HM3.out HM4.out,HT4.out⟩
theorem smg_any (hFN:∀ (args:Array Value) (wk:World),(callFunc FN args).run Tryz.prog wk=.ok (.enter FN args) wk) (G c n:Nat) (hn:n<=100000) (S:Nat->SL) (R:Nat->Nat->Int) (D:Nat->Nat) (hRD:∀ x y,R x y < 0 ↔ D x < D y) (w0:World) (hC:CmpOkG FN CL S R G n w0):∀ k a m b:Nat,b-a<=k->a < m->m < b->b<=n->SmSpecG FN CL S G c n D w0 a m b:=by
 intro k
 induction k with
 | zero=>intro a m b h1 h2 h3 _;omega
 | succ k ih =>
  intro a m b hk ham hmb hb
  by_cases q1:m=a+1
  ·subst q1;exact smg_first FN CL hFN G c n hn S R D hRD w0 hC a b hmb hb
  ·by_cases q2:b=m+1
   ·subst q2;exact smg_back FN CL hFN G c n hn S R D hRD w0 hC a m (by omega) hb
   ·exact smg_main FN CL hFN G c n hn S R D hRD w0 hC a m b ((a+b) / 2) (by omega) (by omega) hb rfl (fun s h1 h2=>ih a s _ (by omega) h1 h2 (by omega)) (fun e h1 h2=>ih _ e b (by omega) h1 h2 hb)
end
section
open Go.RowKit
variable (FN:Nat) (CL:List Value)
theorem ing_one (hFN:∀ (args:Array Value) (wk:World),(callFunc FN args).run Tryz.prog wk=.ok (.enter FN args) wk) (G c n:Nat) (hn:n<=100000) (S:Nat->SL) (R:Nat->Nat->Int) (D:Nat->Nat) (hRD:∀ x y,R x y < 0 ↔ D x < D y) (w0:World) (hC:CmpOkG FN CL S R G n w0) (a b:Nat) (hab:a < b) (hb:b<=n) (f:Nat->Nat) (wr:World) (hR:RowV S wr G c n f) (hT:Touch [G] w0 wr) (hup:Up f a b) (hfn:∀ k,k < n->f k < n) :
  Calls Tryz.prog 177 #[.slice (some ⟨G,0,none⟩) n c,.int .i64 a,.int .i64 b,.func (.func FN) #[] CL.toArray] wr fun e w' =>
   e=.returned (.tuple #[])/\∃ g,RowV S w' G c n g/\SM D f a b g/\Touch [G] wr w':=by
 obtain ⟨W0,hW0⟩:∃ W0,W0=wr:=⟨_,rfl⟩
 subst hW0
 have HR:=lh hR
 have HT:=lh hT
 have HU:=lh hup
 have HC:=lh hC
 have HF:=lh hfn
 clear hR hT hup hC hfn
 go_enter Tryz.func177,Tryz.ntmps177
 go_wp2_with fail
 go_loopw [8] (fun y w1=>∃ (i:Nat) (g:Nat->Nat),a+1<=i/\i<=b/\y=.int .i64 i/\Hid (RowV S w1 G c n g)/\Hid (SM D f a i g)/\Hid (Touch [G] W0 w1)) (fun y _=>b-(intOf y).toNat)
 case atStart=>exact ⟨a+1,f,by omega,by omega,by go_num,HR,lh (SM.self (fun i j h1 h2 h3=>absurd h1 (by omega))),lh (Touch.refl _ _)⟩
 case round =>
  obtain ⟨i,g,hi,hib,rfl,HG,HM,HTg⟩:=hrel
  obtain ⟨W1,hW1⟩:∃ W1,W1=wr:=⟨_,rfl⟩
  subst hW1
  by_cases hlt:i < b
  ·have H0:Hid (RowV S W1 G c n (rot g i i (i+1))):=lh (by rw [rot_b];exact HG.out)
   have HFg:=lh (HM.out.lt (by omega:i<=n) HF.out)
   go_wp2_with fail
   go_loopw [9] (fun y w1=>∃ j:Nat,a<=j/\j<=i/\y=.int .i64 j/\Hid (RowV S w1 G c n (rot g j i (i+1)))/\Hid (∀ h,j<=h->h < i->ltL D (g i) (g h))/\Hid (Touch [G] W0 w1)) (fun y _=>(intOf y).toNat)
   case atStart=>exact ⟨i,by omega,by omega,rfl,H0,lh (fun h q1 q2=>absurd q1 (by omega)),HTg⟩
   case round =>
    clear H0 HTg HG HR
    obtain ⟨k',hk,hki,rfl,HRk,HH,HTk⟩:=hrel
    by_cases hlk:a < k'
    ·obtain ⟨k,hkj⟩:∃ k,k'=k+1:=⟨k'-1,by omega⟩
     have hlt2:(a:Int) < (k':Int):=by omega
     have ca:=TW.cell (HRk.out.cell k (by omega))
     have cb:=TW.cell (HRk.out.cell k' (by omega))
     have fa:=HRk.out.free k
     have fb:=HRk.out.free k'
     have hat:=rot_dn_at g i k (by omega)
     have hdn:=rot_dn g i k (by omega)
     rw [<- hkj] at hat hdn
     rw [hat.1] at ca
     rw [hat.2] at cb
     obtain ⟨x,hx⟩:∃ x,x=g i:=⟨_,rfl⟩
     obtain ⟨y,hy⟩:∃ y,y=g k:=⟨_,rfl⟩
     rw [<- hy] at ca
     rw [<- hx] at cb
     have hxn:x < n:=by rw [hx];exact HFg.out _ (by omega)
     have hyn:y < n:=by rw [hy];exact HFg.out _ (by omega)
     have hs:∀ q:TW wr,RowV S ((q.w.setCell ⟨G,k',none⟩ (Value.slice (SL.A (S y)) (SL.n (S y)) (SL.c (S y)))).setCell ⟨G,k,none⟩ (Value.slice (SL.A (S x)) (SL.n (S x)) (SL.c (S x)))) G c n (rot g k i (i+1)):=fun q=>by
      have z:=((HRk.out.touch0 q.t).set k' y (by omega)).set k x (by omega)
      rw [hx,hy,hdn,<- hx,<- hy] at z
      exact z
     obtain ⟨r,hr⟩:∃ r,r=R x y:=⟨_,rfl⟩
     have hc:∀ x8:TW wr,Calls Tryz.prog FN ((Value.slice (SL.A (S x)) (SL.n (S x)) (SL.c (S x))) :: (Value.slice (SL.A (S y)) (SL.n (S y)) (SL.c (S y))) :: CL).toArray x8.w fun e w'=>e=.returned (.int .i64 r)/\Touch [] x8.w w':=fun x8=>by
      rw [hr]
      exact HC.out _ (Touch.trans (HT.out.trans HTk.out (fun b hb=>.inl hb)) x8.t (by simp)) x y hxn hyn
     have HCC:=lh hc
     have HQ:=lh hr
     have HX:=lh hx
     have HY:=lh hy
     have HS2:=lh hs
     have HT2:=lh (fun q:TW wr=>((Touch.trans HTk.out q.t (by simp)).setCell (p:=⟨G,k',none⟩) (.inl (by simp)) (Value.slice (SL.A (S y)) (SL.n (S y)) (SL.c (S y)))).setCell (p:=⟨G,k,none⟩) (.inl (by simp)) (Value.slice (SL.A (S x)) (SL.n (S x)) (SL.c (S x))))
     have e3:(k':Int)-1=(k:Int):=by omega
     have hne:k'≠k:=by omega
     have HK:=lh hkj
     have hkn:k < n:=by omega
     have hkn2:k' < n:=by omega
     clear hat hx hy hs hc hr hkj hdn
     go_wp2_with fail
     by_cases hr0:r < 0
     ·refine wp_region_tw wr (Touch.refl _ _) (by kernel_rfl) (by kernel_rfl) ?_
      repeat (go_big_quiet_step (((exact Calls.tw _ (HCC.out _)))))
      refine wpQuiet_nil ?_
      rintro _ ⟨x9,rfl⟩
      have fa9:=(HRk.out.touch0 x9.t).free k
      have fb9:=(HRk.out.touch0 x9.t).free k'
      go_wp2_with fail
      go_region
      go_wp2_with fail
      go_roundw
      case rel =>
       have hkj:=HK.out
       have q:=(hRD _ _).1 (HQ.out ▸ hr0)
       have q2:ltL D (g i) (g k):=by rw [<- HX.out,<- HY.out];exact .inl (by omega)
       refine ⟨k,by omega,by omega,by go_num,lh ((HS2.out x9).touch0 (Touch.refl [] _).drew),lh (fun h q1 q3=>srt_gt HM.out.srt (by omega) q1 q3 q2),lh (HT2.out x9).drew⟩
      case measure=>simp [intOf];omega
     ·have hr1:(r < 0)=False:=by simp;omega
      refine wp_region_tw wr (Touch.refl _ _) (by kernel_rfl) (by kernel_rfl) ?_
      repeat (go_big_quiet_step (((exact Calls.tw _ (HCC.out _)))))
      refine wpQuiet_nil ?_
      rintro _ ⟨x9,rfl⟩
      go_wp2_with fail
      go_roundw
      case rel =>
       have q:=mt (hRD x y).2 (HQ.out ▸ hr0)
       have q2:ltL D (g k) (g i):=(ltL_num (in_num HU.out HM.out hlt (by have:=HK.out;omega) (by have:=HK.out;omega))).2 (by rw [<- HX.out,<- HY.out];omega)
       have hkj:=HK.out
       exact ⟨i+1,_,by omega,by omega,by go_num,lh (HRk.out.touch0 x9.t),lh (in_step (by omega) HM.out (sm_last (by omega) HM.out.srt hk hki (fun h q1 q3=>srt_lt HM.out.srt q1 (show h<=k by omega) (by omega) q2) HH.out)),lh (Touch.trans HTk.out x9.t (by simp))⟩
      case measure=>simp [intOf];omega
    ·obtain rfl:a=k':=by omega
     go_wp2_with fail
     go_quiet (fail)
     go_wp2_with fail
     go_roundw
     case rel =>
      exact ⟨i+1,_,by omega,by omega,by go_num,lh (HRk.out.touch0 ((Touch.refl [] _).drewN _)),lh (in_step (by omega) HM.out (sm_last (by omega) HM.out.srt (Nat.le_refl _) hki (fun h q1 q3=>absurd q1 (by omega)) HH.out)),lh (HTk.out.drewN _)⟩
     case measure=>simp [intOf];omega
  ·obtain rfl:i=b:=by omega
   go_wp2
   go_end0
   exact ⟨rfl,g,HG.out,HM.out,HTg.out⟩
end
section
def Good (D f:Nat->Nat) (a b:Nat):Prop:=Srt D f a b/\∀ x,Seg f a b x ↔ a<=x/\x < b
theorem Good.cong {D f g:Nat->Nat} {a b:Nat} (h:Good D f a b) (e:∀ k,a<=k->k < b->g k=f k):Good D g a b:=by
 refine ⟨fun i j h1 h2 h3=>by rw [e i h1 (by omega),e j (by omega) h3];exact h.1 i j h1 h2 h3,fun x => ?_⟩
 rw [<- h.2 x]
 constructor
 ·rintro ⟨i,h1,h2,h3⟩;exact ⟨i,h1,h2,by rw [<- e i h1 h2];exact h3⟩
 ·rintro ⟨i,h1,h2,h3⟩;exact ⟨i,h1,h2,by rw [e i h1 h2];exact h3⟩
theorem Good.same {D f:Nat->Nat} {a b b':Nat} (h:Good D f a b) (e:b=b'):Good D f a b':=e ▸ h
theorem Good.lr {D f:Nat->Nat} {a m b:Nat} (h1:Good D f a m) (h2:Good D f m b):Lr f a m b:=fun i j q1 q2 q3 q4=>by
 have:=(h1.2 (f i)).1 ⟨i,q1,q2,rfl⟩
 have:=(h2.2 (f j)).1 ⟨j,q3,q4,rfl⟩
 omega
theorem Good.join {D f g:Nat->Nat} {a m b:Nat} (ham:a<=m) (hmb:m<=b) (h1:Good D f a m) (h2:Good D f m b) (h:SM D f a b g):Good D g a b:=by
 refine ⟨h.srt,fun x => ?_⟩
 rw [h.seg x]
 constructor
 ·rintro ⟨i,q1,q2,rfl⟩
  by_cases q:i < m
  ·have:=(h1.2 (f i)).1 ⟨i,q1,q,rfl⟩;omega
  ·have:=(h2.2 (f i)).1 ⟨i,by omega,q2,rfl⟩;omega
 ·rintro ⟨q1,q2⟩
  by_cases q:x < m
  ·obtain ⟨i,z1,z2,z3⟩:=(h1.2 x).2 ⟨q1,q⟩;exact ⟨i,z1,by omega,z3⟩
  ·obtain ⟨i,z1,z2,z3⟩:=(h2.2 x).2 ⟨by omega,q2⟩;exact ⟨i,by omega,z2,z3⟩
theorem Good.ins {D f g:Nat->Nat} {a b:Nat} (hid:∀ k,a<=k->f k=k) (h:SM D f a b g):Good D g a b:=by
 refine ⟨h.srt,fun x => ?_⟩
 rw [h.seg x]
 constructor
 ·rintro ⟨i,q1,q2,rfl⟩;rw [hid i q1];exact ⟨q1,q2⟩
 ·rintro ⟨q1,q2⟩;exact ⟨x,q1,q2,hid x q1⟩
def Til (D f:Nat->Nat) (bs n:Nat):Prop:=∀ q,q*bs < n->Good D f (q*bs) (min (q*bs+bs) n)
structure Ph1 (D f:Nat->Nat) (n q:Nat):Prop where
 done:∀ p,p < q->Good D f (p*20) (p*20+20)
 rest:∀ k,q*20<=k->f k=k
theorem Ph1.zero (D:Nat->Nat) (n:Nat):Ph1 D (fun k=>k) n 0:=⟨fun p h=>absurd h (by omega),fun _ _=>rfl⟩
theorem Ph1.next {D f g:Nat->Nat} {n q:Nat} (h:Ph1 D f n q) (hs:SM D f (q*20) (q*20+20) g):Ph1 D g n (q+1) where
 done:=fun p hp=>by
  by_cases e:p=q
  ·subst e;exact Good.ins h.rest hs
  ·exact (h.done p (by omega)).cong fun k k1 k2=>hs.out k (by omega)
 rest:=fun k hk=>by rw [hs.out k (by omega)];exact h.rest k (by omega)
theorem Ph1.last {D f g:Nat->Nat} {n q:Nat} (h:Ph1 D f n q) (hq:q*20<=n) (hn:n < q*20+20) (hs:SM D f (q*20) n g):Til D g 20 n:=fun p hp=>by
 by_cases e:p=q
 ·subst e;exact (Good.ins h.rest hs).same (by omega)
 ·exact ((h.done p (by omega)).cong fun k k1 k2=>hs.out k (by omega)).same (by omega)
theorem Ph1.up {D f:Nat->Nat} {n q b:Nat} (h:Ph1 D f n q):Up f (q*20) b:=fun i j h1 h2 _=>by rw [h.rest i h1,h.rest j (by omega)];exact h2
structure Ph2 (D f:Nat->Nat) (bs n q:Nat):Prop where
 done:∀ p,p < q->Good D f (p*(2*bs)) (p*(2*bs)+2*bs)
 rest:∀ p,2*q<=p->p*bs < n->Good D f (p*bs) (min (p*bs+bs) n)
theorem Ph2.zero {D f:Nat->Nat} {bs n:Nat} (h:Til D f bs n):Ph2 D f bs n 0:=⟨fun p h=>absurd h (by omega),fun p _ hp=>h p hp⟩
theorem two_mul' (q bs:Nat):2*q*bs=q*(2*bs):=by rw [Nat.mul_comm 2 q,Nat.mul_assoc]
theorem Ph2.two {D f:Nat->Nat} {bs n q:Nat} (h:Ph2 D f bs n q) (hb:0 < bs) (hn:q*(2*bs)+bs < n):Good D f (q*(2*bs)) (q*(2*bs)+bs)/\Good D f (q*(2*bs)+bs) (min (q*(2*bs)+2*bs) n):=by
 have e:=two_mul' q bs
 have e2:(2*q+1)*bs=q*(2*bs)+bs:=by rw [Nat.add_mul,e,Nat.one_mul]
 have h1:=h.rest (2*q) (Nat.le_refl _) (by rw [e];omega)
 have h2:=h.rest (2*q+1) (by omega) (by rw [e2];omega)
 rw [e] at h1
 rw [e2] at h2
 exact ⟨h1.same (by omega),h2.same (by omega)⟩
theorem Ph2.next {D f g:Nat->Nat} {bs n q:Nat} (h:Ph2 D f bs n q) (hb:0 < bs) (hn:q*(2*bs)+2*bs<=n) (hs:SM D f (q*(2*bs)) (q*(2*bs)+2*bs) g):Ph2 D g bs n (q+1) where
 done:=fun p hp=>by
  by_cases e:p=q
  ·subst e
   obtain ⟨h1,h2⟩:=h.two hb (by omega)
   exact Good.join (m:=p*(2*bs)+bs) (by omega) (by omega) h1 (h2.same (by omega)) hs
  ·have h1:p*(2*bs)+2*bs<=q*(2*bs):=by
    have:(p+1)*(2*bs)<=q*(2*bs):=Nat.mul_le_mul_right _ (by omega)
    rw [Nat.add_mul,Nat.one_mul] at this
    exact this
   exact (h.done p (by omega)).cong fun k k1 k2=>hs.out k (by omega)
 rest:=fun p hp hpn=>by
  have h1:q*(2*bs)+2*bs<=p*bs:=by
   have:(2*(q+1))*bs<=p*bs:=Nat.mul_le_mul_right _ hp
   rw [two_mul',Nat.add_mul,Nat.one_mul] at this
   exact this
  exact (h.rest p (by omega) hpn).cong fun k k1 k2=>hs.out k (by omega)
theorem Ph2.last {D f g:Nat->Nat} {bs n q:Nat} (h:Ph2 D f bs n q) (hb:0 < bs) (hm:q*(2*bs)+bs < n) (hn:n < q*(2*bs)+2*bs) (hs:SM D f (q*(2*bs)) n g):Til D g (2*bs) n:=fun p hp=>by
 by_cases e:p=q
 ·subst e
  obtain ⟨h1,h2⟩:=h.two hb hm
  have:=Good.join (m:=p*(2*bs)+bs) (by omega) (by omega) h1 (h2.same (b':=n) (by omega)) hs
  exact this.same (by omega)
 ·have hpq:p < q:=by
   rcases Nat.lt_or_ge p q with z | z
   ·exact z
   ·have:(q+1)*(2*bs)<=p*(2*bs):=Nat.mul_le_mul_right _ (by omega)
    rw [Nat.add_mul,Nat.one_mul] at this
    omega
  have h1:p*(2*bs)+2*bs<=q*(2*bs):=by
   have:(p+1)*(2*bs)<=q*(2*bs):=Nat.mul_le_mul_right _ (by omega)
   rw [Nat.add_mul,Nat.one_mul] at this
   exact this
  exact ((h.done p hpq).cong fun k k1 k2=>hs.out k (by omega)).same (by omega)
theorem Ph2.quit {D f:Nat->Nat} {bs n q:Nat} (h:Ph2 D f bs n q) (hb:0 < bs) (hq:q*(2*bs)<=n) (hm:n<=q*(2*bs)+bs):Til D f (2*bs) n:=fun p hp=>by
 by_cases hpq:p < q
 ·by_cases z:p*(2*bs)+2*bs<=n
  ·exact (h.done p hpq).same (by omega)
  ·exfalso
   have:(p+1)*(2*bs)<=q*(2*bs):=Nat.mul_le_mul_right _ (by omega)
   rw [Nat.add_mul,Nat.one_mul] at this
   omega
 ·have e:p=q:=by
   rcases Nat.lt_or_ge q p with z | z
   ·have:(q+1)*(2*bs)<=p*(2*bs):=Nat.mul_le_mul_right _ (by omega)
    rw [Nat.add_mul,Nat.one_mul] at this
    omega
   ·omega
  subst e
  have e2:=two_mul' p bs
  have h1:=h.rest (2*p) (Nat.le_refl _) (by rw [e2];exact hp)
  rw [e2] at h1
  exact h1.same (by omega)
theorem Til.all {D f:Nat->Nat} {bs n:Nat} (h:Til D f bs n) (hn:0 < n) (hb:n<=bs):Good D f 0 n:=by
 have:=h 0 (by omega)
 rw [Nat.zero_mul] at this
 exact this.same (by omega)
end
end Go.Proofs.YtafoklilkdnepaaGreatDoor
