/- Part 4 of the texts of this proof, one behind the other. No condition beyond those that its theorems state. -/
import Derived.Test.YtafoklilkdnepaaGreatDoorRi3
set_option maxRecDepth 40000
set_option maxHeartbeats 25600000
namespace Go.Proofs.YtafoklilkdnepaaGreatDoor
section
open Go.RowKit
def strO (l:List ByteArray) (s:ByteArray):Option Nat:=l.findIdx? fun x=>decide (s=x)
def strN (l:List ByteArray) (s:ByteArray):Int:=match strO l s with | some k=>(k:Int) | none => -1
theorem strO_some {l:List ByteArray} {s:ByteArray} {k:Nat} (h:k < l.length) (hk:s=l[k]) (hno:∀ j (hj:j < k),s≠l[j]):strO l s=some k:=by
 unfold strO
 rw [List.findIdx?_eq_some_iff_getElem]
 exact ⟨h,by simpa using hk,fun j hj=>by simpa using hno j hj⟩
theorem strO_none {l:List ByteArray} {s:ByteArray} (hno:∀ j (hj:j < l.length),s≠l[j]):strO l s=none:=by
 unfold strO
 rw [List.findIdx?_eq_none_iff]
 intro c hc
 obtain ⟨j,hj,rfl⟩:=List.mem_iff_getElem.1 hc
 simpa using hno j hj
def memS (l:List ByteArray) (s:ByteArray):Bool:=l.any fun x=>decide (s=x)
theorem strN_mem (l:List ByteArray) (s:ByteArray):decide (0<=strN l s)=memS l s:=by
 by_cases h:s∈l
 ·have h2:memS l s=true:=List.any_eq_true.2 ⟨s,h,decide_eq_true rfl⟩
  have:strO l s≠none:=by
   unfold strO
   rw [Ne,List.findIdx?_eq_none_iff]
   intro hn
   have:=hn s h
   simp at this
  unfold strN
  rw [h2]
  rcases hs:strO l s with _ | k
  ·exact absurd hs this
  ·simp
 ·have:strO l s=none:=strO_none fun j hj e=>h (e ▸ List.getElem_mem hj)
  have h2:memS l s=false:=List.any_eq_false.2 fun x hx=>by
   have:s≠x:=fun e=>h (e ▸ hx)
   simpa using this
  unfold strN
  rw [this,h2]
  simp
theorem strN_b (l:List ByteArray) (s:ByteArray) : -1<=strN l s/\strN l s<=l.length:=by
 unfold strN
 rcases hs:strO l s with _ | k
 ·dsimp only;omega
 ·have:=(List.findIdx?_eq_some_iff_getElem.1 hs).1
  dsimp only;omega
theorem indexS_any (A:Option Addr) (c n:Nat) (l:List ByteArray) (hn:l.length=n) (s:ByteArray) (w:World) (h:RdK btE w A l) (hl:n<=140737000000000) :
  Calls Tryz.prog 184 #[.slice A n c,.string s] w fun e w'=>e=.returned (.int .i64 (strN l s))/\Touch [] w w':=by
 subst hn
 go_enter Tryz.func184,Tryz.ntmps184
 go_wp2
 go_loopw [8] (fun i wr=>∃ k:Nat,k<=l.length/\i=.int .i64 k/\Hid (∀ j (hj:j < k) (hl:j < l.length),s≠l[j])/\Touch [] w wr) (fun i _=>l.length-(intOf i).toNat)
 case atStart=>exact ⟨0,by omega,rfl,lh (fun j hj=>absurd hj (by omega)),Touch.refl _ _⟩
 case round =>
  obtain ⟨k,hk,rfl,Hno,ht⟩:=hrel
  by_cases hlt:k < l.length
  ·obtain ⟨ad,b,off,rfl,hadd,hc⟩:=RdK.cells (h.touch0 ht) 1 btE_length (by omega) k hlt
   rw [Nat.mul_one] at hadd
   have c0:=hc 0 _ rfl
   rw [Nat.add_zero] at c0
   have hyes:=strO_some (s:=s) hlt
   obtain ⟨x,hx⟩:∃ x,x=l[k]:=⟨_,rfl⟩
   rw [<- hx] at c0 hyes
   have Hx:=lh hx;have Hyes:=lh hyes
   clear hx hyes hc
   by_cases hcs:s=x
   ·have Hp:=lh (Hyes.out hcs (fun j hj=>Hno.out j hj (by omega)))
    have hb:(s.toList==x.toList)=true:=by rw [bs_beq];exact decide_eq_true hcs
    clear hcs
    go_wp2
    go_ret
    exact ⟨ret_int (by unfold strN;rw [Hp.out]),ht⟩
   ·have hb:(s.toList==x.toList)=false:=by rw [bs_beq];exact decide_eq_false hcs
    have Hcs:=lh hcs
    clear hcs
    go_wp2
    go_roundw
    case rel=>exact ⟨k+1,by omega,by go_num,lh (fun j hj hl=>by
     by_cases hjk:j=k
     ·subst hjk;rw [<- Hx.out];exact Hcs.out
     ·exact Hno.out j (by omega) hl),ht⟩
    case measure=>simp [intOf];omega
  ·obtain rfl:k=l.length:=by omega
   have Hp:=lh (strO_none (l:=l) (s:=s) (fun j hj=>Hno.out j hj hj))
   go_wp2
   go_ret
   exact ⟨ret_int (by unfold strN;rw [Hp.out]),ht⟩
theorem containsS_any (A:Option Addr) (c n:Nat) (l:List ByteArray) (hn:l.length=n) (s:ByteArray) (w:World) (h:RdK btE w A l) (hl:n<=140737000000000) :
  Calls Tryz.prog 167 #[.slice A n c,.string s] w fun e w'=>e=.returned (.bool (memS l s))/\Touch [] w w':=by
 have hi:=indexS_any A c n l hn s w h hl
 have hm:=strN_mem l s
 have hb:=strN_b l s
 obtain ⟨i,hie⟩:∃ i,i=strN l s:=⟨_,rfl⟩
 rw [<- hie] at hi hm hb
 have Hi:=lh hi
 have Hm:=lh hm
 clear hi hm hie
 go_enter Tryz.func167,Tryz.ntmps167
 go_wp2_with fail
 refine Hi.out.mono ?_
 rintro e w1 ⟨rfl,t1⟩
 go_wp2
 go_ret
 exact ⟨ret_bool (by rw [<- Hm.out]),t1⟩
theorem of_num (n:Int) (w:World):Calls Tryz.prog 11 #[.int .i64 n] w fun e w'=>e=.returned (.agg #[.int .i64 1,.int .i64 n,.string ⟨#[]⟩])/\Touch [] w w':=by
 go_enter Tryz.func11,Tryz.ntmps11
 go_wp2_with fail
 refine bodyPost_ret (results_cell_row rfl _ _ w.heap.size _ _ _ _ rfl (heap_alloc_new w _) Tryz.underlying31 rfl rfl) rfl ⟨rfl,(Touch.refl _ _).alloc _⟩
end
section
open Go.RowKit
def typO (cs:List CD) (s:ByteArray):Option Int:=(placeV cs s).map fun k=>(cs.getD k ⟨⟨#[]⟩,0⟩).typ
def onL (a b:List CD):List (ByteArray × ByteArray)->Int
 | []=>0
 | p :: r=>match typO a p.1,typO b p.2 with
  | some s,some t=>if s=t then onL a b r else 12
  | _,_=>13
def onV (a b:List CD) (l:List (ByteArray × ByteArray)):Int:=if l.length=0 then 20 else onL a b l
theorem onL_step (a b:List CD) (l:List (ByteArray × ByteArray)) (k:Nat) (h:k < l.length):onL a b (l.drop k)=match typO a l[k].1,typO b l[k].2 with
  | some s,some t=>if s=t then onL a b (l.drop (k+1)) else 12
  | _,_=>13:=by
 rw [List.drop_eq_getElem_cons h];rfl
theorem checkOn_any (x:PC) (on:List (ByteArray × ByteArray)) (ho:x.on.n=on.length) (SA SB:Option Addr) (c1 c2 n1 n2:Nat) (a b:List CD) (h1:a.length=n1) (h2:b.length=n2) (hl1:n1<=1000000) (hl2:n2<=1000000) (hlo:on.length<=1000000) (w:World)
  (hr:RdK prE w x.on.A on) (ha:ColsAt w SA a) (hb:ColsAt w SB b) :
  Calls Tryz.prog 91 #[x.val,.slice SA n1 c1,.slice SB n2 c2] w fun e w'=>e=.returned (.int .i64 (onV a b on))/\Touch [] w w':=by
 subst h1 h2
 have Hv:=lh (show onV a b on=if on.length=0 then 20 else onL a b on from rfl)
 have HRD:=lh (And.intro hr (And.intro ha hb))
 obtain ⟨k0,k1,⟨A2,n2,c2'⟩,⟨⟨ck,cn,⟨cvk,cvn,cvt⟩,cop⟩,CA,cnn,cc⟩,⟨NA,nn,nc⟩,⟨EA,en,ec⟩,⟨OA,ol,oc⟩,⟨GA,gn,gc⟩,⟨BA,bn,bc⟩,count⟩:=x
 simp only [PC.val] at *
 subst ho
 have t0:=(Touch.refl [] w).alloc (.cells #[.int .i64 k0,.string k1,.slice A2 n2 c2',.int .i64 ck,.string cn,.int .i64 cvk,.int .i64 cvn,.string cvt,.string cop,.slice CA cnn cc,.slice NA nn nc,.slice EA en ec,.slice OA on.length oc,.slice GA gn gc,.slice BA bn bc,.int .i64 count] 49)
 have HT0:=lh t0
 clear t0 hr ha hb
 by_cases hz:on.length=0
 ·have Hq:=lh (show onV a b on=20 by rw [Hv.out,if_pos hz])
  have hzb:((on.length:Int)==0)=true:=by rw [hz];rfl
  clear hz
  go_enter Tryz.func91,Tryz.ntmps91
  go_wp2
  go_ret
  exact ⟨ret_int Hq.out.symm,HT0.out⟩
 ·have Hq:=lh (show onV a b on=onL a b on by rw [Hv.out,if_neg hz])
  have hzb:((on.length:Int)==0)=false:=by rw [beq_eq_false_iff_ne];omega
  clear hz Hv
  go_enter Tryz.func91,Tryz.ntmps91
  go_wp2_with fail
  go_loopw [20] (fun i wr=>∃ k:Nat,k<=on.length/\i=.int .i64 k/\Hid (onV a b on=onL a b (on.drop k))/\Hid (Touch [] w wr)) (fun i _=>on.length-(intOf i).toNat)
  case atStart=>exact ⟨0,by omega,rfl,lh (by rw [Hq.out,List.drop_zero]),HT0⟩
  case round =>
   obtain ⟨k,hk,rfl,Hd,HT⟩:=hrel
   by_cases hlt:k < on.length
   ·obtain ⟨ad,b1,o1,rfl,hadd,hc⟩:=RdK.cells (HRD.out.1.touch0 HT.out) 2 prE_length (by omega) k hlt
    have hst:=onL_step a b on k hlt
    obtain ⟨p,hp⟩:∃ p,p=on[k]:=⟨_,rfl⟩
    rw [<- hp] at hc hst
    obtain ⟨p1,p2⟩:=p
    have e0:=hc 0 _ rfl
    have e1:=hc 1 _ rfl
    rw [Nat.add_zero] at e0
    have ta:=(Touch.refl [] wr).alloc (.cells #[.string p1,.string p2] 39)
    have hbl:=heap_alloc_new wr (.cells #[.string p1,.string p2] 39)
    have hfa:=fun w' (t:Touch [] wr w')=>findC_any SA c1 a.length a rfl p1 w' (HRD.out.2.1.touch0 (HT.out.trans0 t)) (by omega)
    have hfb:=fun w' (t:Touch [] wr w')=>findC_any SB c2 b.length b rfl p2 w' (HRD.out.2.2.touch0 (HT.out.trans0 t)) (by omega)
    have hkn:(k:Int) < (on.length:Int):=by omega
    have HTa:=lh (And.intro ta hbl)
    rcases hpa:placeV a p1 with _ | i
    ·rw [hpa] at hfa
     have Hq2:=lh (show onV a b on=13 by rw [Hd.out,hst];unfold typO;rw [hpa];rfl)
     have Hfa:=lh hfa
     have Hfb:=lh hfb
     clear hfa hfb hpa hst hc hp ta hbl
     go_wp2_with fail
     refine (Hfa.out _ HTa.out.1).mono ?_
     rintro e w1 ⟨rfl,t1⟩
     have T1:=HTa.out.1.trans0 t1
     obtain ⟨g0,g1,_,_⟩:=blk2 (t1.blk HTa.out.2 (by simp))
     have HT1:=lh T1
     clear T1 t1
     go_wp2_with fail
     refine (Hfb.out _ HT1.out).mono ?_
     rintro e w2 ⟨rfl,t2⟩
     have HT2:=lh (HT1.out.trans0 t2)
     clear t2
     go_wp2
     go_ret
     exact ⟨ret_int Hq2.out.symm,HT.out.trans0 HT2.out⟩
    ·rw [hpa] at hfa
     rcases hpb:placeV b p2 with _ | j
     ·rw [hpb] at hfb
      have Hq2:=lh (show onV a b on=13 by rw [Hd.out,hst];unfold typO;rw [hpa,hpb];rfl)
      have Hfa:=lh hfa
      have Hfb:=lh hfb
      clear hfa hfb hpa hpb hst hc hp ta hbl
      go_wp2_with fail
      refine (Hfa.out _ HTa.out.1).mono ?_
      rintro e w1 ⟨rfl,t1⟩
      have T1:=HTa.out.1.trans0 t1
      obtain ⟨g0,g1,_,_⟩:=blk2 (t1.blk HTa.out.2 (by simp))
      have HT1:=lh T1
      clear T1 t1
      go_wp2_with fail
      refine (Hfb.out _ HT1.out).mono ?_
      rintro e w2 ⟨rfl,t2⟩
      have HT2:=lh (HT1.out.trans0 t2)
      clear t2
      go_wp2
      go_ret
      exact ⟨ret_int Hq2.out.symm,HT.out.trans0 HT2.out⟩
     ·rw [hpb] at hfb
      have hil:=placeV_lt hpa
      have hjl:=placeV_lt hpb
      obtain ⟨ad2,b2,o2,rfl,hadd2,_,e3⟩:=(HRD.out.2.1.touch0 HT.out).at_ i hil
      obtain ⟨ad3,b3,o3,rfl,hadd3,_,e4⟩:=(HRD.out.2.2.touch0 HT.out).at_ j hjl
      have hts:onL a b (on.drop k)=if a[i].typ=b[j].typ then onL a b (on.drop (k+1)) else 12:=by
       rw [hst];unfold typO;rw [hpa,hpb];simp [hil,hjl]
      obtain ⟨s,hs⟩:∃ s,s=a[i].typ:=⟨_,rfl⟩
      obtain ⟨t,ht⟩:∃ t,t=b[j].typ:=⟨_,rfl⟩
      rw [<- hs] at e3 hts
      rw [<- ht] at e4 hts
      have hi0:(0:Int)<=(i:Int):=by omega
      have hj0:(0:Int)<=(j:Int):=by omega
      have hin:(i:Int) < (a.length:Int):=by omega
      have hjn:(j:Int) < (b.length:Int):=by omega
      have HTS:=lh hts
      have Hfa:=lh hfa
      have Hfb:=lh hfb
      clear hfa hfb hpa hpb hst hc hp ta hbl hts hs ht
      by_cases hst:s=t
      ·subst hst
       have Hn:=lh (show onV a b on=onL a b (on.drop (k+1)) by rw [Hd.out,HTS.out,if_pos rfl])
       clear HTS
       go_wp2_with fail
       refine (Hfa.out _ HTa.out.1).mono ?_
       rintro e w1 ⟨rfl,t1⟩
       have T1:=HTa.out.1.trans0 t1
       obtain ⟨g0,g1,_,_⟩:=blk2 (t1.blk HTa.out.2 (by simp))
       have HT1:=lh T1
       clear T1 t1
       go_wp2_with fail
       refine (Hfb.out _ HT1.out).mono ?_
       rintro e w2 ⟨rfl,t2⟩
       have e3':=(HT1.out.trans0 t2).cell e3 (by simp)
       have e4':=(HT1.out.trans0 t2).cell e4 (by simp)
       have HT2:=lh (HT1.out.trans0 t2)
       clear t2
       go_wp2_with fail
       go_quiet (fail)
       go_wp2_with fail
       go_roundw
       case rel=>exact ⟨k+1,by omega,by go_num,Hn,lh ((HT.out.trans0 HT2.out).drewN _)⟩
       case measure=>simp [intOf];omega
      ·have Hn:=lh (show onV a b on=12 by rw [Hd.out,HTS.out,if_neg hst])
       have hq:(s==t)=false:=by rw [beq_eq_false_iff_ne];exact hst
       have hq':(s != t)=true:=by rw [bne,hq];rfl
       clear HTS
       go_wp2_with fail
       refine (Hfa.out _ HTa.out.1).mono ?_
       rintro e w1 ⟨rfl,t1⟩
       have T1:=HTa.out.1.trans0 t1
       obtain ⟨g0,g1,_,_⟩:=blk2 (t1.blk HTa.out.2 (by simp))
       have HT1:=lh T1
       clear T1 t1
       go_wp2_with fail
       refine (Hfb.out _ HT1.out).mono ?_
       rintro e w2 ⟨rfl,t2⟩
       have e3':=(HT1.out.trans0 t2).cell e3 (by simp)
       have e4':=(HT1.out.trans0 t2).cell e4 (by simp)
       have HT2:=lh (HT1.out.trans0 t2)
       clear t2
       go_wp2_with fail
       go_quiet (fail)
       go_wp2_with fail
       go_ret
       exact ⟨ret_int Hn.out.symm,(HT.out.trans0 HT2.out).drewN _⟩
   ·obtain rfl:k=on.length:=by omega
    have Hn:=lh (show onV a b on=0 by rw [Hd.out,List.drop_length];rfl)
    go_wp2
    go_ret
    exact ⟨ret_int Hn.out.symm,HT.out⟩
end
section
open Go.RowKit
def opC:ByteArray:=⟨#[99,111,117,110,116]⟩
def opS:ByteArray:=⟨#[115,117,109]⟩
def opMi:ByteArray:=⟨#[109,105,110]⟩
def opMa:ByteArray:=⟨#[109,97,120]⟩
def opsL:List ByteArray:=[⟨#[99,111,117,110,116]⟩,⟨#[115,117,109]⟩,⟨#[109,105,110]⟩,⟨#[109,97,120]⟩]
theorem aggT_form (op col nm:ByteArray) (SA:Option Addr) (c n:Nat) (cs:List CD) (hn:cs.length=n) (hl:n<=1000000) (w:World) (h:ColsAt w SA cs) (HM:Hid (memS opsL op=false)) :
  Calls Tryz.prog 131 #[.agg #[.string op,.string col,.string nm],.slice SA n c] w fun e w'=>e=.returned (.tuple #[.int .i64 0,.int .i64 20])/\Touch [] w w':=by
 have Hc:=lh fun w' (t:Touch [] w w') A (h:RdK btE w' A opsL)=>containsS_any A 4 4 opsL rfl op w' h (by omega)
 have t0:=(Touch.refl [] w).alloc (.cells #[.string op,.string col,.string nm] 79)
 have hb0:=heap_alloc_new w (.cells #[.string op,.string col,.string nm] 79)
 have tb:=t0.alloc (.cells #[.string ⟨#[99,111,117,110,116]⟩,.string ⟨#[115,117,109]⟩,.string ⟨#[109,105,110]⟩,.string ⟨#[109,97,120]⟩] 9)
 have hb1:=((Touch.refl [] (w.alloc (.cells #[.string op,.string col,.string nm] 79))).alloc (.cells #[.string ⟨#[99,111,117,110,116]⟩,.string ⟨#[115,117,109]⟩,.string ⟨#[109,105,110]⟩,.string ⟨#[109,97,120]⟩] 9)).blk hb0 (by simp)
 have hrd:=RdK.row (enc:=btE) (w.alloc (.cells #[.string op,.string col,.string nm] 79)) 9 opsL #[.string ⟨#[99,111,117,110,116]⟩,.string ⟨#[115,117,109]⟩,.string ⟨#[109,105,110]⟩,.string ⟨#[109,97,120]⟩] rfl
 rw [World.size_alloc] at hrd
 have HB:=lh (And.intro tb (And.intro hb1 hrd))
 have hfd:=fun w' (t:Touch [] w w')=>findC_any SA c n cs hn col w' (h.touch0 t) (by omega)
 clear t0 hb0 tb hb1 hrd hfd hn h
 go_enter Tryz.func131,Tryz.ntmps131
 go_wp2_with fail
 refine (Hc.out _ HB.out.1 _ HB.out.2.2).mono ?_
 rintro e w1 ⟨rfl,t1⟩
 rw [HM.out]
 obtain ⟨d0,d1,d2,_,_,_⟩:=blk3 (t1.blk HB.out.2.1 (by simp))
 have HT:=lh (And.intro (HB.out.1.trans0 t1) (t1.blk HB.out.2.1 (by simp)))
 clear t1
 go_wp2
 go_ret2
 exact ⟨rfl,HT.out.1⟩
theorem aggT_form2 (op col nm:ByteArray) (SA:Option Addr) (c n:Nat) (cs:List CD) (hn:cs.length=n) (hl:n<=1000000) (w:World) (h:ColsAt w SA cs) (HM:Hid (memS opsL op=true)) (q5:col.toList.isEmpty=true) (q1:(op.toList==[99,111,117,110,116])=false) :
  Calls Tryz.prog 131 #[.agg #[.string op,.string col,.string nm],.slice SA n c] w fun e w'=>e=.returned (.tuple #[.int .i64 0,.int .i64 20])/\Touch [] w w':=by
 have Hc:=lh fun w' (t:Touch [] w w') A (h:RdK btE w' A opsL)=>containsS_any A 4 4 opsL rfl op w' h (by omega)
 have t0:=(Touch.refl [] w).alloc (.cells #[.string op,.string col,.string nm] 79)
 have hb0:=heap_alloc_new w (.cells #[.string op,.string col,.string nm] 79)
 have tb:=t0.alloc (.cells #[.string ⟨#[99,111,117,110,116]⟩,.string ⟨#[115,117,109]⟩,.string ⟨#[109,105,110]⟩,.string ⟨#[109,97,120]⟩] 9)
 have hb1:=((Touch.refl [] (w.alloc (.cells #[.string op,.string col,.string nm] 79))).alloc (.cells #[.string ⟨#[99,111,117,110,116]⟩,.string ⟨#[115,117,109]⟩,.string ⟨#[109,105,110]⟩,.string ⟨#[109,97,120]⟩] 9)).blk hb0 (by simp)
 have hrd:=RdK.row (enc:=btE) (w.alloc (.cells #[.string op,.string col,.string nm] 79)) 9 opsL #[.string ⟨#[99,111,117,110,116]⟩,.string ⟨#[115,117,109]⟩,.string ⟨#[109,105,110]⟩,.string ⟨#[109,97,120]⟩] rfl
 rw [World.size_alloc] at hrd
 have HB:=lh (And.intro tb (And.intro hb1 hrd))
 have hfd:=fun w' (t:Touch [] w w')=>findC_any SA c n cs hn col w' (h.touch0 t) (by omega)
 clear t0 hb0 tb hb1 hrd hfd hn h
 go_enter Tryz.func131,Tryz.ntmps131
 go_wp2_with fail
 refine (Hc.out _ HB.out.1 _ HB.out.2.2).mono ?_
 rintro e w1 ⟨rfl,t1⟩
 rw [HM.out]
 obtain ⟨d0,d1,d2,_,_,_⟩:=blk3 (t1.blk HB.out.2.1 (by simp))
 have HT:=lh (And.intro (HB.out.1.trans0 t1) (t1.blk HB.out.2.1 (by simp)))
 clear t1
 go_wp2
 go_ret2
 exact ⟨rfl,HT.out.1⟩
theorem aggT_rows (op col nm:ByteArray) (SA:Option Addr) (c n:Nat) (cs:List CD) (hn:cs.length=n) (hl:n<=1000000) (w:World) (h:ColsAt w SA cs) (HM:Hid (memS opsL op=true)) (q5:col.toList.isEmpty=true) (q1:(op.toList==[99,111,117,110,116])=true) :
  Calls Tryz.prog 131 #[.agg #[.string op,.string col,.string nm],.slice SA n c] w fun e w'=>e=.returned (.tuple #[.int .i64 1,.int .i64 0])/\Touch [] w w':=by
 have Hc:=lh fun w' (t:Touch [] w w') A (h:RdK btE w' A opsL)=>containsS_any A 4 4 opsL rfl op w' h (by omega)
 have t0:=(Touch.refl [] w).alloc (.cells #[.string op,.string col,.string nm] 79)
 have hb0:=heap_alloc_new w (.cells #[.string op,.string col,.string nm] 79)
 have tb:=t0.alloc (.cells #[.string ⟨#[99,111,117,110,116]⟩,.string ⟨#[115,117,109]⟩,.string ⟨#[109,105,110]⟩,.string ⟨#[109,97,120]⟩] 9)
 have hb1:=((Touch.refl [] (w.alloc (.cells #[.string op,.string col,.string nm] 79))).alloc (.cells #[.string ⟨#[99,111,117,110,116]⟩,.string ⟨#[115,117,109]⟩,.string ⟨#[109,105,110]⟩,.string ⟨#[109,97,120]⟩] 9)).blk hb0 (by simp)
 have hrd:=RdK.row (enc:=btE) (w.alloc (.cells #[.string op,.string col,.string nm] 79)) 9 opsL #[.string ⟨#[99,111,117,110,116]⟩,.string ⟨#[115,117,109]⟩,.string ⟨#[109,105,110]⟩,.string ⟨#[109,97,120]⟩] rfl
 rw [World.size_alloc] at hrd
 have HB:=lh (And.intro tb (And.intro hb1 hrd))
 have hfd:=fun w' (t:Touch [] w w')=>findC_any SA c n cs hn col w' (h.touch0 t) (by omega)
 have Hf:=lh hfd
 clear t0 hb0 tb hb1 hrd hfd hn h
 go_enter Tryz.func131,Tryz.ntmps131
 go_wp2_with fail
 refine (Hc.out _ HB.out.1 _ HB.out.2.2).mono ?_
 rintro e w1 ⟨rfl,t1⟩
 rw [HM.out]
 obtain ⟨d0,d1,d2,_,_,_⟩:=blk3 (t1.blk HB.out.2.1 (by simp))
 have HT:=lh (And.intro (HB.out.1.trans0 t1) (t1.blk HB.out.2.1 (by simp)))
 clear t1
 go_wp2_with fail
 refine (Hf.out _ HT.out.1).mono ?_
 rintro e w2 ⟨rfl,t2⟩
 obtain ⟨f0,f1,f2,_,_,_⟩:=blk3 (t2.blk HT.out.2 (by simp))
 have HT2:=lh (HT.out.1.trans0 t2)
 clear t2
 go_wp2
 go_ret2
 exact ⟨rfl,HT2.out⟩
theorem aggT_name (op col nm:ByteArray) (SA:Option Addr) (c n:Nat) (cs:List CD) (hn:cs.length=n) (hl:n<=1000000) (w:World) (h:ColsAt w SA cs) (HM:Hid (memS opsL op=true)) (q5:col.toList.isEmpty=false) (hp:placeV cs col=none) :
  Calls Tryz.prog 131 #[.agg #[.string op,.string col,.string nm],.slice SA n c] w fun e w'=>e=.returned (.tuple #[.int .i64 0,.int .i64 13])/\Touch [] w w':=by
 have Hc:=lh fun w' (t:Touch [] w w') A (h:RdK btE w' A opsL)=>containsS_any A 4 4 opsL rfl op w' h (by omega)
 have t0:=(Touch.refl [] w).alloc (.cells #[.string op,.string col,.string nm] 79)
 have hb0:=heap_alloc_new w (.cells #[.string op,.string col,.string nm] 79)
 have tb:=t0.alloc (.cells #[.string ⟨#[99,111,117,110,116]⟩,.string ⟨#[115,117,109]⟩,.string ⟨#[109,105,110]⟩,.string ⟨#[109,97,120]⟩] 9)
 have hb1:=((Touch.refl [] (w.alloc (.cells #[.string op,.string col,.string nm] 79))).alloc (.cells #[.string ⟨#[99,111,117,110,116]⟩,.string ⟨#[115,117,109]⟩,.string ⟨#[109,105,110]⟩,.string ⟨#[109,97,120]⟩] 9)).blk hb0 (by simp)
 have hrd:=RdK.row (enc:=btE) (w.alloc (.cells #[.string op,.string col,.string nm] 79)) 9 opsL #[.string ⟨#[99,111,117,110,116]⟩,.string ⟨#[115,117,109]⟩,.string ⟨#[109,105,110]⟩,.string ⟨#[109,97,120]⟩] rfl
 rw [World.size_alloc] at hrd
 have HB:=lh (And.intro tb (And.intro hb1 hrd))
 have hfd:=fun w' (t:Touch [] w w')=>findC_any SA c n cs hn col w' (h.touch0 t) (by omega)
 rw [hp] at hfd
 have Hf:=lh hfd
 clear hp
 clear t0 hb0 tb hb1 hrd hfd hn h
 go_enter Tryz.func131,Tryz.ntmps131
 go_wp2_with fail
 refine (Hc.out _ HB.out.1 _ HB.out.2.2).mono ?_
 rintro e w1 ⟨rfl,t1⟩
 rw [HM.out]
 obtain ⟨d0,d1,d2,_,_,_⟩:=blk3 (t1.blk HB.out.2.1 (by simp))
 have HT:=lh (And.intro (HB.out.1.trans0 t1) (t1.blk HB.out.2.1 (by simp)))
 clear t1
 go_wp2_with fail
 refine (Hf.out _ HT.out.1).mono ?_
 rintro e w2 ⟨rfl,t2⟩
 obtain ⟨f0,f1,f2,_,_,_⟩:=blk3 (t2.blk HT.out.2 (by simp))
 have HT2:=lh (HT.out.1.trans0 t2)
 clear t2
 go_wp2
 go_ret2
 exact ⟨rfl,HT2.out⟩
theorem aggT_text (op col nm:ByteArray) (SA:Option Addr) (c n:Nat) (cs:List CD) (hn:cs.length=n) (hl:n<=1000000) (w:World) (h:ColsAt w SA cs) (HM:Hid (memS opsL op=true)) (q5:col.toList.isEmpty=false) (i:Nat) (hp:placeV cs col=some i) (t:Int) (ht:typO cs col=some t) (q2:(op.toList==[115,117,109])=true) (h2:t=2) :
  Calls Tryz.prog 131 #[.agg #[.string op,.string col,.string nm],.slice SA n c] w fun e w'=>e=.returned (.tuple #[.int .i64 0,.int .i64 12])/\Touch [] w w':=by
 have Hc:=lh fun w' (t:Touch [] w w') A (h:RdK btE w' A opsL)=>containsS_any A 4 4 opsL rfl op w' h (by omega)
 have t0:=(Touch.refl [] w).alloc (.cells #[.string op,.string col,.string nm] 79)
 have hb0:=heap_alloc_new w (.cells #[.string op,.string col,.string nm] 79)
 have tb:=t0.alloc (.cells #[.string ⟨#[99,111,117,110,116]⟩,.string ⟨#[115,117,109]⟩,.string ⟨#[109,105,110]⟩,.string ⟨#[109,97,120]⟩] 9)
 have hb1:=((Touch.refl [] (w.alloc (.cells #[.string op,.string col,.string nm] 79))).alloc (.cells #[.string ⟨#[99,111,117,110,116]⟩,.string ⟨#[115,117,109]⟩,.string ⟨#[109,105,110]⟩,.string ⟨#[109,97,120]⟩] 9)).blk hb0 (by simp)
 have hrd:=RdK.row (enc:=btE) (w.alloc (.cells #[.string op,.string col,.string nm] 79)) 9 opsL #[.string ⟨#[99,111,117,110,116]⟩,.string ⟨#[115,117,109]⟩,.string ⟨#[109,105,110]⟩,.string ⟨#[109,97,120]⟩] rfl
 rw [World.size_alloc] at hrd
 have HB:=lh (And.intro tb (And.intro hb1 hrd))
 have hfd:=fun w' (t:Touch [] w w')=>findC_any SA c n cs hn col w' (h.touch0 t) (by omega)
 rw [hp] at hfd
 have Hf:=lh hfd
 have hil:=placeV_lt hp
 obtain ⟨ad2,b2,o2,rfl,hadd2,_,e3⟩:=h.at_ i hil
 have hts:cs[i].typ=t:=by
  unfold typO at ht;rw [hp] at ht;simpa [hil] using ht
 rw [hts] at e3
 have hi0:(0:Int)<=(i:Int):=by omega
 have hin:(i:Int) < (n:Int):=by omega
 have E3:=lh e3
 clear hts ht e3
 subst h2
 clear hp
 clear t0 hb0 tb hb1 hrd hfd hn h
 go_enter Tryz.func131,Tryz.ntmps131
 go_wp2_with fail
 refine (Hc.out _ HB.out.1 _ HB.out.2.2).mono ?_
 rintro e w1 ⟨rfl,t1⟩
 rw [HM.out]
 obtain ⟨d0,d1,d2,_,_,_⟩:=blk3 (t1.blk HB.out.2.1 (by simp))
 have HT:=lh (And.intro (HB.out.1.trans0 t1) (t1.blk HB.out.2.1 (by simp)))
 clear t1
 go_wp2_with fail
 refine (Hf.out _ HT.out.1).mono ?_
 rintro e w2 ⟨rfl,t2⟩
 obtain ⟨f0,f1,f2,_,_,_⟩:=blk3 (t2.blk HT.out.2 (by simp))
 have e3':=(HT.out.1.trans0 t2).cell E3.out (by simp)
 have HT2:=lh (HT.out.1.trans0 t2)
 clear t2
 go_wp2
 go_ret2
 exact ⟨rfl,HT2.out⟩
theorem aggT_sum (op col nm:ByteArray) (SA:Option Addr) (c n:Nat) (cs:List CD) (hn:cs.length=n) (hl:n<=1000000) (w:World) (h:ColsAt w SA cs) (HM:Hid (memS opsL op=true)) (q5:col.toList.isEmpty=false) (i:Nat) (hp:placeV cs col=some i) (t:Int) (ht:typO cs col=some t) (q2:(op.toList==[115,117,109])=true) (q3:(op.toList==[109,105,110])=false) (q4:(op.toList==[109,97,120])=false) (h2:t≠2) :
  Calls Tryz.prog 131 #[.agg #[.string op,.string col,.string nm],.slice SA n c] w fun e w'=>e=.returned (.tuple #[.int .i64 1,.int .i64 0])/\Touch [] w w':=by
 have Hc:=lh fun w' (t:Touch [] w w') A (h:RdK btE w' A opsL)=>containsS_any A 4 4 opsL rfl op w' h (by omega)
 have t0:=(Touch.refl [] w).alloc (.cells #[.string op,.string col,.string nm] 79)
 have hb0:=heap_alloc_new w (.cells #[.string op,.string col,.string nm] 79)
 have tb:=t0.alloc (.cells #[.string ⟨#[99,111,117,110,116]⟩,.string ⟨#[115,117,109]⟩,.string ⟨#[109,105,110]⟩,.string ⟨#[109,97,120]⟩] 9)
 have hb1:=((Touch.refl [] (w.alloc (.cells #[.string op,.string col,.string nm] 79))).alloc (.cells #[.string ⟨#[99,111,117,110,116]⟩,.string ⟨#[115,117,109]⟩,.string ⟨#[109,105,110]⟩,.string ⟨#[109,97,120]⟩] 9)).blk hb0 (by simp)
 have hrd:=RdK.row (enc:=btE) (w.alloc (.cells #[.string op,.string col,.string nm] 79)) 9 opsL #[.string ⟨#[99,111,117,110,116]⟩,.string ⟨#[115,117,109]⟩,.string ⟨#[109,105,110]⟩,.string ⟨#[109,97,120]⟩] rfl
 rw [World.size_alloc] at hrd
 have HB:=lh (And.intro tb (And.intro hb1 hrd))
 have hfd:=fun w' (t:Touch [] w w')=>findC_any SA c n cs hn col w' (h.touch0 t) (by omega)
 rw [hp] at hfd
 have Hf:=lh hfd
 have hil:=placeV_lt hp
 obtain ⟨ad2,b2,o2,rfl,hadd2,_,e3⟩:=h.at_ i hil
 have hts:cs[i].typ=t:=by
  unfold typO at ht;rw [hp] at ht;simpa [hil] using ht
 rw [hts] at e3
 have hi0:(0:Int)<=(i:Int):=by omega
 have hin:(i:Int) < (n:Int):=by omega
 have E3:=lh e3
 clear hts ht e3
 have h2q:(t==2)=false:=by rw [beq_eq_false_iff_ne];exact h2
 clear hp
 clear t0 hb0 tb hb1 hrd hfd hn h
 go_enter Tryz.func131,Tryz.ntmps131
 go_wp2_with fail
 refine (Hc.out _ HB.out.1 _ HB.out.2.2).mono ?_
 rintro e w1 ⟨rfl,t1⟩
 rw [HM.out]
 obtain ⟨d0,d1,d2,_,_,_⟩:=blk3 (t1.blk HB.out.2.1 (by simp))
 have HT:=lh (And.intro (HB.out.1.trans0 t1) (t1.blk HB.out.2.1 (by simp)))
 clear t1
 go_wp2_with fail
 refine (Hf.out _ HT.out.1).mono ?_
 rintro e w2 ⟨rfl,t2⟩
 obtain ⟨f0,f1,f2,_,_,_⟩:=blk3 (t2.blk HT.out.2 (by simp))
 have e3':=(HT.out.1.trans0 t2).cell E3.out (by simp)
 have HT2:=lh (HT.out.1.trans0 t2)
 clear t2
 go_wp2
 go_ret2
 exact ⟨rfl,HT2.out⟩
theorem aggT_min (op col nm:ByteArray) (SA:Option Addr) (c n:Nat) (cs:List CD) (hn:cs.length=n) (hl:n<=1000000) (w:World) (h:ColsAt w SA cs) (HM:Hid (memS opsL op=true)) (q5:col.toList.isEmpty=false) (i:Nat) (hp:placeV cs col=some i) (t:Int) (ht:typO cs col=some t) (q2:(op.toList==[115,117,109])=false) (q3:(op.toList==[109,105,110])=true) :
  Calls Tryz.prog 131 #[.agg #[.string op,.string col,.string nm],.slice SA n c] w fun e w'=>e=.returned (.tuple #[.int .i64 t,.int .i64 0])/\Touch [] w w':=by
 have Hc:=lh fun w' (t:Touch [] w w') A (h:RdK btE w' A opsL)=>containsS_any A 4 4 opsL rfl op w' h (by omega)
 have t0:=(Touch.refl [] w).alloc (.cells #[.string op,.string col,.string nm] 79)
 have hb0:=heap_alloc_new w (.cells #[.string op,.string col,.string nm] 79)
 have tb:=t0.alloc (.cells #[.string ⟨#[99,111,117,110,116]⟩,.string ⟨#[115,117,109]⟩,.string ⟨#[109,105,110]⟩,.string ⟨#[109,97,120]⟩] 9)
 have hb1:=((Touch.refl [] (w.alloc (.cells #[.string op,.string col,.string nm] 79))).alloc (.cells #[.string ⟨#[99,111,117,110,116]⟩,.string ⟨#[115,117,109]⟩,.string ⟨#[109,105,110]⟩,.string ⟨#[109,97,120]⟩] 9)).blk hb0 (by simp)
 have hrd:=RdK.row (enc:=btE) (w.alloc (.cells #[.string op,.string col,.string nm] 79)) 9 opsL #[.string ⟨#[99,111,117,110,116]⟩,.string ⟨#[115,117,109]⟩,.string ⟨#[109,105,110]⟩,.string ⟨#[109,97,120]⟩] rfl
 rw [World.size_alloc] at hrd
 have HB:=lh (And.intro tb (And.intro hb1 hrd))
 have hfd:=fun w' (t:Touch [] w w')=>findC_any SA c n cs hn col w' (h.touch0 t) (by omega)
 rw [hp] at hfd
 have Hf:=lh hfd
 have hil:=placeV_lt hp
 obtain ⟨ad2,b2,o2,rfl,hadd2,_,e3⟩:=h.at_ i hil
 have hts:cs[i].typ=t:=by
  unfold typO at ht;rw [hp] at ht;simpa [hil] using ht
 rw [hts] at e3
 have hi0:(0:Int)<=(i:Int):=by omega
 have hin:(i:Int) < (n:Int):=by omega
 have E3:=lh e3
 clear hts ht e3
 clear hp
 clear t0 hb0 tb hb1 hrd hfd hn h
 go_enter Tryz.func131,Tryz.ntmps131
 go_wp2_with fail
 refine (Hc.out _ HB.out.1 _ HB.out.2.2).mono ?_
 rintro e w1 ⟨rfl,t1⟩
 rw [HM.out]
 obtain ⟨d0,d1,d2,_,_,_⟩:=blk3 (t1.blk HB.out.2.1 (by simp))
 have HT:=lh (And.intro (HB.out.1.trans0 t1) (t1.blk HB.out.2.1 (by simp)))
 clear t1
 go_wp2_with fail
 refine (Hf.out _ HT.out.1).mono ?_
 rintro e w2 ⟨rfl,t2⟩
 obtain ⟨f0,f1,f2,_,_,_⟩:=blk3 (t2.blk HT.out.2 (by simp))
 have e3':=(HT.out.1.trans0 t2).cell E3.out (by simp)
 have HT2:=lh (HT.out.1.trans0 t2)
 clear t2
 go_wp2
 go_ret2
 exact ⟨rfl,HT2.out⟩
theorem aggT_max (op col nm:ByteArray) (SA:Option Addr) (c n:Nat) (cs:List CD) (hn:cs.length=n) (hl:n<=1000000) (w:World) (h:ColsAt w SA cs) (HM:Hid (memS opsL op=true)) (q5:col.toList.isEmpty=false) (i:Nat) (hp:placeV cs col=some i) (t:Int) (ht:typO cs col=some t) (q2:(op.toList==[115,117,109])=false) (q3:(op.toList==[109,105,110])=false) (q4:(op.toList==[109,97,120])=true) :
  Calls Tryz.prog 131 #[.agg #[.string op,.string col,.string nm],.slice SA n c] w fun e w'=>e=.returned (.tuple #[.int .i64 t,.int .i64 0])/\Touch [] w w':=by
 have Hc:=lh fun w' (t:Touch [] w w') A (h:RdK btE w' A opsL)=>containsS_any A 4 4 opsL rfl op w' h (by omega)
 have t0:=(Touch.refl [] w).alloc (.cells #[.string op,.string col,.string nm] 79)
 have hb0:=heap_alloc_new w (.cells #[.string op,.string col,.string nm] 79)
 have tb:=t0.alloc (.cells #[.string ⟨#[99,111,117,110,116]⟩,.string ⟨#[115,117,109]⟩,.string ⟨#[109,105,110]⟩,.string ⟨#[109,97,120]⟩] 9)
 have hb1:=((Touch.refl [] (w.alloc (.cells #[.string op,.string col,.string nm] 79))).alloc (.cells #[.string ⟨#[99,111,117,110,116]⟩,.string ⟨#[115,117,109]⟩,.string ⟨#[109,105,110]⟩,.string ⟨#[109,97,120]⟩] 9)).blk hb0 (by simp)
 have hrd:=RdK.row (enc:=btE) (w.alloc (.cells #[.string op,.string col,.string nm] 79)) 9 opsL #[.string ⟨#[99,111,117,110,116]⟩,.string ⟨#[115,117,109]⟩,.string ⟨#[109,105,110]⟩,.string ⟨#[109,97,120]⟩] rfl
 rw [World.size_alloc] at hrd
 have HB:=lh (And.intro tb (And.intro hb1 hrd))
 have hfd:=fun w' (t:Touch [] w w')=>findC_any SA c n cs hn col w' (h.touch0 t) (by omega)
 rw [hp] at hfd
 have Hf:=lh hfd
 have hil:=placeV_lt hp
 obtain ⟨ad2,b2,o2,rfl,hadd2,_,e3⟩:=h.at_ i hil
 have hts:cs[i].typ=t:=by
  unfold typO at ht;rw [hp] at ht;simpa [hil] using ht
 rw [hts] at e3
 have hi0:(0:Int)<=(i:Int):=by omega
 have hin:(i:Int) < (n:Int):=by omega
 have E3:=lh e3
 clear hts ht e3
 clear hp
 clear t0 hb0 tb hb1 hrd hfd hn h
 go_enter Tryz.func131,Tryz.ntmps131
 go_wp2_with fail
 refine (Hc.out _ HB.out.1 _ HB.out.2.2).mono ?_
 rintro e w1 ⟨rfl,t1⟩
 rw [HM.out]
 obtain ⟨d0,d1,d2,_,_,_⟩:=blk3 (t1.blk HB.out.2.1 (by simp))
 have HT:=lh (And.intro (HB.out.1.trans0 t1) (t1.blk HB.out.2.1 (by simp)))
 clear t1
 go_wp2_with fail
 refine (Hf.out _ HT.out.1).mono ?_
 rintro e w2 ⟨rfl,t2⟩
 obtain ⟨f0,f1,f2,_,_,_⟩:=blk3 (t2.blk HT.out.2 (by simp))
 have e3':=(HT.out.1.trans0 t2).cell E3.out (by simp)
 have HT2:=lh (HT.out.1.trans0 t2)
 clear t2
 go_wp2
 go_ret2
 exact ⟨rfl,HT2.out⟩
theorem aggT_count (op col nm:ByteArray) (SA:Option Addr) (c n:Nat) (cs:List CD) (hn:cs.length=n) (hl:n<=1000000) (w:World) (h:ColsAt w SA cs) (HM:Hid (memS opsL op=true)) (q5:col.toList.isEmpty=false) (i:Nat) (hp:placeV cs col=some i) (t:Int) (ht:typO cs col=some t) (q2:(op.toList==[115,117,109])=false) (q3:(op.toList==[109,105,110])=false) (q4:(op.toList==[109,97,120])=false) :
  Calls Tryz.prog 131 #[.agg #[.string op,.string col,.string nm],.slice SA n c] w fun e w'=>e=.returned (.tuple #[.int .i64 1,.int .i64 0])/\Touch [] w w':=by
 have Hc:=lh fun w' (t:Touch [] w w') A (h:RdK btE w' A opsL)=>containsS_any A 4 4 opsL rfl op w' h (by omega)
 have t0:=(Touch.refl [] w).alloc (.cells #[.string op,.string col,.string nm] 79)
 have hb0:=heap_alloc_new w (.cells #[.string op,.string col,.string nm] 79)
 have tb:=t0.alloc (.cells #[.string ⟨#[99,111,117,110,116]⟩,.string ⟨#[115,117,109]⟩,.string ⟨#[109,105,110]⟩,.string ⟨#[109,97,120]⟩] 9)
 have hb1:=((Touch.refl [] (w.alloc (.cells #[.string op,.string col,.string nm] 79))).alloc (.cells #[.string ⟨#[99,111,117,110,116]⟩,.string ⟨#[115,117,109]⟩,.string ⟨#[109,105,110]⟩,.string ⟨#[109,97,120]⟩] 9)).blk hb0 (by simp)
 have hrd:=RdK.row (enc:=btE) (w.alloc (.cells #[.string op,.string col,.string nm] 79)) 9 opsL #[.string ⟨#[99,111,117,110,116]⟩,.string ⟨#[115,117,109]⟩,.string ⟨#[109,105,110]⟩,.string ⟨#[109,97,120]⟩] rfl
 rw [World.size_alloc] at hrd
 have HB:=lh (And.intro tb (And.intro hb1 hrd))
 have hfd:=fun w' (t:Touch [] w w')=>findC_any SA c n cs hn col w' (h.touch0 t) (by omega)
 rw [hp] at hfd
 have Hf:=lh hfd
 have hil:=placeV_lt hp
 obtain ⟨ad2,b2,o2,rfl,hadd2,_,e3⟩:=h.at_ i hil
 have hts:cs[i].typ=t:=by
  unfold typO at ht;rw [hp] at ht;simpa [hil] using ht
 rw [hts] at e3
 have hi0:(0:Int)<=(i:Int):=by omega
 have hin:(i:Int) < (n:Int):=by omega
 have E3:=lh e3
 clear hts ht e3
 clear hp
 clear t0 hb0 tb hb1 hrd hfd hn h
 go_enter Tryz.func131,Tryz.ntmps131
 go_wp2_with fail
 refine (Hc.out _ HB.out.1 _ HB.out.2.2).mono ?_
 rintro e w1 ⟨rfl,t1⟩
 rw [HM.out]
 obtain ⟨d0,d1,d2,_,_,_⟩:=blk3 (t1.blk HB.out.2.1 (by simp))
 have HT:=lh (And.intro (HB.out.1.trans0 t1) (t1.blk HB.out.2.1 (by simp)))
 clear t1
 go_wp2_with fail
 refine (Hf.out _ HT.out.1).mono ?_
 rintro e w2 ⟨rfl,t2⟩
 obtain ⟨f0,f1,f2,_,_,_⟩:=blk3 (t2.blk HT.out.2 (by simp))
 have e3':=(HT.out.1.trans0 t2).cell E3.out (by simp)
 have HT2:=lh (HT.out.1.trans0 t2)
 clear t2
 go_wp2
 go_ret2
 exact ⟨rfl,HT2.out⟩
def aggV (cs:List CD) (a:AG):Int × Int :=
 if memS opsL a.op=false then (0,20)
 else if a.col=⟨#[]⟩ then (if a.op=opC then (1,0) else (0,20))
 else match typO cs a.col with
  | none=>(0,13)
  | some t=>if a.op=opS/\t=2 then (0,12) else if a.op=opMi\/a.op=opMa then (t,0) else (1,0)
theorem lit_beq (x:ByteArray) (l:List UInt8) (b:ByteArray) (hb:b.data.toList=l):(x.toList==l)=decide (x=b):=by
 rw [<- hb,<- toList_B,bs_beq]
theorem isEmpty_bs (s:ByteArray):s.toList.isEmpty=decide (s=⟨#[]⟩):=by
 rw [toList_B]
 obtain ⟨⟨l⟩⟩:=s
 rcases l with _ | ⟨x,l⟩
 ·simp
 ·simp
theorem agg_any (a:AG) (SA:Option Addr) (c n:Nat) (cs:List CD) (hn:cs.length=n) (hl:n<=1000000) (w:World) (h:ColsAt w SA cs) :
  Calls Tryz.prog 131 #[.agg #[.string a.op,.string a.col,.string a.name],.slice SA n c] w fun e w'=>e=.returned (.tuple #[.int .i64 (aggV cs a).1,.int .i64 (aggV cs a).2])/\Touch [] w w':=by
 obtain ⟨op,col,nm⟩:=a
 dsimp only
 rcases hm:memS opsL op with _ | _
 ·have e:aggV cs ⟨op,col,nm⟩=(0,20):=by unfold aggV;rw [if_pos hm]
  rw [e]
  exact aggT_form op col nm SA c n cs hn hl w h (lh hm)
 have hm':¬ memS opsL op=false:=by rw [hm];simp
 have e0:aggV cs ⟨op,col,nm⟩=(if col=⟨#[]⟩ then (if op=opC then ((1,0):Int × Int) else (0,20)) else match typO cs col with
  | none=>(0,13)
  | some t=>if op=opS/\t=2 then (0,12) else if op=opMi\/op=opMa then (t,0) else (1,0)):=by unfold aggV;rw [if_neg hm']
 rw [e0]
 by_cases h5:col=⟨#[]⟩
 ·rw [if_pos h5]
  have q5:col.toList.isEmpty=true:=by rw [isEmpty_bs];exact decide_eq_true h5
  by_cases h1:op=opC
  ·rw [if_pos h1]
   exact aggT_rows op col nm SA c n cs hn hl w h (lh hm) q5 ((lit_beq op _ opC rfl).trans (decide_eq_true h1))
  ·rw [if_neg h1]
   exact aggT_form2 op col nm SA c n cs hn hl w h (lh hm) q5 ((lit_beq op _ opC rfl).trans (decide_eq_false h1))
 ·rw [if_neg h5]
  have q5:col.toList.isEmpty=false:=by rw [isEmpty_bs];exact decide_eq_false h5
  rcases hp:placeV cs col with _ | i
  ·have ht:typO cs col=none:=by unfold typO;rw [hp];rfl
   rw [ht]
   exact aggT_name op col nm SA c n cs hn hl w h (lh hm) q5 hp
  ·obtain ⟨t,ht⟩:∃ t,typO cs col=some t:=⟨_,by unfold typO;rw [hp];rfl⟩
   rw [ht]
   dsimp only
   by_cases h2:op=opS
   ·have n3:¬ op=opMi:=by rw [h2];decide
    have n4:¬ op=opMa:=by rw [h2];decide
    by_cases h22:t=2
    ·rw [if_pos ⟨h2,h22⟩]
     exact aggT_text op col nm SA c n cs hn hl w h (lh hm) q5 i hp t ht ((lit_beq op _ opS rfl).trans (decide_eq_true h2)) h22
    ·rw [if_neg (fun q=>h22 q.2),if_neg (fun q=>q.elim n3 n4)]
     exact aggT_sum op col nm SA c n cs hn hl w h (lh hm) q5 i hp t ht ((lit_beq op _ opS rfl).trans (decide_eq_true h2)) ((lit_beq op _ opMi rfl).trans (decide_eq_false n3)) ((lit_beq op _ opMa rfl).trans (decide_eq_false n4)) h22
   ·rw [if_neg (fun q=>h2 q.1)]
    have q2:(op.toList==[115,117,109])=false:=(lit_beq op _ opS rfl).trans (decide_eq_false h2)
    by_cases h3:op=opMi
    ·rw [if_pos (.inl h3)]
     exact aggT_min op col nm SA c n cs hn hl w h (lh hm) q5 i hp t ht q2 ((lit_beq op _ opMi rfl).trans (decide_eq_true h3))
    ·have q3:(op.toList==[109,105,110])=false:=(lit_beq op _ opMi rfl).trans (decide_eq_false h3)
     by_cases h4:op=opMa
     ·rw [if_pos (.inr h4)]
      exact aggT_max op col nm SA c n cs hn hl w h (lh hm) q5 i hp t ht q2 q3 ((lit_beq op _ opMa rfl).trans (decide_eq_true h4))
     ·rw [if_neg (fun q=>q.elim h3 h4)]
      exact aggT_count op col nm SA c n cs hn hl w h (lh hm) q5 i hp t ht q2 q3 ((lit_beq op _ opMa rfl).trans (decide_eq_false h4))
end
section
open Go.RowKit
def OwnR (t:TypeId) (base:Nat) (w:World) (B:Option Addr) (c:Nat) (rows:List (List VD)):Prop :=
 ∃ sl,SlsAt w sl rows/\OwnK t 1 slE w B c sl/\∀ s∈sl,∀ b∈fpo s.A,b∉fpo B/\b < w.heap.size/\base<=b
theorem OwnR.nil (t:TypeId) (base:Nat) (w:World):OwnR t base w none 0 []:=⟨[],⟨rfl,fun i h=>absurd h (by simp)⟩,OwnK.nil _ _ _ _,by simp⟩
theorem OwnR.rowsAt {t base:Nat} {w:World} {B:Option Addr} {c:Nat} {rows:List (List VD)} (h:OwnR t base w B c rows):RowsAt w B rows:=by
 obtain ⟨sl,h1,h2,_⟩:=h
 exact ⟨sl,h1,h2.rd⟩
theorem OwnR.lt {t base:Nat} {w:World} {B:Option Addr} {c:Nat} {rows:List (List VD)} (h:OwnR t base w B c rows):∀ b∈fpo B,b < w.heap.size:=by
 obtain ⟨sl,h1,h2,_⟩:=h
 exact h2.lt
theorem SlsAt.touch {w w':World} {sl:List SL} {rows:List (List VD)} {fp:List Nat} (h:SlsAt w sl rows) (ht:Touch fp w w') (hn:∀ s∈sl,∀ b∈fpo s.A,b∉fp):SlsAt w' sl rows :=
 ⟨h.1,fun i a b=>⟨(h.2 i a b).1,RdK.touch (h.2 i a b).2 ht (hn _ (List.getElem_mem a))⟩⟩
theorem OwnR.touch {t base:Nat} {w w':World} {B:Option Addr} {c:Nat} {rows:List (List VD)} {fp:List Nat} (h:OwnR t base w B c rows) (ht:Touch fp w w') (hfp:∀ b∈fp,b < base) (hB:∀ b∈fpo B,base<=b):OwnR t base w' B c rows:=by
 obtain ⟨sl,h1,h2,h3⟩:=h
 exact ⟨sl,h1.touch ht (fun s hs b hb hm=>by have:=hfp b hm;have:=(h3 s hs b hb).2.2;omega),h2.touch ht (fun b hb hm=>by have:=hfp b hm;have:=hB b hb;omega),fun s hs b hb=>⟨(h3 s hs b hb).1,Nat.lt_of_lt_of_le (h3 s hs b hb).2.1 ht.size,(h3 s hs b hb).2.2⟩⟩
theorem OwnR.touch0 {t base:Nat} {w w':World} {B:Option Addr} {c:Nat} {rows:List (List VD)} (h:OwnR t base w B c rows) (ht:Touch [] w w'):OwnR t base w' B c rows:=by
 obtain ⟨sl,h1,h2,h3⟩:=h
 exact ⟨sl,h1.touch ht (fun _ _ _ _=>by simp),h2.touch0 ht,fun s hs b hb=>⟨(h3 s hs b hb).1,Nat.lt_of_lt_of_le (h3 s hs b hb).2.1 ht.size,(h3 s hs b hb).2.2⟩⟩
theorem wpList_appR {w:World} {ops:Array Oper} {rest:List Oper} {o:Oper} {a:Act} {Q:Exit->Act->World->Prop} (hgd:o.guard=none) (s x:Operand) (t:TypeId)
  (ho:o.op=.call { callee:=.builtin .append,args:=#[s,x],argTypes:=#[t,t] })
  (e:TypeId) (hinfo:(Tryz.prog.info? e).map (fun i=>(i.zero,i.size,i.bytes))=some (some (.slice none 0 0),1,24)) (ht:Tryz.prog.underlying t=some (.slice e))
  (base:Nat) (B:Option Addr) (m c:Nat) (rows:List (List VD)) (hm:rows.length=m) (hs:a.eval s=.slice B m c) (hown:OwnR e base w B c rows)
  (A:Option Addr) (ca:Nat) (r:List VD) (hr:ValsAt w A r) (hA:∀ b∈fpo A,b∉fpo B/\b < w.heap.size/\base<=b)
  (g:Nat) (hx:a.eval x=.slice (some ⟨w.heap.size,0,none⟩) 1 g) (h63:m+1<=1000000000) {cs:Array Value} (hcs:cs.toList=[.slice A r.length ca])
  (h:∀ B' c' w',OwnR e base w' B' c' (rows++[r])->Touch (fpo B) (w.alloc (.cells cs e)) w'->(∀ b∈fpo B',b∈fpo B\/b=w.heap.size+1)->wpList Tryz.prog ops Q rest (a.put o.dst (.slice B' (m+1) c')) w') :
  wpList Tryz.prog ops Q (o :: rest) a (w.alloc (.cells cs e)):=by
 obtain ⟨sl,h1,h2,h3⟩:=hown
 have ta:=(Touch.refl [] w).alloc (.cells cs e)
 refine wpList_appK (enc:=slE) hgd s x t ho e (.slice none 0 0) 1 24 hinfo ht rfl (by omega) slE_length slE_one B m c sl (by rw [h1.1,hm]) hs (h2.touch0 ta)
  (some ⟨w.heap.size,0,none⟩) 1 g [⟨A,r.length,ca⟩] rfl hx (RdK.one (enc:=slE) w e ⟨A,r.length,ca⟩ cs hcs) h63 (by omega) ?_
 intro B' c' w' hown' t' hf'
 rw [World.size_alloc] at hf'
 have hw:=ta.size
 refine h B' c' w' ⟨sl++[⟨A,r.length,ca⟩],⟨by rw [List.length_append,List.length_append,h1.1];rfl,fun i a1 b1 => ?_⟩,hown',fun s' hs' b hb => ?_⟩ t' hf'
 ·by_cases hi:i < sl.length
  ·have hi2:i < rows.length:=by rw [<- h1.1];exact hi
   rw [List.getElem_append_left hi,List.getElem_append_left hi2]
   have:=h1.2 i hi hi2
   exact ⟨this.1,RdK.touch (RdK.touch0 this.2 ta) t' (fun b hb=>(h3 _ (List.getElem_mem hi) b hb).1)⟩
  ·have hi':i=sl.length:=by rw [List.length_append] at a1;simp at a1;omega
   subst hi'
   have e1:(sl++[(⟨A,r.length,ca⟩:SL)])[sl.length]=⟨A,r.length,ca⟩:=by rw [List.getElem_append_right (Nat.le_refl _)];simp
   have e2:(rows++[r])[sl.length]=r:=by rw [List.getElem_append_right (by rw [h1.1];exact Nat.le_refl _)];simp [h1.1]
   rw [e1,e2]
   exact ⟨rfl,RdK.touch (RdK.touch0 hr ta) t' (fun b hb=>(hA b hb).1)⟩
 ·have key:b∉fpo B/\b < w.heap.size/\base<=b:=by
   rcases List.mem_append.1 hs' with q | q
   ·exact h3 s' q b hb
   ·simp only [List.mem_singleton] at q
    subst q
    exact hA b hb
  refine ⟨fun hm' => ?_,Nat.lt_of_lt_of_le key.2.1 (Nat.le_trans hw t'.size),key.2.2⟩
  rcases hf' b hm' with q | q
  ·exact key.1 q
  ·have:=key.2.1;omega
end
section
open Go.RowKit
theorem add_blk (g j:Nat):(⟨g,0,none⟩:Addr).add j=⟨g,j,none⟩:=by unfold Addr.add;split <;> simp_all
theorem OwnK.free_ {α:Type} {t k:Nat} {enc:α->List Value} {w:World} {G c:Nat} {xs:List α} (h:OwnK t k enc w (some ⟨G,0,none⟩) c xs) (i:Nat):w.frozen? ⟨G,i,none⟩=false:=by
 rcases h.2 with ⟨hv,_⟩ | ⟨g,cap,cur,hv,_,hg,_,_,_,_⟩
 ·injection hv with hA;cases hA
 ·have hA:(some ⟨G,0,none⟩:Option Addr)=some ⟨g,0,none⟩:=by injection hv
  injection hA with hA;injection hA with hG;subst hG
  simp [World.frozen?,hg]
theorem flat_set {α β:Type} (enc:α->List β) (k:Nat) (hk:∀ x,(enc x).length=k) (v:β) (o:Nat) (ho:o < k):∀ (xs:List α) (i:Nat) (hi:i < xs.length) (y:α),enc y=(enc xs[i]).set o v->(xs.set i y).flatMap enc=(xs.flatMap enc).set (i*k+o) v
 | [],i=>fun hi=>absurd hi (by simp)
 | x :: xs,0=>fun _ y hy=>by
  rw [List.set_cons_zero,List.flatMap_cons,List.flatMap_cons,hy,List.getElem_cons_zero,Nat.zero_mul,Nat.zero_add,List.set_append_left _ _ (by rw [hk];exact ho)]
 | x :: xs,i+1=>fun hi y hy=>by
  have ih:=flat_set enc k hk v o ho xs i (by simpa using hi) y (by simpa using hy)
  have e1:(i+1)*k+o=k+(i*k+o):=by rw [Nat.add_mul];omega
  rw [List.set_cons_succ,List.flatMap_cons,List.flatMap_cons,ih,List.set_append_right _ _ (by rw [hk,e1];omega),hk,e1,Nat.add_sub_cancel_left]
theorem OwnK.set {α:Type} {t k:Nat} {enc:α->List Value} {w:World} {G c:Nat} {xs:List α} (h:OwnK t k enc w (some ⟨G,0,none⟩) c xs) (hk:∀ x,(enc x).length=k) (i:Nat) (hi:i < xs.length) (o:Nat) (ho:o < k) (v:Value) (y:α)
  (hy:enc y=(enc xs[i]).set o v):OwnK t k enc (w.setCell ⟨G,i*k+o,none⟩ v) (some ⟨G,0,none⟩) c (xs.set i y):=by
 have:=(World.ownsRow.stored h (i*k+o) v).1
 unfold OwnK
 rw [List.length_set,flat_set enc k hk v o ho xs i hi y hy]
 exact this
theorem OwnK.set1 {α:Type} {t:Nat} {val:α->Value} {w:World} {G c:Nat} {xs:List α} (h:OwnK t 1 (fun x=>[val x]) w (some ⟨G,0,none⟩) c xs) (i:Nat) (hi:i < xs.length) (y:α):OwnK t 1 (fun x=>[val x]) (w.setCell ⟨G,i,none⟩ (val y)) (some ⟨G,0,none⟩) c (xs.set i y):=by
 have:=h.set (fun _=>rfl) i hi 0 (by omega) (val y) y rfl
 rwa [Nat.mul_one] at this
theorem flat_one {α:Type} {val:α->Value} (xs:List α):(xs.flatMap fun x=>[val x])=xs.map val:=by
 induction xs with
 | nil=>rfl
 | cons x xs ih=>rw [List.flatMap_cons,ih];rfl
theorem OwnK.cell1 {α:Type} {t:Nat} {val:α->Value} {w:World} {G c:Nat} {xs:List α} (h:OwnK t 1 (fun x=>[val x]) w (some ⟨G,0,none⟩) c xs) (i:Nat) (hi:i < xs.length):w.cell? ⟨G,i,none⟩=some (val xs[i]):=by
 have:=World.ownsRow.cells h (g:=G) rfl i (val xs[i]) (by rw [flat_one];simp [hi])
 rwa [add_blk] at this
theorem OwnK.made {α:Type} (t:Nat) (val:α->Value) (w:World) (n:Nat) (z:α) (hn:n<=maxLen):OwnK t 1 (fun x=>[val x]) (w.alloc (.cells (madeCells #[val z] n) t)) (some ⟨w.heap.size,0,none⟩) n (List.replicate n z):=by
 refine ⟨by simp,.inr ⟨w.heap.size,n,madeCells #[val z] n,by simp,Nat.zero_le _,heap_alloc_new w _,by simp,hn, ?_, ?_⟩⟩
 ·rw [madeCells_one];simp
 ·rw [madeCells_one,flat_one];simp
theorem OwnK.mono {α:Type} {t k:Nat} {enc:α->List Value} {w:World} {A:Option Addr} {c:Nat} {xs:List α} (h:OwnK t k enc w A c xs) {w':World} (hb:∀ b∈fpo A,w'.heap[b]?=w.heap[b]?):OwnK t k enc w' A c xs:=by
 refine ⟨h.1, ?_⟩
 rcases h.2 with hv | ⟨g,cap,cur,hv,hb',hg,rest⟩
 ·exact .inl hv
 ·have hA:A=some ⟨g,0,none⟩:=by injection hv
  subst hA
  exact .inr ⟨g,cap,cur,hv,hb',by rw [hb g (by simp [fpo])];exact hg,rest⟩
end
end Go.Proofs.YtafoklilkdnepaaGreatDoor
