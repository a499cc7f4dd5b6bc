/- Part 8 of the texts of this proof, one behind the other. No condition beyond those that its theorems state. -/
import Derived.Test.YtafoklilkdnepaaGreatDoorRi7
import Derived.Deep.RegionHeld3
set_option maxRecDepth 40000
set_option maxHeartbeats 25600000
namespace Go.Proofs.YtafoklilkdnepaaGreatDoor
section
open Go.RowKit
variable (FN:Nat) (CL:List Value)
def InPV (S:Nat->SL) (G c n:Nat) (D f:Nat->Nat) (a b:Nat) (w:World) (e:Ending) (w':World):Prop:=e=.returned (.tuple #[])/\∃ g,RowV S w' G c n g/\SM D f a b g/\Touch [G] w w'
theorem ing_none (hFN:∀ (args:Array Value) (wk:World),(callFunc FN args).run Tryz.prog wk=.ok (.enter FN args) wk) (G c n:Nat) (hn:n<=100000) (S:Nat->SL) (D:Nat->Nat) (a:Nat) (ha:a<=n) (f:Nat->Nat) (w:World) (hR:RowV S w G c n f) :
  Calls Tryz.prog 177 #[.slice (some ⟨G,0,none⟩) n c,.int .i64 a,.int .i64 a,.func (.func FN) #[] CL.toArray] w (InPV S G c n D f a a w):=by
 have HP:Hid (InPV S G c n D f a a w (.returned (.tuple #[])) w):=lh ⟨rfl,f,hR,SM.self (fun i j h1 h2 h3=>absurd h1 (by omega)),Touch.refl _ _⟩
 generalize InPV S G c n D f a a w=P at HP ⊢
 clear hR
 go_enter Tryz.func177,Tryz.ntmps177
 go_wp2_with fail
 go_loop [8] (fun y=>y=.int .i64 (a+1:Nat)) (fun _=>0)
 case atStart=>go_num
 case round =>
  obtain rfl:=hrel
  have:(((a+1:Nat):Int) < (a:Int))=False:=by simp;omega
  go_wp2
  go_end0
  exact HP.out
theorem stableg_any (hFN:∀ (args:Array Value) (wk:World),(callFunc FN args).run Tryz.prog wk=.ok (.enter FN args) wk) (G c n:Nat) (h0:0 < n) (hn:n<=100000) (S:Nat->SL) (R:Nat->Nat->Int) (D:Nat->Nat) (hRD:∀ x y,R x y < 0 ↔ D x < D y) (w0:World) (hC:CmpOkG FN CL S R G n w0) (w:World) (hR:RowV S w G c n (fun k=>k)) (hT:Touch [G] w0 w) :
  Calls Tryz.prog 143 #[.slice (some ⟨G,0,none⟩) n c,.int .i64 n,.func (.func FN) #[] CL.toArray] w fun e w'=>e=.returned (.tuple #[])/\∃ g,RowV S w' G c n g/\Good D g 0 n/\Touch [G] w w':=by
 have HT:=lh hT
 have HC:=lh hC
 have HR:=lh hR
 clear hR hT hC
 go_enter Tryz.func143,Tryz.ntmps143
 go_wp2
 go_loopw [7,8] (fun a b w1=>∃ (q:Nat) (p:Nat) (f:Nat->Nat),p=q*20/\p<=n/\a=.int .i64 p/\b=.int .i64 ((p:Int)+20)/\Hid (RowV S w1 G c n f)/\Hid (Ph1 D f n q)/\Hid (∀ k,k < n->f k < n)/\Hid (Touch [G] w w1)) (fun a _ _=>n-(intOf a).toNat)
 case atStart=>exact ⟨0,0,fun k=>k,by omega,by omega,rfl,rfl,HR,lh (Ph1.zero D n),lh (fun _ h=>h),lh (Touch.refl _ _)⟩
 case round =>
  clear HR
  obtain ⟨q,p,f,hp,hpn,rfl,rfl,HR,HP,HF,HTw⟩:=hrel
  have Hp:=lh hp
  have HT1:Hid (Touch [G] w0 wr):=lh (HT.out.trans HTw.out (fun b hb=>.inl hb))
  clear hp
  by_cases hb:p+20<=n
  ·have hl:(p:Int)+20<=(n:Int):=by omega
   have hi:=ing_one FN CL hFN G c n hn S R D hRD w0 HC.out p (p+20) (by omega) hb f wr HR.out HT1.out (by rw [Hp.out];exact HP.out.up) HF.out
   rw [show ((p+20:Nat):Int)=(p:Int)+20 by omega] at hi
   have Hi:=lh hi
   clear hi
   go_wp2_with fail
   refine Hi.out.mono ?_
   rintro e w1 ⟨rfl,g,hr1,hm1,ht1⟩
   have HR1:=lh hr1
   have HM1:=lh hm1
   have HT2:=lh (HTw.out.trans ht1 (fun b hb=>.inl hb))
   clear hr1 hm1 ht1 Hi
   go_wp2_with fail
   go_roundw
   case rel=>exact ⟨q+1,p+20,g,by have:=Hp.out;omega,hb,by go_num,by go_num,HR1,lh (HP.out.next (by rw [<- Hp.out];exact HM1.out)),lh (HM1.out.lt hb HF.out),HT2⟩
   case measure=>simp [intOf];omega
  ·have hl:((p:Int)+20<=(n:Int))=False:=by simp;omega
   have hi:Calls Tryz.prog 177 #[.slice (some ⟨G,0,none⟩) n c,.int .i64 p,.int .i64 n,.func (.func FN) #[] CL.toArray] wr (InPV S G c n D f p n wr):=by
    by_cases e:p=n
    ·rw [e];exact ing_none FN CL hFN G c n hn S D n (Nat.le_refl _) f wr HR.out
    ·exact ing_one FN CL hFN G c n hn S R D hRD w0 HC.out p n (by omega) (Nat.le_refl _) f wr HR.out HT1.out (by rw [Hp.out];exact HP.out.up) HF.out
   have Hi:=lh hi
   clear hi
   go_wp2_with fail
   refine Hi.out.mono ?_
   rintro e w2 ⟨rfl,g,hr1,hm1,ht1⟩
   have HR1:=lh hr1
   have HT2:=lh (HTw.out.trans ht1 (fun b hb=>.inl hb))
   have HL:Hid (Til D g 20 n):=lh (HP.out.last (by rw [<- Hp.out];exact hpn) (by rw [<- Hp.out];omega) (by rw [<- Hp.out];exact hm1))
   have HF1:=lh (hm1.lt (Nat.le_refl _) HF.out)
   clear hr1 hm1 ht1 Hi HR HP HF HTw HT1 Hp
   go_wp2_with fail
   go_loopw [6,7,8,9] (fun a _ _ _ w1=>∃ (bs:Nat) (f:Nat->Nat),20<=bs/\bs<=200000/\a=.int .i64 bs/\Hid (RowV S w1 G c n f)/\Hid (Til D f bs n)/\Hid (∀ k,k < n->f k < n)/\Hid (Touch [G] w w1)) (fun a _ _ _ _=>n-(intOf a).toNat)
   case atStart=>exact ⟨20,g,by omega,by omega,rfl,HR1,HL,HF1,HT2⟩
   case round =>
    clear HR1 HL HF1 HT2
    obtain ⟨bs,f,hbs,hbs2,rfl,HR,HL,HF,HTw⟩:=hrel
    by_cases hbn:bs < n
    ·obtain ⟨tb,htb⟩:∃ tb,tb=2*bs:=⟨_,rfl⟩
     have e2:2*(bs:Int)=(tb:Int):=by omega
     have e3:(bs:Int)*2=(tb:Int):=by omega
     have hlt:(bs:Int) < (n:Int):=by omega
     have htb1:bs < tb:=by omega
     have htb2:tb<=200000:=by omega
     have htb3:tb<=bs+bs:=by omega
     have htb4:bs+bs<=tb:=by omega
     have HTB:=lh htb
     have HP0:Hid (Ph2 D f bs n 0):=lh (Ph2.zero HL.out)
     clear htb
     go_wp2_with fail
     go_loopw [7,8] (fun a b w1=>∃ (q:Nat) (p:Nat) (f:Nat->Nat),p<=n/\a=.int .i64 p/\b=.int .i64 ((p:Int)+(tb:Int))/\Hid (p=q*(2*bs))/\Hid (RowV S w1 G c n f)/\Hid (Ph2 D f bs n q)/\Hid (∀ k,k < n->f k < n)/\Hid (Touch [G] w w1)) (fun a _ _=>n-(intOf a).toNat)
     case atStart=>exact ⟨0,0,f,by omega,rfl,by go_num,lh (by omega),HR,HP0,HF,HTw⟩
     case round =>
      clear HR HP0 HF HTw HL
      obtain ⟨q,p,f,hpn,rfl,rfl,Hp,HR,HP,HF,HTw⟩:=hrel
      have HT1:Hid (Touch [G] w0 wr):=lh (HT.out.trans HTw.out (fun b hb=>.inl hb))
      by_cases hb:p+tb<=n
      ·have hl:(p:Int)+(tb:Int)<=(n:Int):=by omega
       have hpq:q*(2*bs)+2*bs<=n:=by rw [<- Hp.out,<- HTB.out];exact hb
       obtain ⟨g1,g2⟩:=HP.out.two (by omega) (by omega)
       have g2':=g2.same (b':=p+tb) (by rw [<- Hp.out,<- HTB.out];omega)
       rw [<- Hp.out] at g1 g2'
       have hsm:=smg_any FN CL hFN G c n hn S R D hRD w0 HC.out n p (p+bs) (p+tb) (by omega) (by omega) (by omega) hb f wr HR.out HT1.out g1.1 g2'.1 (g1.lr g2') HF.out
       rw [show ((p+bs:Nat):Int)=(p:Int)+(bs:Int) by omega,show ((p+tb:Nat):Int)=(p:Int)+(tb:Int) by omega] at hsm
       have HS:=lh hsm
       have Hpq:=lh hpq
       clear hsm hpq g1 g2 g2'
       go_wp2_with fail
       refine HS.out.mono ?_
       rintro e w1 ⟨rfl,g,hr1,hm1,ht1⟩
       have HR1:=lh hr1
       have HM1:=lh hm1
       have HT2:=lh (HTw.out.trans ht1 (fun b hb=>.inl hb))
       clear hr1 hm1 ht1 HS
       go_wp2_with fail
       go_roundw
       case rel=>exact ⟨q+1,p+tb,g,hb,by go_num,by go_num,lh (by rw [Nat.add_mul,Nat.one_mul,<- Hp.out,<- HTB.out]),HR1,lh (HP.out.next (by omega) Hpq.out (by rw [<- Hp.out,<- HTB.out];exact HM1.out)),lh (HM1.out.lt hb HF.out),HT2⟩
       case measure=>simp [intOf];omega
      ·have hl:((p:Int)+(tb:Int)<=(n:Int))=False:=by simp;omega
       by_cases hm:p+bs < n
       ·have hl2:(p:Int)+(bs:Int) < (n:Int):=by omega
        obtain ⟨g1,g2⟩:=HP.out.two (by omega) (by rw [<- Hp.out];exact hm)
        have g2':=g2.same (b':=n) (by rw [<- Hp.out,<- HTB.out];omega)
        rw [<- Hp.out] at g1 g2'
        have hsm:=smg_any FN CL hFN G c n hn S R D hRD w0 HC.out n p (p+bs) n (by omega) (by omega) hm (Nat.le_refl _) f wr HR.out HT1.out g1.1 g2'.1 (g1.lr g2') HF.out
        rw [show ((p+bs:Nat):Int)=(p:Int)+(bs:Int) by omega] at hsm
        have HS:=lh hsm
        clear hsm g1 g2 g2'
        go_wp2_with fail
        refine HS.out.mono ?_
        rintro e w1 ⟨rfl,g,hr1,hm1,ht1⟩
        have HR1:=lh hr1
        have HM1:=lh hm1
        have HT2:=lh (HTw.out.trans ht1 (fun b hb=>.inl hb))
        have HZ:Hid (Til D g tb n):=lh (by
         have:=HP.out.last (by omega) (by rw [<- Hp.out];exact hm) (by rw [<- Hp.out,<- HTB.out];omega) (by rw [<- Hp.out];exact hm1)
         rw [<- HTB.out] at this
         exact this)
        clear hr1 hm1 ht1 HS
        go_wp2_with fail
        go_roundw
        case rel=>exact ⟨tb,g,by omega,by omega,by go_num,HR1,HZ,lh (HM1.out.lt (Nat.le_refl _) HF.out),HT2⟩
        case measure=>simp [intOf];omega
       ·have hl2:((p:Int)+(bs:Int) < (n:Int))=False:=by simp;omega
        have HZ:Hid (Til D f tb n):=lh (by
         have:=HP.out.quit (by omega) (by rw [<- Hp.out];exact hpn) (by rw [<- Hp.out];omega)
         rw [<- HTB.out] at this
         exact this)
        go_wp2_with fail
        go_roundw
        case rel=>exact ⟨tb,f,by omega,by omega,by go_num,HR,HZ,HF,HTw⟩
        case measure=>simp [intOf];omega
    ·have hlt:((bs:Int) < (n:Int))=False:=by simp;omega
     go_wp2_with fail
     go_end0
     exact ⟨rfl,f,HR.out,HL.out.all h0 (by omega),HTw.out⟩
theorem sortStableg_any (hFN:∀ (args:Array Value) (wk:World),(callFunc FN args).run Tryz.prog wk=.ok (.enter FN args) wk) (G c n:Nat) (h0:0 < n) (hn:n<=100000) (S:Nat->SL) (R:Nat->Nat->Int) (D:Nat->Nat) (hRD:∀ x y,R x y < 0 ↔ D x < D y) (w0:World) (hC:CmpOkG FN CL S R G n w0) (w:World) (hR:RowV S w G c n (fun k=>k)) (hT:Touch [G] w0 w) :
  Calls Tryz.prog 102 #[.slice (some ⟨G,0,none⟩) n c,.func (.func FN) #[] CL.toArray] w fun e w'=>e=.returned (.tuple #[])/\∃ g,RowV S w' G c n g/\Good D g 0 n/\Touch [G] w w':=by
 have Hi:=lh (stableg_any FN CL hFN G c n h0 hn S R D hRD w0 hC w hR hT)
 clear hR hT hC
 go_enter Tryz.func102,Tryz.ntmps102
 go_wp2_with fail
 refine Hi.out.mono ?_
 rintro e w1 ⟨rfl,g,hg⟩
 have Hg:=lh hg
 clear hg
 go_wp2_with fail
 go_end0
 exact ⟨rfl,g,Hg.out⟩
end
section
def Tr (x y z:Int):Prop:=x<=0->y<=0->z<=0/\(z=0 ↔ x=0/\y=0)
theorem Tr.lex {x1 y1 z1 x2 y2 z2:Int} (h1:Tr x1 y1 z1) (h2:Tr x2 y2 z2):Tr (if x1=0 then x2 else x1) (if y1=0 then y2 else y1) (if z1=0 then z2 else z1):=by
 intro h3 h4
 unfold Tr at h1 h2
 by_cases a:x1=0 <;> by_cases b:y1=0 <;> by_cases c:z1=0
 all_goals
  first | rw [if_pos a] at h3 ⊢ | rw [if_neg a] at h3 ⊢
  first | rw [if_pos b] at h4 ⊢ | rw [if_neg b] at h4 ⊢
  first | rw [if_pos c] | rw [if_neg c]
  have q1:=h1 (by omega) (by omega)
  first
   | (have q2:=h2 (by omega) (by omega);omega)
   | omega
theorem tr_int (a b c:Int):Tr (Lib.compareInt a b) (Lib.compareInt b c) (Lib.compareInt a c):=by
 intro h1 h2
 have q:∀ x y:Int,Lib.compareInt x y=if x < y then -1 else if y < x then 1 else 0:=fun x y=>by
  unfold Lib.compareInt
  split
  ·rfl
  ·split <;> first | rfl | (exfalso;omega) | (rename_i h1 h2;rw [if_pos (by omega)]) | (rename_i h1 h2;rw [if_neg (by omega)])
 rw [q] at h1 h2 ⊢
 rw [q a b,q b c]
 by_cases a1:a < b <;> by_cases a2:b < a <;> by_cases a3:b < c <;> by_cases a4:c < b <;> by_cases a5:a < c <;> by_cases a6:c < a <;> simp only [a1,a2,a3,a4,a5,a6,if_true,if_false] at h1 h2 ⊢ <;> first | omega | (simp;omega) | simp
theorem tr_bytes:∀ (a b c:List UInt8),Tr (Lib.compareBytes a b) (Lib.compareBytes b c) (Lib.compareBytes a c)
 | [],[],[]=>fun _ _=>by decide
 | [],[],_ :: _=>fun _ _=>by simp [Lib.compareBytes]
 | [],_ :: _,[]=>fun _ h=>by simp [Lib.compareBytes] at h
 | [],_ :: _,_ :: _=>fun _ _=>by simp [Lib.compareBytes]
 | _ :: _,[],_=>fun h _=>by simp [Lib.compareBytes] at h
 | _ :: _,_ :: _,[]=>fun _ h=>by simp [Lib.compareBytes] at h
 | x :: a,y :: b,z :: c=>by
  have e:∀ (x y:UInt8) (a b:List UInt8),Lib.compareBytes (x :: a) (y :: b)=if Lib.compareInt x.toNat y.toNat=0 then Lib.compareBytes a b else Lib.compareInt x.toNat y.toNat:=fun x y a b=>by
   rw [Lib.compareBytes]
   unfold Lib.compareInt
   by_cases h1:x < y
   ·have:=UInt8.lt_iff_toNat_lt.1 h1
    rw [if_pos h1]
    simp (discharger:=omega) [show ((x.toNat:Int) < (y.toNat:Int)) by omega]
   ·have n1:¬ x.toNat < y.toNat:=fun q=>h1 (UInt8.lt_iff_toNat_lt.2 q)
    rw [if_neg h1]
    by_cases h2:y < x
    ·have:=UInt8.lt_iff_toNat_lt.1 h2
     rw [if_pos h2]
     simp [show ¬ ((x.toNat:Int) < (y.toNat:Int)) by omega,show ((y.toNat:Int) < (x.toNat:Int)) by omega]
    ·have n2:¬ y.toNat < x.toNat:=fun q=>h2 (UInt8.lt_iff_toNat_lt.2 q)
     rw [if_neg h2]
     simp [show ¬ ((x.toNat:Int) < (y.toNat:Int)) by omega,show ¬ ((y.toNat:Int) < (x.toNat:Int)) by omega]
  rw [e,e,e]
  exact (tr_int _ _ _).lex (tr_bytes a b c)
theorem tr_val (a b c:VD):Tr (cmpVV a b) (cmpVV b c) (cmpVV a c):=by
 have e:∀ a b:VD,cmpVV a b=if Lib.compareInt a.kind b.kind=0 then (if Lib.compareInt a.num b.num=0 then Lib.compareBytes a.text.data.toList b.text.data.toList else Lib.compareInt a.num b.num) else Lib.compareInt a.kind b.kind:=fun a b=>by
  unfold cmpVV
  simp only [orV]
  split
  ·split
   ·by_cases h:Lib.compareBytes a.text.data.toList b.text.data.toList=0
    ·rw [if_pos h,h]
    ·rw [if_neg h]
   ·rfl
  ·rfl
 rw [e,e,e]
 exact (tr_int _ _ _).lex ((tr_int _ _ _).lex (tr_bytes _ _ _))
theorem tr_row:∀ (a b c:List VD),Tr (cmpRV a b) (cmpRV b c) (cmpRV a c)
 | [],[],[]=>fun _ _=>by decide
 | [],[],_ :: _=>fun _ _=>by simp [cmpRV]
 | [],_ :: _,[]=>fun _ h=>by simp [cmpRV] at h
 | [],_ :: _,_ :: _=>fun _ _=>by simp [cmpRV]
 | _ :: _,[],_=>fun h _=>by simp [cmpRV] at h
 | _ :: _,_ :: _,[]=>fun _ h=>by simp [cmpRV] at h
 | x :: a,y :: b,z :: c=>by
  have e:∀ (x y:VD) (a b:List VD),cmpRV (x :: a) (y :: b)=if cmpVV x y=0 then cmpRV a b else cmpVV x y:=fun x y a b=>by rw [cmpRV]
  rw [e,e,e]
  exact (tr_val _ _ _).lex (tr_row a b c)
def rankN (R:Nat->Nat->Int) (M x:Nat):Nat:=((List.range M).filter fun z=>decide (R z x < 0)).length
theorem filter_le {p q:Nat->Bool}:∀ (l:List Nat),(∀ a∈l,p a=true->q a=true)->(l.filter p).length<=(l.filter q).length
 | [],_=>Nat.le_refl _
 | a :: l,h=>by
  have ih:=filter_le l fun b hb=>h b (List.mem_cons_of_mem _ hb)
  have ha:=h a List.mem_cons_self
  rw [List.filter_cons,List.filter_cons]
  by_cases hp:p a=true
  ·rw [if_pos hp,if_pos (ha hp)];simp only [List.length_cons];omega
  ·rw [if_neg hp]
   split
   ·simp only [List.length_cons];omega
   ·exact ih
theorem filter_lt {p q:Nat->Bool}:∀ (l:List Nat),(∀ a∈l,p a=true->q a=true)->∀ a∈l,p a=false->q a=true->(l.filter p).length < (l.filter q).length
 | b :: l,h,a,ha,hp,hq=>by
  have hl:∀ c∈l,p c=true->q c=true:=fun c hc=>h c (List.mem_cons_of_mem _ hc)
  rw [List.filter_cons,List.filter_cons]
  rcases List.mem_cons.1 ha with rfl | hm
  ·rw [if_neg (by rw [hp];simp),if_pos hq]
   have:=filter_le l hl
   simp only [List.length_cons];omega
  ·have ih:=filter_lt l hl a hm hp hq
   by_cases hpb:p b=true
   ·rw [if_pos hpb,if_pos (h b List.mem_cons_self hpb)];simp only [List.length_cons];omega
   ·rw [if_neg hpb]
    split
    ·simp only [List.length_cons];omega
    ·exact ih
theorem rank_iff {R:Nat->Nat->Int} {M:Nat} (hn:∀ x y,R y x = -R x y) (ht:∀ x y z,Tr (R x y) (R y z) (R x z)) (hr:∀ x,∃ x',x' < M/\∀ y,R x' y=R x y) (x y:Nat):R x y < 0 ↔ rankN R M x < rankN R M y:=by
 have h0:∀ x,R x x=0:=fun x=>by have:=hn x x;omega
 have up:∀ x y z,R z x < 0->R x y<=0->R z y < 0:=fun x y z h1 h2=>by
  have:=ht z x y (by omega) h2
  omega
 constructor
 ·intro h
  obtain ⟨x',hx',he⟩:=hr x
  refine filter_lt _ (fun a _ ha => ?_) x' (List.mem_range.2 hx') ?_ ?_
  ·exact decide_eq_true (up x y a (of_decide_eq_true ha) (by omega))
  ·have:=h0 x
   have:=he x
   exact decide_eq_false (by omega)
  ·have:=he y
   exact decide_eq_true (by omega)
 ·intro h
  rcases Int.lt_or_le (R x y) 0 with q | q
  ·exact q
  ·have h1:R y x<=0:=by have:=hn x y;omega
   have:rankN R M y<=rankN R M x:=filter_le _ fun a _ ha=>decide_eq_true (up y x a (of_decide_eq_true ha) h1)
   omega
def SortedOf (rows out:List (List VD)):Prop:=out.Perm rows/\out.Pairwise fun a b=>cmpRV a b<=0
def rowR (rows:List (List VD)) (x y:Nat):Int:=cmpRV (rows.getD x []) (rows.getD y [])
def rowD (rows:List (List VD)) (x:Nat):Nat:=rankN (rowR rows) (rows.length+1) x
theorem rowD_iff (rows:List (List VD)) (x y:Nat):rowR rows x y < 0 ↔ rowD rows x < rowD rows y:=by
 refine rank_iff (R:=rowR rows) (fun x y=>cmpRV_neg _ _) (fun x y z=>tr_row _ _ _) (fun x => ?_) x y
 by_cases h:x < rows.length
 ·exact ⟨x,by omega,fun _=>rfl⟩
 ·refine ⟨rows.length,by omega,fun y => ?_⟩
  unfold rowR
  rw [List.getD_eq_getElem?_getD,List.getElem?_eq_none (Nat.le_refl _),List.getD_eq_getElem?_getD (l:=rows) (i:=x),List.getElem?_eq_none (by omega)]
theorem good_sorted {rows:List (List VD)} {g:Nat->Nat} (h:Good (rowD rows) g 0 rows.length):SortedOf rows ((List.range rows.length).map fun k=>rows.getD (g k) []):=by
 constructor
 ·have e:rows=(List.range rows.length).map fun k=>rows.getD k []:=by
   apply List.ext_getElem
   ·simp
   ·intro i h1 h2;simp [h1]
  have h1:((List.range rows.length).map g).Perm (List.range rows.length):=by
   refine (List.perm_ext_iff_of_nodup ?_ List.nodup_range).2 fun a => ?_
   ·rw [List.Nodup,List.pairwise_map]
    refine (List.Pairwise.and_mem.1 List.pairwise_lt_range).imp fun {x y} hxy e => ?_
    have:=h.1 x y (Nat.zero_le _) hxy.2.2 (List.mem_range.1 hxy.2.1)
    rw [e] at this
    exact ltL_irrefl _ _ this
   ·rw [List.mem_range,List.mem_map]
    constructor
    ·rintro ⟨i,hi,rfl⟩
     exact ((h.2 (g i)).1 ⟨i,Nat.zero_le _,List.mem_range.1 hi,rfl⟩).2
    ·intro ha
     obtain ⟨i,_,hi,hg⟩:=(h.2 a).2 ⟨Nat.zero_le _,ha⟩
     exact ⟨i,List.mem_range.2 hi,hg⟩
  have h2:=h1.map fun k=>rows.getD k []
  rw [List.map_map,<- e] at h2
  exact h2
 ·rw [List.pairwise_map]
  refine (List.Pairwise.and_mem.1 List.pairwise_lt_range).imp fun {x y} hxy => ?_
  have h1:=h.1 x y (Nat.zero_le _) hxy.2.2 (List.mem_range.1 hxy.2.1)
  have h2:¬ rowD rows (g y) < rowD rows (g x):=by unfold ltL at h1;omega
  have h3:=mt (rowD_iff rows (g y) (g x)).1 h2
  have h4:=cmpRV_neg (rows.getD (g x) []) (rows.getD (g y) [])
  unfold rowR at h3
  omega
end
section
open Go.RowKit
theorem inR_nil (A:Option Addr) (c:Nat) (fv:Value) (w:World):Calls Tryz.prog 177 #[.slice A 0 c,.int .i64 0,.int .i64 0,fv] w fun e w'=>e=.returned (.tuple #[])/\w'=w:=by
 go_enter Tryz.func177,Tryz.ntmps177
 go_wp2_with fail
 go_loop [8] (fun y=>y=.int .i64 1) (fun _=>0)
 case atStart=>rfl
 case round =>
  obtain rfl:=hrel
  go_wp2
  go_end0
  exact ⟨rfl,rfl⟩
theorem stableR_nil (A:Option Addr) (c:Nat) (fv:Value) (w:World):Calls Tryz.prog 143 #[.slice A 0 c,.int .i64 0,fv] w fun e w'=>e=.returned (.tuple #[])/\w'=w:=by
 have Hi:=lh (inR_nil A c fv)
 go_enter Tryz.func143,Tryz.ntmps143
 go_wp2
 go_loop [7,8] (fun a b=>a=.int .i64 0/\b=.int .i64 20) (fun _ _=>0)
 case atStart=>exact ⟨rfl,rfl⟩
 case round =>
  obtain ⟨rfl,rfl⟩:=hrel
  go_wp2_with fail
  refine (Hi.out _).mono ?_
  rintro e w1 ⟨rfl,hw⟩
  have HW:=lh hw
  clear hw
  go_wp2_with fail
  go_loop [6,7,8,9] (fun a _ _ _=>a=.int .i64 20) (fun _ _ _ _=>0)
  case atStart=>rfl
  case round =>
   obtain rfl:=hrel
   go_wp2_with fail
   go_end0
   exact ⟨rfl,HW.out⟩
theorem sortR_nil (A:Option Addr) (c:Nat) (fv:Value) (w:World):Calls Tryz.prog 102 #[.slice A 0 c,fv] w fun e w'=>e=.returned (.tuple #[])/\w'=w:=by
 have Hi:=lh (stableR_nil A c fv)
 go_enter Tryz.func102,Tryz.ntmps102
 go_wp2_with fail
 refine (Hi.out _).mono ?_
 rintro e w1 ⟨rfl,hw⟩
 have HW:=lh hw
 clear hw
 go_wp2_with fail
 go_end0
 exact ⟨rfl,HW.out⟩
theorem range_getD {α:Type} (l:List α) (z:α) (n:Nat) (hn:l.length=n):(List.range n).map (fun k=>l.getD k z)=l:=by
 subst hn
 apply List.ext_getElem
 ·simp
 ·intro i h1 h2;simp [h2]
theorem enter_cmp (args:Array Value) (wk:World):(callFunc 81 args).run Tryz.prog wk=.ok (.enter 81 args) wk:=by kernel_rfl
theorem sortRows_any (B:Option Addr) (c n:Nat) (rows:List (List VD)) (hn:rows.length=n) (hl:n<=100000) (hok:RowsOk rows) (base:Nat) (w:World) (h:OwnR 33 base w B c rows) :
  Calls Tryz.prog 102 #[.slice B n c,.func (.func 81) #[] #[]] w fun e w' =>
   e=.returned (.tuple #[])/\∃ out,SortedOf rows out/\OwnR 33 base w' B c out/\Touch (fpo B) w w':=by
 subst hn
 obtain ⟨sl,⟨h1,h1'⟩,h2,h3⟩:=h
 by_cases h0:rows.length=0
 ·obtain rfl:rows=[]:=List.eq_nil_of_length_eq_zero h0
  obtain rfl:sl=[]:=List.eq_nil_of_length_eq_zero h1
  refine (sortR_nil B c _ w).mono ?_
  rintro e w1 ⟨rfl,rfl⟩
  exact ⟨rfl,[],⟨.refl _,.nil⟩,⟨[],⟨rfl,h1'⟩,h2,h3⟩,Touch.refl _ _⟩
 ·rcases h2.head with ⟨q1,q2,q3⟩ | ⟨G,rfl⟩
  ·exact absurd (by rw [<- h1,q2];rfl) h0
  ·have hget:∀ x (hx:x < sl.length),sl.getD x ⟨none,0,0⟩=sl[x]:=fun x hx=>by simp [hx]
   have hgr:∀ x (hx:x < rows.length),rows.getD x []=rows[x]:=fun x hx=>by simp [hx]
   have hat:∀ wr,Touch [G] w wr->∀ x (hx:x < rows.length),(sl.getD x ⟨none,0,0⟩).n=(rows.getD x []).length/\ValsAt wr (sl.getD x ⟨none,0,0⟩).A (rows.getD x []):=fun wr ht x hx=>by
    have hx1:x < sl.length:=by omega
    rw [hget x hx1,hgr x hx]
    exact ⟨(h1' x hx1 hx).1,RdK.touch (h1' x hx1 hx).2 ht (fun b hb=>by have:=(h3 _ (List.getElem_mem hx1) b hb).1;simpa [fpo] using this)⟩
   have hC:CmpOkG 81 [] (fun x=>sl.getD x ⟨none,0,0⟩) (rowR rows) G rows.length w:=by
    intro wr ht x y hx hy
    obtain ⟨a1,a2⟩:=hat wr ht x hx
    obtain ⟨b1,b2⟩:=hat wr ht y hy
    have k1:=hok _ (List.getElem_mem hx)
    have k2:=hok _ (List.getElem_mem hy)
    rw [<- hgr x hx] at k1
    rw [<- hgr y hy] at k2
    exact cmpRows_any _ _ _ _ _ _ _ _ a1.symm b1.symm wr a2 b2 (by rw [a1];exact k1.1) (by rw [b1];exact k2.1)
   have hR:RowV (fun x=>sl.getD x ⟨none,0,0⟩) w G c rows.length (fun k=>k):=by
    unfold RowV
    rw [range_getD sl _ _ h1]
    exact h2
   refine (sortStableg_any 81 [] enter_cmp G c rows.length (by omega) hl _ _ _ (rowD_iff rows) w hC w hR (Touch.refl _ _)).mono ?_
   rintro e w1 ⟨rfl,g,hr,hg,ht⟩
   have hgn:∀ i,i < rows.length->g i < rows.length:=fun i hi=>((hg.2 (g i)).1 ⟨i,Nat.zero_le _,hi,rfl⟩).2
   refine ⟨rfl,_,good_sorted hg,⟨_,⟨by simp,fun i a b => ?_⟩,hr,fun s hs b hb => ?_⟩,ht⟩
   ·have hi:i < rows.length:=by simpa using a
    have:=hat w1 ht (g i) (hgn i hi)
    simpa using this
   ·obtain ⟨i,hi,rfl⟩:=List.mem_map.1 hs
    have hi:=hgn i (List.mem_range.1 hi)
    have hi1:g i < sl.length:=by omega
    have hb:b∈fpo (sl.getD (g i) ⟨none,0,0⟩).A:=hb
    rw [hget _ hi1] at hb
    obtain ⟨c1,c2,c3⟩:=h3 _ (List.getElem_mem hi1) b hb
    exact ⟨c1,Nat.lt_of_lt_of_le c2 ht.size,c3⟩
end
section
open Go.RowKit
theorem lt_of_block {w:World} {g:Nat} {o:Obj} (h:w.heap[g]?=some o):g < w.heap.size:=(Array.getElem?_eq_some_iff.1 h).1
def RowsLe (rows:List (List VD)):Prop:=∀ r∈rows,r.length<=1000000
theorem copied_any (A:Option Addr) (c n:Nat) (rows:List (List VD)) (hn:rows.length=n) (hl:n<=1000000) (hr:RowsLe rows) (w:World) (h:RowsAt w A rows) :
  Calls Tryz.prog 88 #[.slice A n c] w fun e w'=>∃ B c',e=.returned (.slice B n c')/\OwnR 33 w.heap.size w' B c' rows/\Touch [] w w'/\∀ b∈fpo B,w.heap.size<=b:=by
 subst hn
 have HR:=lh h
 clear h
 go_enter Tryz.func88,Tryz.ntmps88
 go_wp2_with fail
 go_loopw [3,8] (fun o i wr=>∃ (k:Nat) (B:Option Addr) (c2:Nat),k<=rows.length/\i=.int .i64 k/\o=.slice B k c2/\Hid (OwnR 33 w.heap.size wr B c2 (rows.take k))/\Hid (Touch [] w wr)/\Hid (∀ b∈fpo B,w.heap.size<=b)) (fun _ i _=>rows.length-(intOf i).toNat)
 case atStart=>exact ⟨0,none,0,by omega,rfl,rfl,lh (OwnR.nil _ _ _),lh (Touch.refl _ _),lh (by simp [fpo])⟩
 case round =>
  obtain ⟨k,B,c2,hk,rfl,rfl,HO,HT,HF⟩:=hrel
  by_cases hlt:k < rows.length
  ·obtain ⟨bd,A1,c1,rfl,e0,hr1⟩:=(HR.out.touch0 HT.out).at_ k hlt
   have hl1:=hr _ (List.getElem_mem hlt)
   have htk:=List.take_succ_eq_append_getElem hlt
   obtain ⟨r,hre⟩:∃ r,r=rows[k]:=⟨_,rfl⟩
   rw [<- hre] at e0 hr1 hl1 htk
   have Hc:=lh (cloneV_any A1 c1 r.length r rfl hl1 wr hr1)
   have Htk:=lh htk
   have hkn:(k:Int) < (rows.length:Int):=by omega
   clear hre htk hr1
   go_wp2_with fail
   refine Hc.out.mono ?_
   rintro e w1 ⟨A2,c3,rfl,hm⟩
   have HM:=lh hm
   clear hm Hc
   go_wp2_with (at_builtin;refine stop ?_)
   refine go ?_
   have hB:=HO.out.lt
   have hsz:=HM.out.t.size
   refine wpList_appR rfl (.tmp 12) (.tmp 15) 25 rfl 33 info_r5 Tryz.underlying25 w.heap.size B k c2 (rows.take k) (by rw [List.length_take];omega) rfl (HO.out.touch0 HM.out.t) A2 c3 r HM.out.own.rd
    (fun b hb=>⟨fun q=>by have:=hB b q;have:=HM.out.f b hb;omega,HM.out.own.lt b hb,by have:=HM.out.f b hb;have:=HT.out.size;omega⟩) 1 rfl (by omega) rfl ?_
   intro B' c' w' hown ht hf
   have HX:=lh (And.intro hown (And.intro ht hf))
   clear hown ht hf
   go_wp2_with fail
   go_roundw
   case rel =>
    obtain ⟨hown,ht,hf⟩:=HX.out
    refine ⟨k+1,B',c',by omega,by go_num,rfl,lh (by rw [Htk.out];exact hown),lh (((HT.out.trans0 HM.out.t).alloc _).trans ht (fun b hb=>.inr (HF.out b hb))),lh (fun b hb => ?_)⟩
    rcases hf b hb with q | q
    ·exact HF.out b q
    ·have:=HT.out.size;omega
   case measure=>simp [intOf];omega
  ·obtain rfl:k=rows.length:=by omega
   have HO2:Hid (OwnR 33 w.heap.size wr B c2 rows):=lh (by have:=HO.out;rwa [List.take_length] at this)
   clear HO
   go_wp2
   go_ret
   exact ⟨B,c2,rfl,HO2.out,HT.out,HF.out⟩
structure NewTab (base:Nat) (w:World) (s r:SL) (cs:List CD) (rows:List (List VD)):Prop where
 n:s.n=cs.length
 le:s.n<=s.c
 cols:ColsAt w s.A cs
 cf:∀ b∈fpo s.A,base<=b/\b < w.heap.size
 m:r.n=rows.length
 rws:OwnR 33 base w r.A r.c rows
 rf:∀ b∈fpo r.A,base<=b
 apart:∀ b∈fpo s.A,b∉fpo r.A
theorem NewTab.tab {base:Nat} {w:World} {s r:SL} {cs:List CD} {rows:List (List VD)} (h:NewTab base w s r cs rows):TabAt w s r cs rows:=⟨h.n,h.le,h.cols,h.m,h.rws.rowsAt⟩
theorem NewTab.touch0 {base:Nat} {w w':World} {s r:SL} {cs:List CD} {rows:List (List VD)} (h:NewTab base w s r cs rows) (ht:Touch [] w w'):NewTab base w' s r cs rows :=
 ⟨h.n,h.le,h.cols.touch0 ht,fun b hb=>⟨(h.cf b hb).1,Nat.lt_of_lt_of_le (h.cf b hb).2 ht.size⟩,h.m,h.rws.touch0 ht,h.rf,h.apart⟩
theorem OwnR.base {t base base':Nat} {w:World} {B:Option Addr} {c:Nat} {rows:List (List VD)} (h:OwnR t base w B c rows) (hb:base'<=base):OwnR t base' w B c rows:=by
 obtain ⟨sl,h1,h2,h3⟩:=h
 exact ⟨sl,h1,h2,fun s hs b q=>⟨(h3 s hs b q).1,(h3 s hs b q).2.1,Nat.le_trans hb (h3 s hs b q).2.2⟩⟩
theorem NewTab.base {base base':Nat} {w:World} {s r:SL} {cs:List CD} {rows:List (List VD)} (h:NewTab base w s r cs rows) (hb:base'<=base):NewTab base' w s r cs rows :=
 ⟨h.n,h.le,h.cols,fun b q=>⟨Nat.le_trans hb (h.cf b q).1,(h.cf b q).2⟩,h.m,h.rws.base hb,fun b q=>Nat.le_trans hb (h.rf b q),h.apart⟩
theorem copy_any (s r:SL) (cs:List CD) (rows:List (List VD)) (hn:cs.length<=1000000) (hl:rows.length<=1000000) (hr:RowsLe rows) (w:World) (h:TabAt w s r cs rows) :
  Calls Tryz.prog 63 #[.agg #[.slice s.A s.n s.c,.slice r.A r.n r.c]] w fun e w'=>∃ s' r':SL,e=.returned (.agg #[.slice s'.A s'.n s'.c,.slice r'.A r'.n r'.c])/\NewTab w.heap.size w' s' r' cs rows/\Touch [] w w':=by
 obtain ⟨SA,sn,sc⟩:=s
 obtain ⟨RA,rn,rc⟩:=r
 obtain ⟨h1,h2,h3,h4,h5⟩:=h
 dsimp only at *
 obtain ⟨W,hW⟩:∃ W,W=((w.alloc (.cells #[.slice SA sn sc,.slice RA rn rc] 27)).alloc (.cells #[.slice none 0 0,.slice none 0 0] 27)):=⟨_,rfl⟩
 have t0:Touch [] w W:=hW ▸ ((Touch.refl [] w).alloc (.cells #[.slice SA sn sc,.slice RA rn rc] 27)).alloc (.cells #[.slice none 0 0,.slice none 0 0] 27)
 have hp0:W.heap[w.heap.size]?=some (.cells #[.slice SA sn sc,.slice RA rn rc] 27 (0,0)):=hW ▸ ((Touch.refl [] (w.alloc (.cells #[.slice SA sn sc,.slice RA rn rc] 27))).alloc (.cells #[.slice none 0 0,.slice none 0 0] 27)).blk (heap_alloc_new w _) (by simp)
 have hr0:W.heap[w.heap.size+1]?=some (.cells #[.slice none 0 0,.slice none 0 0] 27 (0,0)):=by
  have:=heap_alloc_new (w.alloc (.cells #[.slice SA sn sc,.slice RA rn rc] 27)) (.cells #[.slice none 0 0,.slice none 0 0] 27)
  rw [World.size_alloc] at this
  rw [hW];exact this
 have HW:=lh hW
 have Hc1:=lh fun w' (t:Touch [] W w')=>cloneC_any SA sc sn cs h1.symm (by omega) w' (h3.touch0 (t0.trans0 t))
 have Hc2:=lh fun w' (t:Touch [] W w')=>copied_any RA rc rn rows h4.symm (by omega) hr w' (h5.touch0 (t0.trans0 t))
 obtain ⟨c0,c1,_,_⟩:=blk2 hp0
 have c0d:=((Touch.refl [] W).drew).cell c0 (by simp)
 have c1d:=((Touch.refl [] W).drew).cell c1 (by simp)
 have H0:=lh (And.intro t0 (And.intro hr0 (And.intro c0 c1)))
 have Hn:=lh (And.intro h1 (And.intro h2 h4))
 clear hW h3 h5 t0 hr0 h1 h2 h4 hn hl hp0 c0 c1
 go_enter Tryz.func63,Tryz.ntmps63
 go_wp2_with fail
 rw [<- HW.out]
 go_region_held3 (fun w'=>w'.cell? ⟨w.heap.size,0,none⟩=some (.slice SA sn sc)/\w'.cell? ⟨w.heap.size,1,none⟩=some (.slice RA rn rc)) (first | exact ⟨c0d,c1d⟩ | exact ⟨d0,d1⟩ | exact ⟨f0,f1⟩ | exact ⟨(touch2 _ _ _ _).cell f0 (by simp),(touch2 _ _ _ _).cell f1 (by simp)⟩) (first
  | (go_at_call 67;refine (Hc1.out _ (Touch.refl _ _).drew).mono ?_;rintro e w1 ⟨A1,k1,rfl,m1⟩;have M1:=lh m1;have d0:=M1.out.t.cell c0d (by simp);have d1:=M1.out.t.cell c1d (by simp);clear m1)
  | (go_at_call 88;refine (Hc2.out _ ((Touch.refl _ _).drew.trans0 M1.out.t)).mono ?_;rintro e w2 ⟨B2,k2,rfl,o2,t2,f2⟩;have M2:=lh (And.intro o2 (And.intro t2 f2));have f0:=t2.cell d0 (by simp);have f1:=t2.cell d1 (by simp);have hr2:=t2.blk (M1.out.t.blk ((Touch.refl [] W).drew.blk H0.out.2.1 (by simp)) (by simp)) (by simp);obtain ⟨z0,z1,y0,y1⟩:=blk2 hr2;clear o2 t2 f2))
 go_wp2_with fail
 obtain ⟨o2,t2,f2⟩:=M2.out
 obtain ⟨ht0,hr0,_,_⟩:=H0.out
 obtain ⟨h1,h2,h4⟩:=Hn.out
 have hWs:W.heap.size=w.heap.size+2:=by rw [HW.out];simp
 have hd:=(Touch.refl [] W).drew
 have s1:=M1.out.t.size
 have s2:=t2.size
 have s0:=hd.size
 have hr2:=t2.blk (M1.out.t.blk (hd.blk hr0 (by simp)) (by simp)) (by simp)
 have tq:=touch2 w2 (w.heap.size+1) (.slice A1 sn k1) (.slice B2 rn k2)
 have s3:=tq.size
 have hle:=M1.out.own.le
 refine bodyPost_ret (results_cell_row rfl _ _ (w.heap.size+1) _ _ _ _ rfl (set2 hr2 rfl _ _) Tryz.underlying27 rfl rfl) rfl ⟨⟨A1,sn,k1⟩,⟨B2,rn,k2⟩,rfl,⟨h1,by dsimp only;omega,RdK.touch (RdK.touch0 M1.out.own.rd t2) tq (fun b hb hm => ?_),fun b hb=>⟨?_, ?_⟩,h4, ?_,fun b hb => ?_,fun b hb hm => ?_⟩, ?_⟩
 ·have:=M1.out.f b hb;simp at hm;omega
 ·have:=M1.out.f b hb;omega
 ·have:=M1.out.own.lt b hb;omega
 ·exact (o2.touch tq (fun b hb=>by simp at hb;omega) (fun b hb=>f2 b hb)).base (by omega)
 ·have:=f2 b hb;omega
 ·have:=M1.out.own.lt b hb;have:=f2 b hm;omega
 ·exact (((ht0.trans0 hd).trans0 M1.out.t).trans0 t2).trans tq (fun b hb=>.inr (by simp at hb;omega))
theorem make_no (SA:Option Addr) (cap n:Nat) (cs:List CD) (hn:cs.length=n) (hok:∀ c∈cs,c.Ok) (A:Option Addr) (c m:Nat) (rows:List (List VD)) (hm:rows.length=m) (hvk:RowsOk rows) (w:World)
  (h:ColsAt w SA cs) (hv:RowsAt w A rows) (hl:n<=140737000000000) (hl2:m<=140737000000000) (he:fitV cs rows≠0) :
  Calls Tryz.prog 66 #[.slice SA n cap,.slice A m c] w fun e w'=>e=.returned (.tuple #[.agg #[.slice none 0 0,.slice none 0 0],.int .i64 (fitV cs rows)])/\Touch [] w w':=by
 have t0:=(Touch.refl [] w).alloc (.cells #[.slice none 0 0,.slice none 0 0] 27)
 have hr:=heap_alloc_new w (.cells #[.slice none 0 0,.slice none 0 0] 27)
 have Hf:=lh (fit_any SA cap n cs hn hok A c m rows hm hvk _ (h.touch0 t0) (hv.touch0 t0) hl hl2)
 have HR:=lh (And.intro t0 hr)
 obtain ⟨k,hk⟩:∃ k,k=fitV cs rows:=⟨_,rfl⟩
 rw [<- hk] at Hf he ⊢
 have hq:(k==0)=false:=by rw [beq_eq_false_iff_ne];exact he
 have hq':(k != 0)=true:=by rw [bne,hq];rfl
 clear t0 hr hk h hv
 go_enter Tryz.func66,Tryz.ntmps66
 go_wp2_with fail
 refine Hf.out.mono ?_
 rintro e w1 ⟨rfl,t1⟩
 have hr1:=t1.blk HR.out.2 (by simp)
 obtain ⟨z0,z1,y0,y1⟩:=blk2 hr1
 have HT:=lh (And.intro (HR.out.1.trans0 t1) hr1)
 clear hr1 t1
 go_wp2_with fail
 refine bodyPost_ret (results_cell_two rfl _ _ w.heap.size _ _ _ _ rfl (set2 HT.out.2 rfl _ _) Tryz.underlying27 rfl rfl) rfl ⟨rfl,HT.out.1.trans (touch2 _ _ _ _) (fun b hb=>.inr (by simp at hb;omega))⟩
theorem fitV_zero {cs:List CD} {rows:List (List VD)} (h:fitV cs rows=0):checkV cs=0/\rows.length<=4096/\rows.all (fitR cs)=true:=by
 unfold fitV at h
 by_cases h1:checkV cs=0
 ·rw [if_pos h1] at h
  by_cases h2:4096 < rows.length
  ·rw [if_pos h2] at h;cases h
  ·rw [if_neg h2] at h
   by_cases h3:rows.all (fitR cs)=true
   ·exact ⟨h1,by omega,h3⟩
   ·rw [if_neg h3] at h;cases h
 ·rw [if_neg h1] at h;exact absurd h h1
theorem checkV_16 {cs:List CD} (h:checkV cs=0):1<=cs.length/\cs.length<=16:=by
 unfold checkV at h
 by_cases h1:cs.length < 1\/16 < cs.length
 ·rw [if_pos h1] at h;cases h
 ·omega
theorem make_yes (SA:Option Addr) (cap n:Nat) (cs:List CD) (hn:cs.length=n) (hcap:n<=cap) (hok:∀ c∈cs,c.Ok) (A:Option Addr) (c m:Nat) (rows:List (List VD)) (hm:rows.length=m) (hvk:RowsOk rows) (hle:RowsLe rows) (w:World)
  (h:ColsAt w SA cs) (hv:RowsAt w A rows) (hl:n<=140737000000000) (hl2:m<=140737000000000) (he:fitV cs rows=0) :
  Calls Tryz.prog 66 #[.slice SA n cap,.slice A m c] w fun e w'=>∃ (s r:SL) (out:List (List VD)),e=.returned (.tuple #[.agg #[.slice s.A s.n s.c,.slice r.A r.n r.c],.int .i64 0])/\NewTab w.heap.size w' s r cs out/\SortedOf rows out/\Touch [] w w':=by
 have t0:=(Touch.refl [] w).alloc (.cells #[.slice none 0 0,.slice none 0 0] 27)
 have hr:=heap_alloc_new w (.cells #[.slice none 0 0,.slice none 0 0] 27)
 have hf:=fit_any SA cap n cs hn hok A c m rows hm hvk _ (h.touch0 t0) (hv.touch0 t0) hl hl2
 obtain ⟨hc0,h4,_⟩:=fitV_zero he
 have h16:=checkV_16 hc0
 rw [he] at hf
 have Hf:=lh hf
 have Hcp:=lh fun w' (t:Touch [] w w')=>copy_any ⟨SA,n,cap⟩ ⟨A,m,c⟩ cs rows (by omega) (by omega) hle w' (⟨hn.symm,hcap,h.touch0 t,hm.symm,hv.touch0 t⟩:TabAt w' ⟨SA,n,cap⟩ ⟨A,m,c⟩ cs rows)
 have HR:=lh (And.intro t0 hr)
 have HV:=lh (And.intro hvk h4)
 clear t0 hr h hv hf hvk hle hc0 h4 h16 hok
 go_enter Tryz.func66,Tryz.ntmps66
 go_wp2_with fail
 refine Hf.out.mono ?_
 rintro e w1 ⟨rfl,t1⟩
 have HT:=lh (And.intro (HR.out.1.trans0 t1) (t1.blk HR.out.2 (by simp)))
 clear t1
 go_wp2_with fail
 refine (Hcp.out _ HT.out.1).mono ?_
 rintro e w2 ⟨s2,r2,rfl,hn2,t2⟩
 obtain ⟨sA,sn,sc⟩:=s2
 obtain ⟨rA,rn,rc⟩:=r2
 have ta:=(Touch.refl [] w2).alloc (.cells #[.slice sA sn sc,.slice rA rn rc] 27)
 have hb2:=heap_alloc_new w2 (.cells #[.slice sA sn sc,.slice rA rn rc] 27)
 have hr2:=ta.blk (t2.blk HT.out.2 (by simp)) (by simp)
 have hm2:=hn2.m
 have hs:=sortRows_any rA rc rn rows hm2.symm (by have:=HV.out.2;dsimp only at hm2;omega) HV.out.1 w1.heap.size _ (hn2.rws.touch0 ta)
 have Hs:=lh hs
 have H2:=lh (And.intro hn2 (And.intro t2 (And.intro ta (And.intro hb2 hr2))))
 clear hn2 t2 ta hb2 hr2 hm2 hs
 go_wp2_with fail
 refine Hs.out.mono ?_
 rintro e w3 ⟨rfl,out,hsort,hown3,t3⟩
 obtain ⟨hn2,t2,ta,hb2,hr2⟩:=H2.out
 have hw1:=lt_of_block HT.out.2
 have hnA:w.heap.size∉fpo rA:=fun q=>by have:=hn2.rf _ q;omega
 have hnB:w2.heap.size∉fpo rA:=fun q=>by have:=hn2.rws.lt _ q;omega
 have hb3:=t3.blk hb2 hnB
 have hr3:=t3.blk hr2 hnA
 obtain ⟨x0,x1,_,_⟩:=blk2 hb3
 obtain ⟨z0,z1,y0,y1⟩:=blk2 hr3
 have H3:=lh (And.intro hsort (And.intro hown3 (And.intro t3 hr3)))
 clear hsort hown3 t3 hr3 hb3 hnA hnB hn2 t2 ta hb2 hr2
 go_wp2_with fail
 obtain ⟨hsort,hown3,t3,hr3⟩:=H3.out
 obtain ⟨hn2,t2,ta,hb2,hr2⟩:=H2.out
 have tq:=touch2 w3 w.heap.size (.slice sA sn sc) (.slice rA rn rc)
 have s2:=t2.size
 have s3:=ta.size
 have s4:=t3.size
 have s5:=tq.size
 have hlen:=hsort.1.length_eq
 have T3:Touch [] w w3:=((HT.out.1.trans0 t2).trans0 ta).trans t3 (fun b hb=>.inr (by have:=hn2.rf b hb;omega))
 refine bodyPost_ret (results_cell_two rfl _ _ w.heap.size _ _ _ _ rfl (set2 hr3 rfl _ _) Tryz.underlying27 rfl rfl) rfl ⟨⟨sA,sn,sc⟩,⟨rA,rn,rc⟩,out,rfl,⟨hn2.n,hn2.le, ?_,fun b hb=>⟨?_, ?_⟩, ?_, ?_,fun b hb => ?_,hn2.apart⟩,hsort,T3.trans tq (fun b hb=>.inr (by simp at hb;omega))⟩
 ·exact RdK.touch (RdK.touch (RdK.touch0 hn2.cols ta) t3 (fun b hb=>hn2.apart b hb)) tq (fun b hb hm=>by simp at hm;have:=(hn2.cf b hb).1;omega)
 ·have:=(hn2.cf b hb).1;omega
 ·have:=(hn2.cf b hb).2;omega
 ·have:=hn2.m;omega
 ·exact (hown3.touch tq (fun b hb=>by simp at hb;omega) (fun b hb=>hn2.rf b hb)).base (by omega)
 ·have:=hn2.rf b hb;omega
end
section
open Go.RowKit
def needV:Nat->Nat
 | 2=>1 | 3=>1 | 4=>2 | 5=>2 | 6=>1 | 7=>2 | 8=>1 | 9=>1 | _=>0
def NeedsAt (w:World):Prop:=∀ k,k < 10->w.cell? ⟨0,k,none⟩=some (.int .i64 (needV k))
theorem NeedsAt.touch0 {w w':World} (h:NeedsAt w) (ht:Touch [] w w'):NeedsAt w':=fun k hk=>ht.cell (h k hk) (by simp)
def TyPost (base:Nat) (v:Int × List CD) (w:World) (e:Ending) (w':World):Prop:=∃ s:SL,e=.returned (.tuple #[.slice s.A s.n s.c,.int .i64 v.1])/\s.n=v.2.length/\s.n<=s.c/\ColsAt w' s.A v.2/\(∀ b∈fpo s.A,base<=b/\b < w'.heap.size)/\Touch [] w w'
theorem TyPost.err {w w':World} (base:Nat) (k:Int) (ht:Touch [] w w'):TyPost base (k,[]) w (.returned (.tuple #[.slice none 0 0,.int .i64 k])) w' :=
 ⟨⟨none,0,0⟩,rfl,rfl,Nat.le_refl _,RdK.nil _ _ _,by simp [fpo],ht⟩
theorem TyPost.made {w w':World} {k:Int} {l:List CD} {A:Option Addr} {c:Nat} (h:Made 29 2 cdE l A c w w'):TyPost w.heap.size (k,l) w (.returned (.tuple #[.slice A l.length c,.int .i64 k])) w' :=
 ⟨⟨A,l.length,c⟩,rfl,rfl,h.own.le,h.own.rd,fun b hb=>⟨h.f b hb,h.own.lt b hb⟩,h.t⟩
theorem TyPost.of {v:Int × List CD} {w:World} {e:Ending} {w':World} (h:SchPost v w e w'):TyPost w.heap.size v w e w':=by
 obtain ⟨A,c,rfl,hm⟩:=h
 exact TyPost.made hm
def TypedC (w:World) (I:Option Addr) (ic n:Nat) (x:PC) (d:Int) (v:Int × List CD):Prop:=∀ w',Touch [] w w'->Calls Tryz.prog 31 #[x.val,.slice I n ic,.int .i64 d] w' (TyPost w'.heap.size v w')
def scanV (l:List SrcD) (s:ByteArray):Int × List CD:=match srcI l s with
 | none=>(13,[])
 | some k=>match l[k]? with
  | none=>(13,[])
  | some d=>if checkT d.cs d.rows=0 then (0,d.cs) else (12,[])
theorem typed_scan (x:PC) (hk0:x.kind=1) (ha0:x.args.n=0) (d:Int) (hd:d<=16) (I:Option Addr) (ic n:Nat) (l:List SrcD) (hn:l.length=n) (hl:n<=1000000) (hok:∀ d∈l,d.Ok) (w:World) (hG:NeedsAt w) (h:SrcsAt w I l) :
  Calls Tryz.prog 31 #[x.val,.slice I n ic,.int .i64 d] w (TyPost w.heap.size (scanV l x.name) w):=by
 obtain ⟨k0,k1,⟨A2,n2,c2'⟩,⟨⟨ck,cn,⟨cvk,cvn,cvt⟩,cop⟩,CA,cnn,cc⟩,⟨NA,nn,nc⟩,⟨EA,en,ec⟩,⟨OA,ol,oc⟩,⟨GA,gn,gc⟩,⟨BA,bn,bc⟩,count⟩:=x
 dsimp only at hk0 ha0 ⊢
 subst hk0 ha0
 simp only [PC.val]
 obtain ⟨W,hW⟩:∃ W,W=w.alloc (.cells #[.int .i64 1,.string k1,.slice A2 0 c2',.int .i64 ck,.string cn,.int .i64 cvk,.int .i64 cvn,.string cvt,.string cop,.slice CA cnn cc,.slice NA nn nc,.slice EA en ec,.slice OA ol oc,.slice GA gn gc,.slice BA bn bc,.int .i64 count] 49):=⟨_,rfl⟩
 have t0:Touch [] w W:=hW ▸ (Touch.refl [] w).alloc _
 have hb0:=hW ▸ heap_alloc_new w (.cells #[.int .i64 1,.string k1,.slice A2 0 c2',.int .i64 ck,.string cn,.int .i64 cvk,.int .i64 cvn,.string cvt,.string cop,.slice CA cnn cc,.slice NA nn nc,.slice EA en ec,.slice OA ol oc,.slice GA gn gc,.slice BA bn bc,.int .i64 count] 49)
 have g1:=t0.cell (hG 1 (by omega)) (by simp)
 have q0:W.cell? ⟨w.heap.size,0,none⟩=some (.int .i64 1):=cell_blk hb0 rfl
 have q1:W.cell? ⟨w.heap.size,1,none⟩=some (.string k1):=cell_blk hb0 rfl
 have q2:W.cell? ⟨w.heap.size,2,none⟩=some (.slice A2 0 c2'):=cell_blk hb0 rfl
 have hd2:(16 < d)=False:=by simp;omega
 have HW:=lh hW
 have HT0:=lh t0
 simp only [needV] at g1
 rcases hs:srcI l k1 with _ | k
 ·have Hs:=lh fun w' (t:Touch [] W w')=>source_no I ic n l hn k1 w' (h.touch0 (t0.trans0 t)) (by omega) hs
  have Hv:=lh (show scanV l k1=(13,[]) by unfold scanV;rw [hs])
  clear hs h hb0 hW t0
  go_enter Tryz.func31,Tryz.ntmps31
  go_wp2_with fail
  rw [<- HW.out]
  go_quiet (fail)
  go_wp2_with fail
  refine (Hs.out _ ((Touch.refl _ _).drewN _)).mono ?_
  rintro e w1 ⟨rfl,t1⟩
  have HT1:=lh ((HT0.out.drewN _).trans0 t1)
  clear t1
  go_wp2_with fail
  go_ret2
  rw [Hv.out]
  exact TyPost.err _ 13 (HT1.out.alloc _)
 ·have hkl:=srcI_lt hs
  have Hs:=lh fun w' (t:Touch [] W w')=>source_yes I ic n l hn k1 w' (h.touch0 (t0.trans0 t)) (by omega) k hkl hs
  have hdk:=hok _ (List.getElem_mem hkl)
  have hlk:l[k]?=some l[k]:=List.getElem?_eq_getElem hkl
  obtain ⟨sd,hsd⟩:∃ sd,sd=l[k]:=⟨_,rfl⟩
  rw [<- hsd] at Hs hdk hlk
  obtain ⟨snm,cs,rows⟩:=sd
  dsimp only at Hs
  have Hv:=lh (show scanV l k1=if checkT cs rows=0 then (0,cs) else (12,[]) by unfold scanV;rw [hs];dsimp only;rw [hlk])
  have Hok:=lh hdk
  clear hs h hb0 hW t0 hsd hlk hdk
  go_enter Tryz.func31,Tryz.ntmps31
  go_wp2_with fail
  rw [<- HW.out]
  go_quiet (fail)
  go_wp2_with fail
  refine (Hs.out _ ((Touch.refl _ _).drewN _)).mono ?_
  rintro e w1 ⟨s1,r1,rfl,htab,t1⟩
  obtain ⟨SA,sn,sc⟩:=s1
  obtain ⟨RA,rn,rc⟩:=r1
  have HT1:=lh ((HT0.out.drewN _).trans0 t1)
  have ta:=(Touch.refl [] w1).alloc (.cells #[.slice SA sn sc,.slice RA rn rc] 27)
  have hbt:=heap_alloc_new w1 (.cells #[.slice SA sn sc,.slice RA rn rc] 27)
  obtain ⟨h1,h2,h3,h4,h5⟩:=htab
  dsimp only at h1 h2 h3 h4 h5
  have hck:=checkT_any SA sc sn cs h1.symm Hok.out.cols RA rc rn rows h4.symm Hok.out.rows _ (h3.touch0 ta) (h5.touch0 ta) (by have:=Hok.out.n;dsimp only at this;omega) (by have:=Hok.out.m;dsimp only at this;omega)
  obtain ⟨K,hK⟩:∃ K,K=checkT cs rows:=⟨_,rfl⟩
  rw [<- hK] at hck Hv
  have Hck:=lh hck
  have HX:=lh (And.intro ta (And.intro hbt (And.intro h1 (And.intro h2 h3))))
  clear t1 ta hbt h1 h2 h3 h4 h5 hck hK
  by_cases hz:K=0
  ·have Hv0:=lh (show scanV l k1=(0,cs) by rw [Hv.out,if_pos hz])
   subst hz
   clear Hv
   go_wp2_with fail
   refine Hck.out.mono ?_
   rintro e w2 ⟨rfl,t2⟩
   obtain ⟨ta,hbt,h1,h2,h3⟩:=HX.out
   obtain ⟨f0,f1,_,_⟩:=blk2 (t2.blk hbt (by simp))
   have Hcl:=lh (cloneC_any SA sc sn cs h1.symm (by have:=Hok.out.n;dsimp only at this;omega) w2 (h3.touch0 (ta.trans0 t2)))
   have HT2:=lh ((HT1.out.trans0 ta).trans0 t2)
   clear ta hbt h1 h2 h3 t2
   go_wp2_with fail
   refine Hcl.out.mono ?_
   rintro e w3 ⟨A3,c3,rfl,hm⟩
   have HM:=lh hm
   clear hm
   go_wp2_with fail
   go_ret2
   rw [Hv0.out]
   exact ⟨⟨A3,sn,c3⟩,rfl,HX.out.2.2.1,by have:=HM.out.own.le;have:=HX.out.2.2.1;dsimp only;omega,HM.out.own.rd,fun b hb=>⟨Nat.le_trans HT2.out.size (HM.out.f b hb),HM.out.own.lt b hb⟩,HT2.out.trans0 HM.out.t⟩
  ·have Hv0:=lh (show scanV l k1=(12,[]) by rw [Hv.out,if_neg hz])
   have hq:(K==0)=false:=by rw [beq_eq_false_iff_ne];exact hz
   have hq':(K != 0)=true:=by rw [bne,hq];rfl
   go_wp2_with fail
   refine Hck.out.mono ?_
   rintro e w2 ⟨rfl,t2⟩
   have HT2:=lh ((HT1.out.trans0 HX.out.1).trans0 t2)
   clear t2
   go_wp2_with fail
   go_ret2
   rw [Hv0.out]
   exact TyPost.err _ 12 HT2.out
end
end Go.Proofs.YtafoklilkdnepaaGreatDoor
