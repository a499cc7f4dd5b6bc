/- Part 3 of the texts of this proof, one behind the other. No condition beyond those that its theorems state. -/
import Derived.Test.YtafoklilkdnepaaGreatDoorRi2
set_option maxRecDepth 40000
set_option maxHeartbeats 25600000
namespace Go.Proofs.YtafoklilkdnepaaGreatDoor
section
open Go.RowKit
theorem cmpRV_step {l r:List VD} {k:Nat} (h1:k < l.length) (h2:k < r.length):cmpRV (l.drop k) (r.drop k)=if cmpVV l[k] r[k]=0 then cmpRV (l.drop (k+1)) (r.drop (k+1)) else cmpVV l[k] r[k]:=by
 rw [List.drop_eq_getElem_cons h1,List.drop_eq_getElem_cons h2];rfl
theorem cmpRV_end (l r:List VD) (h:l=[]\/r=[]):cmpRV l r=if l.length < r.length then -1 else if r.length < l.length then 1 else 0:=by
 rcases h with rfl | rfl
 ·cases r <;> rfl
 ·cases l <;> rfl
theorem compareFunc_any (A B:Option Addr) (c1 c2 n m:Nat) (l r:List VD) (hn:l.length=n) (hm:r.length=m) (w:World) (h:ValsAt w A l) (h2:ValsAt w B r) (hl:n<=140737000000000) (hl2:m<=140737000000000) :
  Calls Tryz.prog 111 #[.slice A n c1,.slice B m c2,.func (.func 112) #[] #[]] w fun e w'=>e=.returned (.int .i64 (cmpRV l r))/\Touch [] w w':=by
 subst hn hm
 go_enter Tryz.func111,Tryz.ntmps111
 go_wp2
 go_loopw [13] (fun i wr=>∃ k:Nat,k<=l.length/\k<=r.length/\i=.int .i64 k/\Hid (cmpRV l r=cmpRV (l.drop k) (r.drop k))/\Touch [] w wr) (fun i _=>l.length-(intOf i).toNat)
 case atStart=>exact ⟨0,by omega,by omega,rfl,lh rfl,Touch.refl _ _⟩
 case round =>
  obtain ⟨k,hka,hkb,rfl,Ho,ht⟩:=hrel
  by_cases h1:k < l.length
  ·obtain ⟨ad,b,off,rfl,hadd,c0,c1,c2⟩:=(h.touch0 ht).at_ k h1
   by_cases h2':k < r.length
   ·obtain ⟨bd,b2,off2,rfl,hadd2,d0,d1,d2⟩:=(h2.touch0 ht).at_ k h2'
    have hst:=cmpRV_step h1 h2'
    obtain ⟨x,hx⟩:∃ x,x=l[k]:=⟨_,rfl⟩
    obtain ⟨y,hy⟩:∃ y,y=r[k]:=⟨_,rfl⟩
    rw [<- hx,<- hy] at hst
    rw [<- hx] at c0 c1 c2
    rw [<- hy] at d0 d1 d2
    obtain ⟨k1,n1,s1⟩:=x
    obtain ⟨k2,n2,s2⟩:=y
    simp only at c0 c1 c2 d0 d1 d2
    have hcv:=fun w'=>cmpVal_any ⟨k1,n1,s1⟩ ⟨k2,n2,s2⟩ w'
    simp only [VD.val] at hcv
    obtain ⟨q,hq⟩:∃ q,q=cmpVV ⟨k1,n1,s1⟩ ⟨k2,n2,s2⟩:=⟨_,rfl⟩
    rw [<- hq] at hst hcv
    have Hcv:=lh hcv
    have Hst:=lh hst
    have ta:=((Touch.refl [] wr).alloc (.cells #[.int .i64 k1,.int .i64 n1,.string s1] 31))
    have e0:=ta.cell d0 (by simp)
    have e1:=ta.cell d1 (by simp)
    have e2:=ta.cell d2 (by simp)
    have hkI:(k:Int) < (r.length:Int):=by omega
    have h0I:(0:Int)<=(k:Int):=by omega
    clear hst hcv hx hy hq d0 d1 d2 ta
    have tb:=(ht.alloc (.cells #[.int .i64 k1,.int .i64 n1,.string s1] 31)).alloc (.cells #[.int .i64 k2,.int .i64 n2,.string s2] 31)
    by_cases h0:q=0
    ·subst h0
     have Hq:=lh (show cmpRV l r=cmpRV (l.drop (k+1)) (r.drop (k+1)) by rw [Ho.out,Hst.out,if_pos rfl])
     go_wp2_with fail
     refine (Hcv.out _).mono ?_
     rintro e w1 ⟨rfl,t1⟩
     go_wp2
     go_roundw
     case rel=>exact ⟨k+1,by omega,by omega,by go_num,Hq,tb.trans0 t1⟩
     case measure=>simp [intOf];omega
    ·have Hq:=lh (show cmpRV l r=q by rw [Ho.out,Hst.out,if_neg h0])
     have hq:(q==0)=false:=by rw [beq_eq_false_iff_ne];exact h0
     have hq':(q != 0)=true:=by rw [bne,hq];rfl
     go_wp2_with fail
     refine (Hcv.out _).mono ?_
     rintro e w1 ⟨rfl,t1⟩
     go_wp2
     go_ret
     exact ⟨ret_int Hq.out.symm,tb.trans0 t1⟩
   ·have hE:=cmpRV_end (l.drop k) (r.drop k) (.inr (List.drop_of_length_le (by omega)))
    rw [List.length_drop,List.length_drop] at hE
    have Hq:=lh (show cmpRV l r=1 by rw [Ho.out,hE,if_neg (by omega),if_pos (by omega)])
    obtain ⟨x,hx⟩:∃ x,x=l[k]:=⟨_,rfl⟩
    rw [<- hx] at c0 c1 c2
    obtain rfl:k=r.length:=by omega
    clear hE hx Ho
    go_wp2
    go_ret
    exact ⟨ret_int Hq.out.symm,ht.alloc _⟩
  ·have hE:=cmpRV_end (l.drop k) (r.drop k) (.inl (List.drop_of_length_le (by omega)))
   rw [List.length_drop,List.length_drop] at hE
   have HE:=lh hE
   clear hE
   obtain rfl:k=l.length:=by omega
   by_cases hq:l.length < r.length
   ·have Hq:=lh (show cmpRV l r = -1 by rw [Ho.out,HE.out,if_pos (by omega)])
    have hqI:(l.length:Int) < (r.length:Int):=by omega
    clear HE Ho
    go_wp2
    go_ret
    exact ⟨ret_int Hq.out.symm,ht⟩
   ·have Hq:=lh (show cmpRV l r=0 by rw [Ho.out,HE.out,if_neg (by omega),if_neg (by omega)])
    have hqI:¬ (l.length:Int) < (r.length:Int):=by omega
    clear HE Ho
    go_wp2
    go_ret
    exact ⟨ret_int Hq.out.symm,ht⟩
theorem cmpRows_any (A B:Option Addr) (c1 c2 n m:Nat) (l r:List VD) (hn:l.length=n) (hm:r.length=m) (w:World) (h:ValsAt w A l) (h2:ValsAt w B r) (hl:n<=140737000000000) (hl2:m<=140737000000000) :
  Calls Tryz.prog 81 #[.slice A n c1,.slice B m c2] w fun e w'=>e=.returned (.int .i64 (cmpRV l r))/\Touch [] w w':=by
 have hcf:=compareFunc_any A B c1 c2 n m l r hn hm w h h2 hl hl2
 have Hcf:=lh hcf
 clear hcf
 go_enter Tryz.func81,Tryz.ntmps81
 go_wp2_with fail
 refine Hcf.out.mono ?_
 rintro e w1 ⟨rfl,t1⟩
 go_wp2
 go_ret
 exact ⟨rfl,t1⟩
end
section
open Go.RowKit
structure SL where
 A:Option Addr
 n:Nat
 c:Nat
def slE (s:SL):List Value:=[.slice s.A s.n s.c]
theorem slE_length (s:SL):(slE s).length=1:=rfl
theorem slE_one (s:SL):∀ u∈slE s,u.oneCell'=true:=by
 intro u hu
 simp only [slE,List.mem_cons,List.not_mem_nil,or_false] at hu
 subst hu;rfl
def SlsAt (w:World) (sl:List SL) (rows:List (List VD)):Prop:=sl.length=rows.length/\∀ i (h1:i < sl.length) (h2:i < rows.length),sl[i].n=rows[i].length/\ValsAt w sl[i].A rows[i]
def RowsAt (w:World) (B:Option Addr) (rows:List (List VD)):Prop:=∃ sl,SlsAt w sl rows/\RdK slE w B sl
theorem RowsAt.touch0 {w w':World} {B:Option Addr} {rows:List (List VD)} (h:RowsAt w B rows) (ht:Touch [] w w'):RowsAt w' B rows:=by
 obtain ⟨sl,⟨h1,h2⟩,h3⟩:=h
 exact ⟨sl,⟨h1,fun i a b=>⟨(h2 i a b).1,ValsAt.touch0 (h2 i a b).2 ht⟩⟩,RdK.touch0 h3 ht⟩
theorem RowsAt.at_ {w:World} {B:Option Addr} {rows:List (List VD)} (h:RowsAt w B rows) (i:Nat) (hi:i < rows.length):∃ bd A c,B=some bd/\w.cell? (bd.add i)=some (.slice A rows[i].length c)/\ValsAt w A rows[i]:=by
 obtain ⟨sl,⟨h1,h2⟩,h3⟩:=h
 obtain ⟨ad,b,off,e1,e2,_,e3⟩:=RdK.at_ h3 1 slE_length (by omega) i (by omega)
 rw [Nat.mul_one] at e2
 have:=h2 i (by omega) hi
 refine ⟨ad,sl[i].A,sl[i].c,e1, ?_,this.2⟩
 rw [e2,<- this.1]
 exact e3 0 _ rfl
def fitV (cs:List CD) (rows:List (List VD)):Int:=if checkV cs=0 then (if 4096 < rows.length then 31 else if rows.all (fitR cs)=true then 0 else 12) else checkV cs
def sortedV (rows:List (List VD)):Bool:=(List.range (rows.length-1)).all fun i=>decide (0<=cmpRV (rows.getD (i+1) []) (rows.getD i []))
def checkT (cs:List CD) (rows:List (List VD)):Int:=if fitV cs rows=0 then (if sortedV rows=true then 0 else 20) else fitV cs rows
theorem fit1_any (B:Nat) (SA:Option Addr) (cap n:Nat) (cs:List CD) (hn:cs.length=n) (hok:∀ c∈cs,c.Ok) (hc0:checkV cs=0) (A:Option Addr) (c m:Nat) (vs:List VD) (hm:vs.length=m) (hvk:∀ v∈vs,v.Ok 140737000000000) (w:World)
  (hB:w.cell? ⟨B,0,none⟩=some (.slice SA n cap)) (h:ColsAt w SA cs) (hv:ValsAt w A vs) (hl:n<=140737000000000) (hl2:m<=140737000000000) :
  Calls Tryz.prog 110 #[.slice A m c,.pointer (some ⟨B,0,none⟩)] w fun e w'=>e=.returned (.bool (!fitR cs vs))/\Touch [] w w':=by
 have hf:=fits_any SA cap n cs hn hok A c m vs hm hvk w h hv hl hl2
 rw [hc0] at hf
 have e:(decide ((0:Int)=0)&&fitR cs vs)=fitR cs vs:=by simp
 rw [e] at hf
 have Hf:=lh hf
 clear hf e
 go_enter Tryz.func110,Tryz.ntmps110
 go_wp2_with fail
 refine Hf.out.mono ?_
 rintro e w1 ⟨rfl,t1⟩
 go_wp2
 go_ret
 exact ⟨rfl,t1⟩
theorem all_fit_no {cs:List CD} {rows:List (List VD)} {k:Nat} (h:k < rows.length) (hb:fitR cs rows[k]=false):rows.all (fitR cs)=false:=by
 rw [List.all_eq_false]
 exact ⟨_,List.getElem_mem h,by rw [hb];simp⟩
theorem indexRows_any (B:Nat) (SA:Option Addr) (cap n:Nat) (cs:List CD) (hn:cs.length=n) (hok:∀ c∈cs,c.Ok) (hc0:checkV cs=0) (A:Option Addr) (c m:Nat) (rows:List (List VD)) (hm:rows.length=m) (hvk:∀ r∈rows,r.length<=140737000000000/\∀ v∈r,v.Ok 140737000000000) (w:World)
  (hB:w.cell? ⟨B,0,none⟩=some (.slice SA n cap)) (h:ColsAt w SA cs) (hv:RowsAt w A rows) (hl:n<=140737000000000) (hl2:m<=140737000000000) :
  Calls Tryz.prog 154 #[.slice A m c,.func (.func 110) #[] #[.pointer (some ⟨B,0,none⟩)]] w fun e w' =>
   (∃ i:Int,e=.returned (.int .i64 i) /\ -1<=i/\i<=m/\(decide (0<=i) = !rows.all (fitR cs)))/\Touch [] w w':=by
 subst hm
 go_enter Tryz.func154,Tryz.ntmps154
 go_wp2
 go_loopw [8] (fun i wr=>∃ k:Nat,k<=rows.length/\i=.int .i64 k/\Hid ((rows.take k).all (fitR cs)=true)/\Touch [] w wr) (fun i _=>rows.length-(intOf i).toNat)
 case atStart=>exact ⟨0,by omega,rfl,lh rfl,Touch.refl _ _⟩
 case round =>
  obtain ⟨k,hk,rfl,Hall,ht⟩:=hrel
  by_cases hlt:k < rows.length
  ·obtain ⟨bd,A1,c1,rfl,e0,hr⟩:=(hv.touch0 ht).at_ k hlt
   have hvk1:=hvk _ (List.getElem_mem hlt)
   have hno:=all_fit_no (cs:=cs) hlt
   have hyes:=all_snoc (p:=fitR cs) hlt Hall.out
   obtain ⟨r,hre⟩:∃ r,r=rows[k]:=⟨_,rfl⟩
   rw [<- hre] at e0 hr hvk1 hno hyes
   have hf:=fun w' (t:Touch [] wr w')=>fit1_any B SA cap n cs hn hok hc0 A1 c1 r.length r rfl hvk1.2 w' ((ht.trans0 t).cell hB (by simp)) (h.touch0 (ht.trans0 t)) (hr.touch0 t) hl hvk1.1
   have Hno:=lh hno;have Hyes:=lh hyes
   have hkI:(k:Int) < (rows.length:Int):=by omega
   clear hno hyes hre hr Hall
   rcases hb:fitR cs r with _ | _
   ·rw [hb] at hf
    have Hf:=lh hf
    have Hs:=lh (Hno.out hb)
    clear hf hb
    go_wp2_with fail
    refine (Hf.out _ (by first | exact Touch.refl _ _ | exact (Touch.refl _ _).drewN _)).mono ?_
    rintro e w1 ⟨rfl,t1⟩
    go_wp2
    go_ret
    exact ⟨⟨k,rfl,by omega,by omega,by rw [Hs.out];simp⟩,ht.trans0 t1⟩
   ·rw [hb] at hf
    have Hf:=lh hf
    have Hs:=lh (Hyes.out hb)
    clear hf hb
    go_wp2_with fail
    refine (Hf.out _ (by first | exact Touch.refl _ _ | exact (Touch.refl _ _).drewN _)).mono ?_
    rintro e w1 ⟨rfl,t1⟩
    go_wp2
    go_roundw
    case rel=>exact ⟨k+1,by omega,by go_num,Hs,ht.trans0 t1⟩
    case measure=>simp [intOf];omega
  ·obtain rfl:k=rows.length:=by omega
   have hall:=Hall.out
   rw [List.take_length] at hall
   have Hs:=lh hall
   go_wp2
   go_ret
   exact ⟨⟨-1,rfl,by omega,by omega,by rw [Hs.out];rfl⟩,ht⟩
end
section
open Go.RowKit
def RowsOk (rows:List (List VD)):Prop:=∀ r∈rows,r.length<=140737000000000/\∀ v∈r,v.Ok 140737000000000
theorem contains_any (B:Nat) (SA:Option Addr) (cap n:Nat) (cs:List CD) (hn:cs.length=n) (hok:∀ c∈cs,c.Ok) (hc0:checkV cs=0) (A:Option Addr) (c m:Nat) (rows:List (List VD)) (hm:rows.length=m) (hvk:RowsOk rows) (w:World)
  (hB:w.cell? ⟨B,0,none⟩=some (.slice SA n cap)) (h:ColsAt w SA cs) (hv:RowsAt w A rows) (hl:n<=140737000000000) (hl2:m<=140737000000000) :
  Calls Tryz.prog 109 #[.slice A m c,.func (.func 110) #[] #[.pointer (some ⟨B,0,none⟩)]] w fun e w'=>e=.returned (.bool (!rows.all (fitR cs)))/\Touch [] w w':=by
 have hi:=indexRows_any B SA cap n cs hn hok hc0 A c m rows hm hvk w hB h hv hl hl2
 have Hi:=lh hi
 clear hi
 go_enter Tryz.func109,Tryz.ntmps109
 go_wp2_with fail
 refine Hi.out.mono ?_
 rintro e w1 ⟨⟨i,rfl,i1,i2,i3⟩,t1⟩
 have I3:=lh i3
 clear i3
 go_wp2
 go_ret
 exact ⟨ret_bool (by rw [<- I3.out]),t1⟩
theorem fit_any (SA:Option Addr) (cap n:Nat) (cs:List CD) (hn:cs.length=n) (hok:∀ c∈cs,c.Ok) (A:Option Addr) (c m:Nat) (rows:List (List VD)) (hm:rows.length=m) (hvk:RowsOk rows) (w:World)
  (h:ColsAt w SA cs) (hv:RowsAt w A rows) (hl:n<=140737000000000) (hl2:m<=140737000000000) :
  Calls Tryz.prog 79 #[.slice SA n cap,.slice A m c] w fun e w'=>e=.returned (.int .i64 (fitV cs rows))/\Touch [] w w':=by
 have t0:=(Touch.refl [] w).alloc (.cells #[.slice SA n cap] 24)
 have hb0:=heap_alloc_new w (.cells #[.slice SA n cap] 24)
 have hck:=check_any SA cap n cs hn hok _ (h.touch0 t0) (by omega)
 by_cases hc:checkV cs=0
 ·rw [hc] at hck
  have Hck:=lh hck
  have Hcf:=lh fun w' (t:Touch [] (w.alloc (.cells #[.slice SA n cap] 24)) w')=>contains_any w.heap.size SA cap n cs hn hok hc A c m rows hm hvk w' (t.cell (cell_blk hb0 (i:=0) rfl) (by simp)) (h.touch0 (t0.trans0 t)) (hv.touch0 (t0.trans0 t)) hl hl2
  have Hfv:=lh (show fitV cs rows=if 4096 < rows.length then 31 else if rows.all (fitR cs)=true then 0 else 12 by unfold fitV;rw [if_pos hc])
  have Hm:=lh hm
  clear hck hc hm hvk hok
  by_cases h4:4096 < m
  ·have Hq:=lh (show fitV cs rows=31 by rw [Hfv.out,Hm.out,if_pos h4])
   go_enter Tryz.func79,Tryz.ntmps79
   go_wp2_with fail
   refine Hck.out.mono ?_
   rintro e w1 ⟨rfl,t1⟩
   go_wp2
   go_ret
   exact ⟨ret_int Hq.out.symm,t0.trans0 t1⟩
  ·rcases ha:rows.all (fitR cs) with _ | _
   ·have Hq:=lh (show fitV cs rows=12 by rw [Hfv.out,Hm.out,if_neg h4,ha];rfl)
    rw [ha] at Hcf
    clear ha
    go_enter Tryz.func79,Tryz.ntmps79
    go_wp2_with fail
    refine Hck.out.mono ?_
    rintro e w1 ⟨rfl,t1⟩
    go_wp2_with fail
    refine (Hcf.out _ t1).mono ?_
    rintro e w2 ⟨rfl,t2⟩
    go_wp2
    go_ret
    exact ⟨ret_int Hq.out.symm,(t0.trans0 t1).trans0 t2⟩
   ·have Hq:=lh (show fitV cs rows=0 by rw [Hfv.out,Hm.out,if_neg h4,ha];rfl)
    rw [ha] at Hcf
    clear ha
    go_enter Tryz.func79,Tryz.ntmps79
    go_wp2_with fail
    refine Hck.out.mono ?_
    rintro e w1 ⟨rfl,t1⟩
    go_wp2_with fail
    refine (Hcf.out _ t1).mono ?_
    rintro e w2 ⟨rfl,t2⟩
    go_wp2
    go_ret
    exact ⟨ret_int Hq.out.symm,(t0.trans0 t1).trans0 t2⟩
 ·have Hck:=lh hck
  have hfv:fitV cs rows=checkV cs:=by unfold fitV;rw [if_neg hc]
  rw [hfv]
  obtain ⟨k,hk⟩:∃ k,k=checkV cs:=⟨_,rfl⟩
  rw [<- hk]
  rw [<- hk] at Hck hc
  have hq:(k==0)=false:=by rw [beq_eq_false_iff_ne];exact hc
  have hq':(k != 0)=true:=by rw [bne,hq];rfl
  clear hck hfv hk
  go_enter Tryz.func79,Tryz.ntmps79
  go_wp2_with fail
  refine Hck.out.mono ?_
  rintro e w1 ⟨rfl,t1⟩
  go_wp2
  go_ret
  exact ⟨rfl,t0.trans0 t1⟩
theorem sorted_no {rows:List (List VD)} {p:Nat} (h:p+1 < rows.length) (hb:cmpRV (rows[p+1]) (rows[p]) < 0):sortedV rows=false:=by
 unfold sortedV
 rw [List.all_eq_false]
 refine ⟨p,List.mem_range.2 (by omega), ?_⟩
 rw [List.getD_eq_getElem?_getD,List.getD_eq_getElem?_getD,List.getElem?_eq_getElem h,List.getElem?_eq_getElem (by omega:p < rows.length)]
 simpa using hb
theorem sorted_yes {rows:List (List VD)} (h:∀ p (hp:p+1 < rows.length),0<=cmpRV (rows[p+1]) (rows[p])):sortedV rows=true:=by
 unfold sortedV
 rw [List.all_eq_true]
 intro p hp
 have hp':p+1 < rows.length:=by have:=List.mem_range.1 hp;omega
 rw [List.getD_eq_getElem?_getD,List.getD_eq_getElem?_getD,List.getElem?_eq_getElem hp',List.getElem?_eq_getElem (by omega:p < rows.length)]
 simpa using h p hp'
theorem isSorted_any (A:Option Addr) (c m:Nat) (rows:List (List VD)) (hm:rows.length=m) (hvk:RowsOk rows) (w:World) (hv:RowsAt w A rows) (hl2:m<=140737000000000) :
  Calls Tryz.prog 80 #[.slice A m c,.func (.func 81) #[] #[]] w fun e w'=>e=.returned (.bool (sortedV rows))/\Touch [] w w':=by
 subst hm
 have hn1:IntKind.i64.wrap ((rows.length:Int)-1)=(rows.length:Int)-1:=IntWalk.i64_in _ (by omega)
 go_enter Tryz.func80,Tryz.ntmps80
 go_wp2
 clear hn1
 go_loopw [5] (fun i wr=>∃ j:Nat,j<=rows.length/\i=.int .i64 ((j:Int)-1)/\Hid (∀ p (hp:p+1 < rows.length),j<=p+1->0<=cmpRV (rows[p+1]) (rows[p]))/\Touch [] w wr) (fun i _=>(intOf i+1).toNat)
 case atStart=>exact ⟨rows.length,Nat.le_refl _,rfl,lh (fun p hp h=>by omega),Touch.refl _ _⟩
 case round =>
  obtain ⟨j,hj,rfl,Hs,ht⟩:=hrel
  by_cases h2:2<=j
  ·obtain ⟨p,rfl⟩:∃ p,j=p+2:=⟨j-2,by omega⟩
   have hp1:p+1 < rows.length:=by omega
   have hp0:p < rows.length:=by omega
   obtain ⟨bd,A1,c1,rfl,e1,hr1⟩:=(hv.touch0 ht).at_ (p+1) hp1
   obtain ⟨bd2,A2,c2,hbd,e2,hr2⟩:=(hv.touch0 ht).at_ p hp0
   obtain rfl:bd=bd2:=by injection hbd
   have hv1:=hvk _ (List.getElem_mem hp1)
   have hv2:=hvk _ (List.getElem_mem hp0)
   have hno:=fun h=>sorted_no (rows:=rows) hp1 h
   obtain ⟨r1,hr1e⟩:∃ r,r=rows[p+1]:=⟨_,rfl⟩
   obtain ⟨r2,hr2e⟩:∃ r,r=rows[p]:=⟨_,rfl⟩
   rw [<- hr1e] at e1 hr1 hv1 hno
   rw [<- hr2e] at e2 hr2 hv2 hno
   have hcv:=fun w' (t:Touch [] wr w')=>cmpRows_any A1 A2 c1 c2 r1.length r2.length r1 r2 rfl rfl w' (hr1.touch0 t) (hr2.touch0 t) hv1.1 hv2.1
   have hcb:=cmpRV_b r1 r2
   obtain ⟨x,hx⟩:∃ x,x=cmpRV r1 r2:=⟨_,rfl⟩
   rw [<- hx] at hcv hno hcb
   have Hcv:=lh hcv
   have Hno:=lh hno
   have Hx:=lh hx
   have Hr1:=lh hr1e;have Hr2:=lh hr2e
   obtain ⟨q,hq⟩:∃ q,q=p+1:=⟨_,rfl⟩
   have hi:(((p+2:Nat):Int)-1)=(q:Int):=by omega
   rw [hi]
   rw [<- hq] at e1
   have hw:IntKind.i64.wrap ((q:Int)-1)=(p:Int):=by rw [IntWalk.i64_in _ (by omega)];omega
   have hq0:(0:Int) < (q:Int):=by omega
   have hq00:(0:Int)<=(q:Int):=by omega
   have hqn:(q:Int) < (rows.length:Int):=by omega
   have hpp:(0:Int)<=(p:Int):=by omega
   have hpn:(p:Int) < (rows.length:Int):=by omega
   have g1:=TW.cell e1
   have g2:=TW.cell e2
   have Hq:=lh hq
   clear hcv hno hx hr1e hr2e hi hq e1 e2 hr1 hr2 hv1 hv2 hbd
   by_cases hx0:x < 0
   ·have Hf:=lh (Hno.out hx0)
    go_wp2
    refine wp_region_tw wr (Touch.refl _ _) (by kernel_rfl) (by kernel_rfl) ?_
    repeat (go_big_quiet_step (((go_at_call 81;exact Calls.tw _ (Hcv.out _ (TW.t _))))))
    refine wpQuiet_nil ?_
    rintro _ ⟨x2,rfl⟩
    go_wp2
    go_ret
    exact ⟨ret_bool (by rw [Hf.out]),ht.trans0 x2.t⟩
   ·have Hg:=lh (show ∀ p' (hp:p'+1 < rows.length),q<=p'+1->0<=cmpRV (rows[p'+1]) (rows[p']) from fun p' hp h=>by
     by_cases he:p+2<=p'+1
     ·exact Hs.out p' hp he
     ·obtain rfl:p'=p:=by have:=Hq.out;omega
      rw [<- Hr1.out,<- Hr2.out,<- Hx.out];omega)
    go_wp2
    refine wp_region_tw wr (Touch.refl _ _) (by kernel_rfl) (by kernel_rfl) ?_
    repeat (go_big_quiet_step (((go_at_call 81;exact Calls.tw _ (Hcv.out _ (TW.t _))))))
    refine wpQuiet_nil ?_
    rintro _ ⟨x2,rfl⟩
    go_wp2
    go_roundw
    case rel=>exact ⟨q,by omega,by have:=Hq.out;first | omega | (congr 1;omega),Hg,ht.trans0 x2.t⟩
    case measure=>simp [intOf];have:=Hq.out;omega
  ·have Hf:=lh (show sortedV rows=true from sorted_yes fun p hp=>Hs.out p hp (by omega))
   have hle:¬ (0:Int) < (j:Int)-1:=by omega
   go_wp2
   go_ret
   exact ⟨ret_bool (by rw [Hf.out]),ht⟩
theorem checkT_any (SA:Option Addr) (cap n:Nat) (cs:List CD) (hn:cs.length=n) (hok:∀ c∈cs,c.Ok) (A:Option Addr) (c m:Nat) (rows:List (List VD)) (hm:rows.length=m) (hvk:RowsOk rows) (w:World)
  (h:ColsAt w SA cs) (hv:RowsAt w A rows) (hl:n<=140737000000000) (hl2:m<=140737000000000) :
  Calls Tryz.prog 50 #[.agg #[.slice SA n cap,.slice A m c]] w fun e w'=>e=.returned (.int .i64 (checkT cs rows))/\Touch [] w w':=by
 have t0:=(Touch.refl [] w).alloc (.cells #[.slice SA n cap,.slice A m c] 27)
 have hb0:=heap_alloc_new w (.cells #[.slice SA n cap,.slice A m c] 27)
 have Hf:=lh (fit_any SA cap n cs hn hok A c m rows hm hvk _ (h.touch0 t0) (hv.touch0 t0) hl hl2)
 have Hs:=lh fun w' (t:Touch [] w w')=>isSorted_any A c m rows hm hvk w' (hv.touch0 t) hl2
 have Hct:=lh (show checkT cs rows=if fitV cs rows=0 then (if sortedV rows=true then 0 else 20) else fitV cs rows from rfl)
 obtain ⟨k,hk⟩:∃ k,k=fitV cs rows:=⟨_,rfl⟩
 rw [<- hk] at Hf Hct
 have Hb0:=lh hb0
 clear hb0 hk
 by_cases h0:k=0
 ·subst h0
  obtain ⟨b,hb⟩:∃ b,b=sortedV rows:=⟨_,rfl⟩
  rw [<- hb] at Hs Hct
  clear hb
  cases b
  ·have Hq:=lh (show checkT cs rows=20 from Hct.out)
   go_enter Tryz.func50,Tryz.ntmps50
   go_wp2_with fail
   refine Hf.out.mono ?_
   rintro e w1 ⟨rfl,t1⟩
   have e1:=t1.cell (cell_blk Hb0.out (i:=1) rfl) (by simp)
   go_wp2_with fail
   refine (Hs.out _ (t0.trans0 t1)).mono ?_
   rintro e w2 ⟨rfl,t2⟩
   go_wp2
   go_ret
   exact ⟨ret_int Hq.out.symm,(t0.trans0 t1).trans0 t2⟩
  ·have Hq:=lh (show checkT cs rows=0 from Hct.out)
   go_enter Tryz.func50,Tryz.ntmps50
   go_wp2_with fail
   refine Hf.out.mono ?_
   rintro e w1 ⟨rfl,t1⟩
   have e1:=t1.cell (cell_blk Hb0.out (i:=1) rfl) (by simp)
   go_wp2_with fail
   refine (Hs.out _ (t0.trans0 t1)).mono ?_
   rintro e w2 ⟨rfl,t2⟩
   go_wp2
   go_ret
   exact ⟨ret_int Hq.out.symm,(t0.trans0 t1).trans0 t2⟩
 ·have Hq:=lh (show checkT cs rows=k by rw [Hct.out,if_neg h0])
  have hq:(k==0)=false:=by rw [beq_eq_false_iff_ne];exact h0
  have hq':(k != 0)=true:=by rw [bne,hq];rfl
  go_enter Tryz.func50,Tryz.ntmps50
  go_wp2_with fail
  refine Hf.out.mono ?_
  rintro e w1 ⟨rfl,t1⟩
  go_wp2
  go_ret
  exact ⟨ret_int Hq.out.symm,t0.trans0 t1⟩
end
section
open Go.RowKit
theorem RdK.cells {α:Type} {enc:α->List Value} {w:World} {A:Option Addr} {xs:List α} (h:RdK enc w A xs) (k:Nat) (hk:∀ x,(enc x).length=k) (h0:0 < k) (i:Nat) (hi:i < xs.length) :
  ∃ ad b off,A=some ad/\ad.add (i*k)=⟨b,off,none⟩/\∀ j u,(enc xs[i])[j]?=some u->w.cell? ⟨b,off+j,none⟩=some u:=by
 obtain ⟨ad,b,off,e1,e2,_,e3⟩:=RdK.at_ h k hk h0 i hi
 exact ⟨ad,b,off,e1,e2,e3⟩
structure TabAt (w:World) (s r:SL) (cs:List CD) (rows:List (List VD)):Prop where
 n:s.n=cs.length
 le:s.n<=s.c
 cols:ColsAt w s.A cs
 m:r.n=rows.length
 rws:RowsAt w r.A rows
theorem TabAt.touch0 {w w':World} {s r:SL} {cs:List CD} {rows:List (List VD)} (h:TabAt w s r cs rows) (ht:Touch [] w w'):TabAt w' s r cs rows:=⟨h.n,h.le,h.cols.touch0 ht,h.m,h.rws.touch0 ht⟩
structure SrcD where
 name:ByteArray
 cs:List CD
 rows:List (List VD)
structure SrcC where
 name:ByteArray
 s:SL
 r:SL
def srE (x:SrcC):List Value:=[.string x.name,.slice x.s.A x.s.n x.s.c,.slice x.r.A x.r.n x.r.c]
theorem srE_length (x:SrcC):(srE x).length=3:=rfl
def SrcAt (w:World) (x:SrcC) (d:SrcD):Prop:=x.name=d.name/\TabAt w x.s x.r d.cs d.rows
def SrcsAt (w:World) (I:Option Addr) (l:List SrcD):Prop:=∃ xs:List SrcC,xs.length=l.length/\RdK srE w I xs/\∀ i (h1:i < xs.length) (h2:i < l.length),SrcAt w xs[i] l[i]
theorem SrcsAt.touch0 {w w':World} {I:Option Addr} {l:List SrcD} (h:SrcsAt w I l) (ht:Touch [] w w'):SrcsAt w' I l:=by
 obtain ⟨xs,h1,h2,h3⟩:=h
 exact ⟨xs,h1,RdK.touch0 h2 ht,fun i a b=>⟨(h3 i a b).1,(h3 i a b).2.touch0 ht⟩⟩
theorem SrcsAt.at_ {w:World} {I:Option Addr} {l:List SrcD} (h:SrcsAt w I l) (i:Nat) (hi:i < l.length) :
  ∃ ad b off s r,I=some ad/\ad.add (i*3)=⟨b,off,none⟩/\w.cell? ⟨b,off,none⟩=some (.string l[i].name)/\w.cell? ⟨b,off+1,none⟩=some (.slice s.A s.n s.c)/\w.cell? ⟨b,off+2,none⟩=some (.slice r.A r.n r.c)/\TabAt w s r l[i].cs l[i].rows:=by
 obtain ⟨xs,h1,h2,h3⟩:=h
 obtain ⟨ad,b,off,e1,e2,e3⟩:=RdK.cells h2 3 srE_length (by omega) i (by omega)
 have:=h3 i (by omega) hi
 exact ⟨ad,b,off,xs[i].s,xs[i].r,e1,e2,by rw [<- this.1];exact e3 0 _ rfl,e3 1 _ rfl,e3 2 _ rfl,this.2⟩
structure SrcD.Ok (d:SrcD):Prop where
 cols:∀ c∈d.cs,c.Ok
 n:d.cs.length<=1000000
 rows:RowsOk d.rows
 m:d.rows.length<=1000000
def srcI (l:List SrcD) (s:ByteArray):Option Nat:=l.findIdx? fun d=>decide (d.name=s)
def srcN (l:List SrcD) (s:ByteArray):Int:=match srcI l s with | some k=>(k:Int) | none => -1
theorem srcI_some {l:List SrcD} {s:ByteArray} {k:Nat} (h:k < l.length) (hk:l[k].name=s) (hno:∀ j (hj:j < k),l[j].name≠s):srcI l s=some k:=by
 unfold srcI
 rw [List.findIdx?_eq_some_iff_getElem]
 exact ⟨h,by simpa using hk,fun j hj=>by simpa using hno j hj⟩
theorem srcI_none {l:List SrcD} {s:ByteArray} (hno:∀ j (hj:j < l.length),l[j].name≠s):srcI l s=none:=by
 unfold srcI
 rw [List.findIdx?_eq_none_iff]
 intro c hc
 obtain ⟨j,hj,rfl⟩:=List.mem_iff_getElem.1 hc
 simpa using hno j hj
theorem srcI_lt {l:List SrcD} {s:ByteArray} {k:Nat} (h:srcI l s=some k):k < l.length:=by
 unfold srcI at h
 rw [List.findIdx?_eq_some_iff_getElem] at h
 exact h.1
def btE (s:ByteArray):List Value:=[.string s]
theorem btE_length (s:ByteArray):(btE s).length=1:=rfl
theorem btE_one (s:ByteArray):∀ u∈btE s,u.oneCell'=true:=by
 intro u hu
 simp only [btE,List.mem_cons,List.not_mem_nil,or_false] at hu
 subst hu;rfl
def prE (p:ByteArray × ByteArray):List Value:=[.string p.1,.string p.2]
theorem prE_length (p:ByteArray × ByteArray):(prE p).length=2:=rfl
structure AG where
 op:ByteArray
 col:ByteArray
 name:ByteArray
def agE (a:AG):List Value:=[.string a.op,.string a.col,.string a.name]
theorem agE_length (a:AG):(agE a).length=3:=rfl
def odE (p:ByteArray × Bool):List Value:=[.string p.1,.bool p.2]
theorem odE_length (p:ByteArray × Bool):(odE p).length=2:=rfl
structure PC where
 kind:Int
 name:ByteArray
 args:SL
 cond:XC
 names:SL
 exprs:SL
 on:SL
 aggs:SL
 by_:SL
 count:Int
def pcE (x:PC):List Value:=[.int .i64 x.kind,.string x.name,.slice x.args.A x.args.n x.args.c,.int .i64 x.cond.nd.kind,.string x.cond.nd.name,.int .i64 x.cond.nd.v.kind,.int .i64 x.cond.nd.v.num,.string x.cond.nd.v.text,.string x.cond.nd.op,.slice x.cond.A x.cond.n x.cond.c,
 .slice x.names.A x.names.n x.names.c,.slice x.exprs.A x.exprs.n x.exprs.c,.slice x.on.A x.on.n x.on.c,.slice x.aggs.A x.aggs.n x.aggs.c,.slice x.by_.A x.by_.n x.by_.c,.int .i64 x.count]
theorem pcE_length (x:PC):(pcE x).length=16:=rfl
theorem pcE_one (x:PC):∀ u∈pcE x,u.oneCell'=true:=by
 intro u hu
 simp only [pcE,List.mem_cons,List.not_mem_nil,or_false] at hu
 rcases hu with rfl | rfl | rfl | rfl | rfl | rfl | rfl | rfl | rfl | rfl | rfl | rfl | rfl | rfl | rfl | rfl <;> rfl
def PC.val (x:PC):Value:=.agg #[.int .i64 x.kind,.string x.name,.slice x.args.A x.args.n x.args.c,.int .i64 x.cond.nd.kind,.string x.cond.nd.name,.int .i64 x.cond.nd.v.kind,.int .i64 x.cond.nd.v.num,.string x.cond.nd.v.text,.string x.cond.nd.op,.slice x.cond.A x.cond.n x.cond.c,
 .slice x.names.A x.names.n x.names.c,.slice x.exprs.A x.exprs.n x.exprs.c,.slice x.on.A x.on.n x.on.c,.slice x.aggs.A x.aggs.n x.aggs.c,.slice x.by_.A x.by_.n x.by_.c,.int .i64 x.count]
structure PD (m:Nat) where
 kind:Int
 name:ByteArray
 cond:TX m
 names:List ByteArray
 exprs:List (TX m)
 on:List (ByteArray × ByteArray)
 aggs:List AG
 by_:List (ByteArray × Bool)
 count:Int
structure PlanAt {m:Nat} (w:World) (x:PC) (d:PD m):Prop where
 kind:x.kind=d.kind
 name:x.name=d.name
 cond:ExP xcE anyB m w x.cond d.cond
 nn:x.names.n=d.names.length
 names:RdK btE w x.names.A d.names
 en:x.exprs.n=d.exprs.length
 exprs:ArgsP xcE anyB m w x.exprs.A d.exprs
 on':x.on.n=d.on.length
 on:RdK prE w x.on.A d.on
 an:x.aggs.n=d.aggs.length
 aggs:RdK agE w x.aggs.A d.aggs
 bn:x.by_.n=d.by_.length
 by_:RdK odE w x.by_.A d.by_
 count:x.count=d.count
theorem PlanAt.touch0 {m:Nat} {w w':World} {x:PC} {d:PD m} (h:PlanAt w x d) (ht:Touch [] w w'):PlanAt w' x d :=
 ⟨h.kind,h.name,h.cond.touch0 ht,h.nn,h.names.touch0 ht,h.en,h.exprs.touch0 ht,h.on',h.on.touch0 ht,h.an,h.aggs.touch0 ht,h.bn,h.by_.touch0 ht,h.count⟩
end
section
open Go.RowKit
theorem free_blk {w:World} {g:Nat} {cs:Array Value} {t:TypeId} (h:w.heap[g]?=some (.cells cs t (0,0))) (i:Nat):w.frozen? ⟨g,i,none⟩=false:=by
 simp [World.frozen?,h]
theorem results_cell_two {P:Program} {fn:Func} {p u:Tmp} {ty:TypeId} (h:fn.results=#[.cell p ty,.tmp u]) (tmps:Array Value) (w:World) (g:Nat) (t:TypeId) (cs:Array Value) (fr:Nat × Nat) (d:TypeDesc)
  (hp:tmps.getD p undef=.pointer (some ⟨g,0,none⟩)) (hg:w.heap[g]?=some (.cells cs t fr))
  (hu:P.underlying ty=some d) (hd:(match d with | .struct _ | .array _ _=>true | _=>false)=true) (hi:(P.info? ty).map (·.size)=some cs.size) :
  (results fn tmps).run P w=.ok (.tuple #[.agg cs,tmps.getD u undef]) w:=by
 have hp':tmps[p]?.getD undef=.pointer (some ⟨g,0,none⟩):=by simpa using hp
 simp [results,h,hp',asAddr,run_loadVar_row w g t ty cs fr d hg hu hd hi]
theorem set2 {w:World} {g:Nat} {cs:Array Value} {t:TypeId} (h:w.heap[g]?=some (.cells cs t (0,0))) (hs:cs.size=2) (a b:Value) :
  ((w.setCell ⟨g,0,none⟩ a).setCell ⟨g,1,none⟩ b).heap[g]?=some (.cells #[a,b] t (0,0)):=by
 rw [set_blk (set_blk h 0 a) 1 b]
 obtain ⟨l⟩:=cs
 match l,hs with
 | [x0,x1],_=>rfl
theorem set3 {w:World} {g:Nat} {cs:Array Value} {t:TypeId} (h:w.heap[g]?=some (.cells cs t (0,0))) (hs:cs.size=3) (a b c:Value) :
  (((w.setCell ⟨g,0,none⟩ a).setCell ⟨g,1,none⟩ b).setCell ⟨g,2,none⟩ c).heap[g]?=some (.cells #[a,b,c] t (0,0)):=by
 rw [set_blk (set_blk (set_blk h 0 a) 1 b) 2 c]
 obtain ⟨l⟩:=cs
 match l,hs with
 | [x0,x1,x2],_=>rfl
theorem touch2 (w:World) (g:Nat) (a b:Value):Touch [g] w ((w.setCell ⟨g,0,none⟩ a).setCell ⟨g,1,none⟩ b) :=
 ((Touch.refl [g] w).setCell (p:=⟨g,0,none⟩) (.inl (by simp)) a).setCell (p:=⟨g,1,none⟩) (.inl (by simp)) b
theorem touch3 (w:World) (g:Nat) (a b c:Value):Touch [g] w (((w.setCell ⟨g,0,none⟩ a).setCell ⟨g,1,none⟩ b).setCell ⟨g,2,none⟩ c) :=
 (touch2 w g a b).setCell (p:=⟨g,2,none⟩) (.inl (by simp)) c
theorem blk2 {w:World} {g:Nat} {a b:Value} {t:TypeId} (h:w.heap[g]?=some (.cells #[a,b] t (0,0))):w.cell? ⟨g,0,none⟩=some a/\w.cell? ⟨g,1,none⟩=some b/\w.frozen? ⟨g,0,none⟩=false/\w.frozen? ⟨g,1,none⟩=false :=
 ⟨cell_blk h rfl,cell_blk h rfl,free_blk h 0,free_blk h 1⟩
theorem blk3 {w:World} {g:Nat} {a b c:Value} {t:TypeId} (h:w.heap[g]?=some (.cells #[a,b,c] t (0,0))):w.cell? ⟨g,0,none⟩=some a/\w.cell? ⟨g,1,none⟩=some b/\w.cell? ⟨g,2,none⟩=some c/\w.frozen? ⟨g,0,none⟩=false/\w.frozen? ⟨g,1,none⟩=false/\w.frozen? ⟨g,2,none⟩=false :=
 ⟨cell_blk h rfl,cell_blk h rfl,cell_blk h rfl,free_blk h 0,free_blk h 1,free_blk h 2⟩
theorem blk16 {w:World} {g:Nat} {v0 v1 v2 v3 v4 v5 v6 v7 v8 v9 v10 v11 v12 v13 v14 v15:Value} {t:TypeId} (h:w.heap[g]?=some (.cells #[v0,v1,v2,v3,v4,v5,v6,v7,v8,v9,v10,v11,v12,v13,v14,v15] t (0,0))):w.cell? ⟨g,0,none⟩=some v0/\w.cell? ⟨g,1,none⟩=some v1/\w.cell? ⟨g,2,none⟩=some v2/\w.cell? ⟨g,3,none⟩=some v3/\w.cell? ⟨g,4,none⟩=some v4/\w.cell? ⟨g,5,none⟩=some v5/\w.cell? ⟨g,6,none⟩=some v6/\w.cell? ⟨g,7,none⟩=some v7/\w.cell? ⟨g,8,none⟩=some v8/\w.cell? ⟨g,9,none⟩=some v9/\w.cell? ⟨g,10,none⟩=some v10/\w.cell? ⟨g,11,none⟩=some v11/\w.cell? ⟨g,12,none⟩=some v12/\w.cell? ⟨g,13,none⟩=some v13/\w.cell? ⟨g,14,none⟩=some v14/\w.cell? ⟨g,15,none⟩=some v15 :=
 ⟨cell_blk h rfl,cell_blk h rfl,cell_blk h rfl,cell_blk h rfl,cell_blk h rfl,cell_blk h rfl,cell_blk h rfl,cell_blk h rfl,cell_blk h rfl,cell_blk h rfl,cell_blk h rfl,cell_blk h rfl,cell_blk h rfl,cell_blk h rfl,cell_blk h rfl,cell_blk h rfl⟩
end
section
open Go.RowKit
theorem src1_any (nm:ByteArray) (s1 r1:SL) (B:Nat) (s:ByteArray) (w:World) (hB:w.cell? ⟨B,0,none⟩=some (.string s)) :
  Calls Tryz.prog 87 #[.agg #[.string nm,.slice s1.A s1.n s1.c,.slice r1.A r1.n r1.c],.pointer (some ⟨B,0,none⟩)] w fun e w'=>e=.returned (.bool (decide (nm=s)))/\Touch [] w w':=by
 have hbq:=bs_beq nm s
 have t0:=(Touch.refl [] w).alloc (.cells #[.string nm,.slice s1.A s1.n s1.c,.slice r1.A r1.n r1.c] 36)
 have hlt:B < w.heap.size:=World.block_lt_of_cell? w _ hB
 go_enter Tryz.func87,Tryz.ntmps87
 go_wp2
 all_goals
  go_ret
  exact ⟨rfl,t0⟩
theorem idxSrc_any (I:Option Addr) (cap n:Nat) (l:List SrcD) (hn:l.length=n) (B:Nat) (s:ByteArray) (w:World) (h:SrcsAt w I l) (hB:w.cell? ⟨B,0,none⟩=some (.string s)) (hl:n<=140737000000000) :
  Calls Tryz.prog 86 #[.slice I n cap,.func (.func 87) #[] #[.pointer (some ⟨B,0,none⟩)]] w fun e w' =>
   e=.returned (.int .i64 (srcN l s))/\Touch [] w w':=by
 subst hn
 go_enter Tryz.func86,Tryz.ntmps86
 go_wp2
 go_loopw [8] (fun i wr=>∃ k:Nat,k<=l.length/\i=.int .i64 k/\Hid (∀ j (hj:j < k) (hl:j < l.length),l[j].name≠s)/\Touch [] w wr) (fun i _=>l.length-(intOf i).toNat)
 case atStart=>exact ⟨0,by omega,rfl,lh (fun j hj=>absurd hj (by omega)),Touch.refl _ _⟩
 case round =>
  obtain ⟨k,hk,rfl,Hno,ht⟩:=hrel
  by_cases hlt:k < l.length
  ·obtain ⟨ad,b,off,s1,r1,rfl,hadd,c0,c1,c2,_⟩:=(h.touch0 ht).at_ k hlt
   have hyes:=srcI_some (s:=s) hlt
   obtain ⟨c,hce⟩:∃ c,c=l[k]:=⟨_,rfl⟩
   rw [<- hce] at c0 hyes
   have Hce:=lh hce;have Hyes:=lh hyes
   clear hce hyes
   have hf:=src1_any c.name s1 r1 B s wr (ht.cell hB (by simp))
   by_cases hcs:c.name=s
   ·rw [decide_eq_true hcs] at hf
    have Hf:=lh hf
    have Hp:=lh (Hyes.out hcs (fun j hj=>Hno.out j hj (by omega)))
    clear hf hcs
    go_wp2_with (go_at_call 87;refine Hf.out.mono ?_;rintro e w1 ⟨rfl,t1⟩)
    go_ret
    exact ⟨ret_int (by unfold srcN;rw [Hp.out]),ht.trans0 t1⟩
   ·rw [decide_eq_false hcs] at hf
    have Hf:=lh hf
    have Hcs:=lh hcs
    clear hf hcs
    go_wp2_with (go_at_call 87;refine Hf.out.mono ?_;rintro e w1 ⟨rfl,t1⟩)
    go_roundw
    case rel=>exact ⟨k+1,by omega,by go_num,lh (fun j hj hl=>by
     by_cases hjk:j=k
     ·subst hjk;rw [<- Hce.out];exact Hcs.out
     ·exact Hno.out j (by omega) hl),ht.trans0 t1⟩
    case measure=>simp [intOf];omega
  ·obtain rfl:k=l.length:=by omega
   have Hp:=lh (srcI_none (l:=l) (s:=s) (fun j hj=>Hno.out j hj hj))
   go_wp2
   go_ret
   exact ⟨ret_int (by unfold srcN;rw [Hp.out]),ht⟩
theorem source_no (I:Option Addr) (cap n:Nat) (l:List SrcD) (hn:l.length=n) (s:ByteArray) (w:World) (h:SrcsAt w I l) (hl:n<=140737000000000) (hp:srcI l s=none) :
  Calls Tryz.prog 62 #[.slice I n cap,.string s] w fun e w'=>e=.returned (.tuple #[.agg #[.slice none 0 0,.slice none 0 0],.bool false])/\Touch [] w w':=by
 have t0:=((Touch.refl [] w).alloc (.cells #[.string s] 9)).alloc (.cells #[.slice none 0 0,.slice none 0 0] 27)
 have hb:=(((Touch.refl [] (w.alloc (.cells #[.string s] 9))).alloc (.cells #[.slice none 0 0,.slice none 0 0] 27)).blk (heap_alloc_new w (.cells #[.string s] 9)) (by simp))
 have hr:=heap_alloc_new (w.alloc (.cells #[.string s] 9)) (.cells #[.slice none 0 0,.slice none 0 0] 27)
 rw [World.size_alloc] at hr
 have hi:=idxSrc_any I cap n l hn w.heap.size s _ (h.touch0 t0) (cell_blk hb (i:=0) rfl) hl
 rw [show srcN l s = -1 by unfold srcN;rw [hp]] at hi
 have Hi:=lh hi
 have HR:=lh (And.intro t0 hr)
 clear hi hp hb hr t0
 go_enter Tryz.func62,Tryz.ntmps62
 go_wp2_with fail
 refine Hi.out.mono ?_
 rintro e w1 ⟨rfl,t1⟩
 have hr1:=t1.blk HR.out.2 (by simp)
 obtain ⟨z0,z1,y0,y1⟩:=blk2 hr1
 have HT:=lh (And.intro (HR.out.1.trans0 t1) hr1)
 clear hr1 t1
 go_wp2_with fail
 refine bodyPost_ret (results_cell_two rfl _ _ (w.heap.size+1) _ _ _ _ rfl (set2 HT.out.2 rfl _ _) Tryz.underlying27 rfl rfl) rfl ⟨rfl,HT.out.1.trans (touch2 _ _ _ _) (fun b hb=>.inr (by simp at hb;omega))⟩
theorem source_yes (I:Option Addr) (cap n:Nat) (l:List SrcD) (hn:l.length=n) (s:ByteArray) (w:World) (h:SrcsAt w I l) (hl:n<=140737000000000) (k:Nat) (hk:k < l.length) (hp:srcI l s=some k) :
  Calls Tryz.prog 62 #[.slice I n cap,.string s] w fun e w'=>∃ s1 r1:SL,e=.returned (.tuple #[.agg #[.slice s1.A s1.n s1.c,.slice r1.A r1.n r1.c],.bool true])/\TabAt w' s1 r1 l[k].cs l[k].rows/\Touch [] w w':=by
 have t0:=((Touch.refl [] w).alloc (.cells #[.string s] 9)).alloc (.cells #[.slice none 0 0,.slice none 0 0] 27)
 have hb:=(((Touch.refl [] (w.alloc (.cells #[.string s] 9))).alloc (.cells #[.slice none 0 0,.slice none 0 0] 27)).blk (heap_alloc_new w (.cells #[.string s] 9)) (by simp))
 have hr:=heap_alloc_new (w.alloc (.cells #[.string s] 9)) (.cells #[.slice none 0 0,.slice none 0 0] 27)
 rw [World.size_alloc] at hr
 have hi:=idxSrc_any I cap n l hn w.heap.size s _ (h.touch0 t0) (cell_blk hb (i:=0) rfl) hl
 rw [show srcN l s=(k:Int) by unfold srcN;rw [hp]] at hi
 obtain ⟨ad,b,off,s1,r1,rfl,hadd,c0,c1,c2,hT⟩:=h.at_ k hk
 have hkn:(k:Int) < (n:Int):=by omega
 have hk0:((k:Int) < 0)=False:=by simp
 have Hi:=lh hi
 have HR:=lh (And.intro t0 (And.intro hr (And.intro hT (And.intro c1 c2))))
 clear hi hp hb hr t0 hT c0 c1 c2
 go_enter Tryz.func62,Tryz.ntmps62
 go_wp2_with fail
 refine Hi.out.mono ?_
 rintro e w1 ⟨rfl,t1⟩
 have hr1:=t1.blk HR.out.2.1 (by simp)
 obtain ⟨z0,z1,y0,y1⟩:=blk2 hr1
 have T1:=HR.out.1.trans0 t1
 have d1:=T1.cell HR.out.2.2.2.1 (by simp)
 have d2:=T1.cell HR.out.2.2.2.2 (by simp)
 have HT:=lh (And.intro T1 hr1)
 clear hr1 t1 T1
 go_wp2_with fail
 refine bodyPost_ret (results_cell_two rfl _ _ (w.heap.size+1) _ _ _ _ rfl (set2 HT.out.2 rfl _ _) Tryz.underlying27 rfl rfl) rfl ⟨s1,r1,rfl, ?_, ?_⟩
 ·exact HR.out.2.2.1.touch0 (HT.out.1.trans (touch2 _ _ _ _) (fun b hb=>.inr (by simp at hb;omega)))
 ·exact HT.out.1.trans (touch2 _ _ _ _) (fun b hb=>.inr (by simp at hb;omega))
end
section
open Go.RowKit
def placeV (cs:List CD) (s:ByteArray):Option Nat:=cs.findIdx? fun c=>decide (c.name=s)
def placeI (cs:List CD) (s:ByteArray):Int:=match placeV cs s with | some k=>(k:Int) | none => -1
theorem placeV_some {cs:List CD} {s:ByteArray} {k:Nat} (h:k < cs.length) (hk:cs[k].name=s) (hno:∀ j (hj:j < k),cs[j].name≠s):placeV cs s=some k:=by
 unfold placeV
 rw [List.findIdx?_eq_some_iff_getElem]
 exact ⟨h,by simpa using hk,fun j hj=>by simpa using hno j hj⟩
theorem placeV_none {cs:List CD} {s:ByteArray} (hno:∀ j (hj:j < cs.length),cs[j].name≠s):placeV cs s=none:=by
 unfold placeV
 rw [List.findIdx?_eq_none_iff]
 intro c hc
 obtain ⟨j,hj,rfl⟩:=List.mem_iff_getElem.1 hc
 simpa using hno j hj
theorem placeV_lt {cs:List CD} {s:ByteArray} {k:Nat} (h:placeV cs s=some k):k < cs.length:=by
 unfold placeV at h
 rw [List.findIdx?_eq_some_iff_getElem] at h
 exact h.1
theorem find1_any (c:CD) (B:Nat) (s:ByteArray) (w:World) (hB:w.cell? ⟨B,0,none⟩=some (.string s)) :
  Calls Tryz.prog 166 #[.agg #[.string c.name,.int .i64 c.typ],.pointer (some ⟨B,0,none⟩)] w fun e w'=>e=.returned (.bool (decide (c.name=s)))/\Touch [] w w':=by
 have hbq:=bs_beq c.name s
 have t0:=(Touch.refl [] w).alloc (.cells #[.string c.name,.int .i64 c.typ] 29)
 have hlt:B < w.heap.size:=World.block_lt_of_cell? w _ hB
 go_enter Tryz.func166,Tryz.ntmps166
 go_wp2
 all_goals
  go_ret
  exact ⟨rfl,t0⟩
theorem indexFunc_any (A:Option Addr) (cap n:Nat) (cs:List CD) (hn:cs.length=n) (B:Nat) (s:ByteArray) (w:World) (h:ColsAt w A cs) (hB:w.cell? ⟨B,0,none⟩=some (.string s)) (hl:n<=140737000000000) :
  Calls Tryz.prog 165 #[.slice A n cap,.func (.func 166) #[] #[.pointer (some ⟨B,0,none⟩)]] w fun e w' =>
   e=.returned (.int .i64 (placeI cs s))/\Touch [] w w':=by
 subst hn
 go_enter Tryz.func165,Tryz.ntmps165
 go_wp2
 go_loopw [8] (fun i wr=>∃ k:Nat,k<=cs.length/\i=.int .i64 k/\Hid (∀ j (hj:j < k) (hl:j < cs.length),cs[j].name≠s)/\Touch [] w wr) (fun i _=>cs.length-(intOf i).toNat)
 case atStart=>exact ⟨0,by omega,rfl,lh (fun j hj=>absurd hj (by omega)),Touch.refl _ _⟩
 case round =>
  obtain ⟨k,hk,rfl,Hno,ht⟩:=hrel
  by_cases hlt:k < cs.length
  ·obtain ⟨ad,b,off,rfl,hadd,c0,c1⟩:=(h.touch0 ht).at_ k hlt
   have hyes:=placeV_some (s:=s) hlt
   obtain ⟨c,hce⟩:∃ c,c=cs[k]:=⟨_,rfl⟩
   rw [<- hce] at c0 c1 hyes
   have Hce:=lh hce;have Hyes:=lh hyes
   clear hce hyes
   have hf:=find1_any c B s wr (ht.cell hB (by simp))
   by_cases hcs:c.name=s
   ·rw [decide_eq_true hcs] at hf
    have Hf:=lh hf
    have Hp:=lh (Hyes.out hcs (fun j hj=>Hno.out j hj (by omega)))
    clear hf hcs
    go_wp2_with (go_at_call 166;refine Hf.out.mono ?_;rintro e w1 ⟨rfl,t1⟩)
    go_ret
    exact ⟨ret_int (by unfold placeI;rw [Hp.out]),ht.trans0 t1⟩
   ·rw [decide_eq_false hcs] at hf
    have Hf:=lh hf
    have Hcs:=lh hcs
    clear hf hcs
    go_wp2_with (go_at_call 166;refine Hf.out.mono ?_;rintro e w1 ⟨rfl,t1⟩)
    go_roundw
    case rel=>exact ⟨k+1,by omega,by go_num,lh (fun j hj hl=>by
     by_cases hjk:j=k
     ·subst hjk;rw [<- Hce.out];exact Hcs.out
     ·exact Hno.out j (by omega) hl),ht.trans0 t1⟩
    case measure=>simp [intOf];omega
  ·obtain rfl:k=cs.length:=by omega
   have Hp:=lh (placeV_none (cs:=cs) (s:=s) (fun j hj=>Hno.out j hj hj))
   go_wp2
   go_ret
   exact ⟨ret_int (by unfold placeI;rw [Hp.out]),ht⟩
theorem findC_any (A:Option Addr) (cap n:Nat) (cs:List CD) (hn:cs.length=n) (s:ByteArray) (w:World) (h:ColsAt w A cs) (hl:n<=140737000000000) :
  Calls Tryz.prog 130 #[.slice A n cap,.string s] w fun e w' =>
   e=.returned (.tuple #[.int .i64 (((placeV cs s).getD 0:Nat):Int),.bool (placeV cs s).isSome])/\Touch [] w w':=by
 subst hn
 have t0:=(Touch.refl [] w).alloc (.cells #[.string s] 9)
 have hb:=heap_alloc_new w (.cells #[.string s] 9)
 have hi:=indexFunc_any A cap cs.length cs rfl w.heap.size s _ (h.touch0 t0) (cell_blk hb (i:=0) rfl) hl
 rcases hp:placeV cs s with _ | k
 ·rw [show placeI cs s = -1 by unfold placeI;rw [hp]] at hi
  have Hi:=lh hi
  clear hi hp hb
  go_enter Tryz.func130,Tryz.ntmps130
  go_wp2_with (go_at_call 165;refine Hi.out.mono ?_;rintro e w1 ⟨rfl,t1⟩)
  go_ret2
  exact ⟨rfl,t0.trans0 t1⟩
 ·rw [show placeI cs s=(k:Int) by unfold placeI;rw [hp]] at hi
  have hkl:=placeV_lt hp
  have Hi:=lh hi
  clear hi hp hb
  have hmx:max (k:Int) 0=k:=by omega
  have hk0:(0:Int)<=k:=by omega
  go_enter Tryz.func130,Tryz.ntmps130
  go_wp2_with (go_at_call 165;refine Hi.out.mono ?_;rintro e w1 ⟨rfl,t1⟩)
  go_ret2
  exact ⟨rfl,t0.trans0 t1⟩
end
end Go.Proofs.YtafoklilkdnepaaGreatDoor
