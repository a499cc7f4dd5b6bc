/- Part 2 of the texts of this proof, one behind the other. No condition beyond those that its theorems state. -/
import Derived.Test.YtafoklilkdnepaaGreatDoorRi1
import Derived.StillTailTactics
import Derived.Lib.IndexMore
import Derived.Lib.Join
import Derived.Maps.OwnSet
import Derived.Deep.QuietTactic
import Derived.BigQuiet
set_option maxRecDepth 40000
set_option maxHeartbeats 25600000
namespace Go.Proofs.YtafoklilkdnepaaGreatDoor
section
open Go.RowKit
def orV:List Int->Int
 | []=>0
 | x :: r=>if x=0 then orV r else x
def cmpVV (a b:VD):Int:=orV [Lib.compareInt a.kind b.kind,Lib.compareInt a.num b.num,Lib.compareBytes a.text.data.toList b.text.data.toList]
def cmpRV:List VD->List VD->Int
 | [],[]=>0
 | [],_ :: _ => -1
 | _ :: _,[]=>1
 | a :: l,b :: r=>if cmpVV a b=0 then cmpRV l r else cmpVV a b
theorem compareInt_neg (x y:Int):Lib.compareInt y x = -Lib.compareInt x y:=by
 unfold Lib.compareInt
 split <;> split <;> (try split) <;> omega
theorem compareInt_b (x y:Int) : -1<=Lib.compareInt x y/\Lib.compareInt x y<=1:=by
 unfold Lib.compareInt
 split <;> (try split) <;> omega
theorem compareBytes_neg:∀ (x y:List UInt8),Lib.compareBytes y x = -Lib.compareBytes x y
 | [],[]=>rfl
 | [],_ :: _=>rfl
 | _ :: _,[]=>rfl
 | a :: l,b :: r=>by
  unfold Lib.compareBytes
  by_cases h1:a < b
  ·have h2:¬ b < a:=by rw [UInt8.lt_iff_toNat_lt] at h1 ⊢;omega
   rw [if_neg h2,if_pos h1,if_pos h1];rfl
  ·by_cases h2:b < a
   ·rw [if_pos h2,if_neg h1,if_pos h2]
   ·rw [if_neg h2,if_neg h1,if_neg h1,if_neg h2];exact compareBytes_neg l r
theorem compareBytes_b:∀ (x y:List UInt8), -1<=Lib.compareBytes x y/\Lib.compareBytes x y<=1
 | [],[]=>⟨by decide,by decide⟩
 | [],_ :: _=>⟨Int.le_refl (-1),show (-1:Int)<=1 by decide⟩
 | _ :: _,[]=>⟨show (-1:Int)<=1 by decide,Int.le_refl 1⟩
 | a :: l,b :: r=>by
  unfold Lib.compareBytes
  split
  ·omega
  ·split
   ·omega
   ·exact compareBytes_b l r
theorem cmpVV_neg (a b:VD):cmpVV b a = -cmpVV a b:=by
 unfold cmpVV
 rw [compareInt_neg a.kind,compareInt_neg a.num,compareBytes_neg a.text.data.toList]
 generalize Lib.compareInt a.kind b.kind=x
 generalize Lib.compareInt a.num b.num=y
 generalize Lib.compareBytes a.text.data.toList b.text.data.toList=z
 simp only [orV]
 by_cases h1:x=0 <;> by_cases h2:y=0 <;> by_cases h3:z=0 <;> simp [h1,h2,h3]
theorem cmpVV_b (a b:VD) : -1<=cmpVV a b/\cmpVV a b<=1:=by
 have h1:=compareInt_b a.kind b.kind
 have h2:=compareInt_b a.num b.num
 have h3:=compareBytes_b a.text.data.toList b.text.data.toList
 unfold cmpVV
 simp only [orV]
 split
 ·split
  ·split <;> omega
  ·omega
 ·omega
theorem cmpRV_neg:∀ (l r:List VD),cmpRV r l = -cmpRV l r
 | [],[]=>rfl
 | [],_ :: _=>rfl
 | _ :: _,[]=>rfl
 | a :: l,b :: r=>by
  unfold cmpRV
  rw [cmpVV_neg a b]
  by_cases h:cmpVV a b=0
  ·rw [if_pos (by omega),if_pos h];exact cmpRV_neg l r
  ·rw [if_neg (by omega),if_neg h]
theorem cmpRV_b:∀ (l r:List VD), -1<=cmpRV l r/\cmpRV l r<=1
 | [],[]=>⟨by decide,by decide⟩
 | [],_ :: _=>⟨Int.le_refl (-1),show (-1:Int)<=1 by decide⟩
 | _ :: _,[]=>⟨show (-1:Int)<=1 by decide,Int.le_refl 1⟩
 | a :: l,b :: r=>by
  unfold cmpRV
  split
  ·exact cmpRV_b l r
  ·exact cmpVV_b a b
theorem or_any (A:Option Addr) (cap n:Nat) (l:List Int) (hn:l.length=n) (w:World) (h:RdK inE w A l) (hl:n<=140737000000000) :
  Calls Tryz.prog 155 #[.slice A n cap] w fun e w'=>e=.returned (.int .i64 (orV l))/\w'=w:=by
 subst hn
 go_enter Tryz.func155,Tryz.ntmps155
 go_wp2
 go_loopw [8] (fun i wr=>∃ k:Nat,k<=l.length/\i=.int .i64 k/\Hid (orV l=orV (l.drop k))/\wr=w) (fun i _=>l.length-(intOf i).toNat)
 case atStart=>exact ⟨0,by omega,rfl,lh rfl,rfl⟩
 case round =>
  obtain ⟨k,hk,rfl,Ho,rfl⟩:=hrel
  by_cases hlt:k < l.length
  ·obtain ⟨ad,rfl,c0⟩:=RdKI.at_ h k hlt
   have hst:orV (l.drop k)=if l[k]=0 then orV (l.drop (k+1)) else l[k]:=by rw [List.drop_eq_getElem_cons hlt];rfl
   obtain ⟨x,hx⟩:∃ x,x=l[k]:=⟨_,rfl⟩
   rw [<- hx] at hst c0
   have Hst:=lh hst
   clear hst hx
   by_cases h0:x=0
   ·subst h0
    have Hq:=lh (show orV l=orV (l.drop (k+1)) by rw [Ho.out,Hst.out,if_pos rfl])
    go_wp2
    go_roundw
    case rel=>exact ⟨k+1,by omega,by go_num,Hq,trivial⟩
    case measure=>simp [intOf];omega
   ·have Hq:=lh (show orV l=x by rw [Ho.out,Hst.out,if_neg h0])
    have hq:(x==0)=false:=by rw [beq_eq_false_iff_ne];exact h0
    have hq':(x != 0)=true:=by rw [bne,hq];rfl
    go_wp2
    go_ret
    exact ⟨ret_int Hq.out.symm,rfl⟩
  ·obtain rfl:k=l.length:=by omega
   have Hq:=lh (show orV l=0 by rw [Ho.out,List.drop_length];rfl)
   go_wp2
   go_ret
   exact ⟨ret_int Hq.out.symm,rfl⟩
theorem wp_still_tail' {P:Program} {id:Nat} {Q:Exit->Act->World->Prop} {a:Act} {w:World} {l:List Oper} (n:Nat) (hm:P.follows .mixedOrders=true) (hB:Region.lexTailB .any l.toArray n=true)
  (h:∀ w2,w2=w.drew->wpStill P l.toArray w2 (fun a'=>wpList P l.toArray Q (l.drop n) a' w2) (l.take n) a):(Code.region id l.toArray true).wp P Q a w :=
 wp_region_still_tail n hm hB (h _ rfl)
theorem cmpVal_any (a b:VD) (w:World) :
  Calls Tryz.prog 112 #[a.val,b.val] w fun e w'=>e=.returned (.int .i64 (cmpVV a b))/\Touch [] w w':=by
 obtain ⟨k1,n1,s1⟩:=a
 obtain ⟨k2,n2,s2⟩:=b
 have h1:=fun w'=>Tryz.cmp_Compare_int k1 k2 w'
 have h2:=fun w'=>Tryz.cmp_Compare_int n1 n2 w'
 have h3:=fun w'=>Tryz.strings_Compare s1 s2 w'
 have hc:cmpVV ⟨k1,n1,s1⟩ ⟨k2,n2,s2⟩=orV [Lib.compareInt k1 k2,Lib.compareInt n1 n2,Lib.compareBytes s1.data.toList s2.data.toList]:=rfl
 rw [hc]
 obtain ⟨x,hx⟩:∃ x,x=Lib.compareInt k1 k2:=⟨_,rfl⟩
 obtain ⟨y,hy⟩:∃ y,y=Lib.compareInt n1 n2:=⟨_,rfl⟩
 obtain ⟨z,hz⟩:∃ z,z=Lib.compareBytes s1.data.toList s2.data.toList:=⟨_,rfl⟩
 rw [<- hx,<- hy,<- hz]
 rw [<- hx] at h1
 rw [<- hy] at h2
 rw [<- hz] at h3
 have H1:=lh h1;have H2:=lh h2;have H3:=lh h3
 have t0:=(((Touch.refl [] w).alloc (.cells #[.int .i64 k1,.int .i64 n1,.string s1] 31)).alloc (.cells #[.int .i64 k2,.int .i64 n2,.string s2] 31))
 clear h1 h2 h3 hx hy hz hc
 dsimp only [VD.val]
 go_enter Tryz.func112,Tryz.ntmps112
 go_wp2_with fail
 refine wp_still_tail' 15 (by kernel_rfl) (by kernel_rfl) ?_
 intro w2 hw2
 have ta:=(((Touch.refl [] (w.alloc (.cells #[.int .i64 k1,.int .i64 n1,.string s1] 31))).alloc (.cells #[.int .i64 k2,.int .i64 n2,.string s2] 31))).drew
 have tb:=((Touch.refl [] ((w.alloc (.cells #[.int .i64 k1,.int .i64 n1,.string s1] 31)).alloc (.cells #[.int .i64 k2,.int .i64 n2,.string s2] 31)))).drew
 have t2:=t0.drew
 rw [<- hw2] at ta tb t2
 have hb1:=heap_alloc_new w (.cells #[.int .i64 k1,.int .i64 n1,.string s1] 31)
 have hb2:=heap_alloc_new (w.alloc (.cells #[.int .i64 k1,.int .i64 n1,.string s1] 31)) (.cells #[.int .i64 k2,.int .i64 n2,.string s2] 31)
 rw [World.size_alloc] at hb2
 have e0:=ta.cell (cell_blk hb1 (i:=0) rfl) (by simp)
 have e1:=ta.cell (cell_blk hb1 (i:=1) rfl) (by simp)
 have e2:=ta.cell (cell_blk hb1 (i:=2) rfl) (by simp)
 have f0:=tb.cell (cell_blk hb2 (i:=0) rfl) (by simp)
 have f1:=tb.cell (cell_blk hb2 (i:=1) rfl) (by simp)
 have f2:=tb.cell (cell_blk hb2 (i:=2) rfl) (by simp)
 clear hb1 hb2 ta tb t0 hw2
 simp only [List.take_succ_cons,List.take_zero,List.drop_succ_cons,List.drop_zero]
 repeat still_step
 still_call (H1.out _)
 repeat still_step
 still_call (H2.out _)
 repeat still_step
 still_call (H3.out _)
 refine wpStill_nil ?_
 have r3:RdK inE (w2.alloc (.cells #[.int .i64 x,.int .i64 y,.int .i64 z] 3)) (some ⟨w2.heap.size,0,none⟩) [x,y,z]:=RdK.row w2 3 [x,y,z] _ rfl
 go_wp2_with fail
 refine (or_any _ 3 3 [x,y,z] rfl _ r3 (by omega)).mono ?_
 rintro e w3 ⟨rfl,rfl⟩
 go_wp2
 go_ret
 exact ⟨rfl,t2.alloc _⟩
end
section
structure CD where
 name:ByteArray
 typ:Int
def letB (c:UInt8):Bool:=decide (97<=c.toNat)&&decide (c.toNat<=122)
def innB (c:UInt8):Bool:=letB c||(decide (c.toNat=95)||(decide (48<=c.toNat)&&decide (c.toNat<=57)))
def nameV (s:List UInt8):Bool:=match s with
 | []=>false
 | c :: _=>decide (s.length<=16)&&(letB c&&s.all innB)
def errC (pre:List CD) (c:CD):Int :=
 if nameV c.name.data.toList=false then 13 else if c.typ≠1/\c.typ≠2 then 12 else if (pre.any fun d=>decide (d.name=c.name))=true then 14 else 0
def chkL (pre:List CD):List CD->Int
 | []=>0
 | c :: r=>if errC pre c=0 then chkL (pre++[c]) r else errC pre c
def checkV (cs:List CD):Int:=if cs.length < 1\/16 < cs.length then 31 else chkL [] cs
theorem chk_step {cs:List CD} {k:Nat} (h:k < cs.length):chkL (cs.take k) (cs.drop k)=if errC (cs.take k) cs[k]=0 then chkL (cs.take (k+1)) (cs.drop (k+1)) else errC (cs.take k) cs[k]:=by
 rw [List.drop_eq_getElem_cons h]
 show (if _ then _ else _)=_
 rw [List.take_succ_eq_append_getElem h]
theorem chk_zero {cs:List CD} {k:Nat} (h:chkL (cs.take k) (cs.drop k)=0) (j:Nat) (h1:k<=j) (h2:j < cs.length):errC (cs.take j) cs[j]=0:=by
 have hk:k < cs.length:=by omega
 rw [chk_step hk] at h
 by_cases he:errC (cs.take k) cs[k]=0
 ·rw [if_pos he] at h
  by_cases hj:j=k
  ·subst hj;exact he
  ·exact chk_zero h j (by omega) h2
 ·rw [if_neg he] at h;exact absurd h he
termination_by cs.length-k
theorem errC_zero {pre:List CD} {c:CD} (h:errC pre c=0):nameV c.name.data.toList=true/\(c.typ=1\/c.typ=2)/\∀ d∈pre,d.name≠c.name:=by
 unfold errC at h
 split at h
 ·cases h
 ·rename_i h1
  split at h
  ·cases h
  ·rename_i h2
   split at h
   ·cases h
   ·rename_i h3
    refine ⟨by simpa using h1,by omega,fun d hd he=>h3 ?_⟩
    rw [List.any_eq_true]
    exact ⟨d,hd,by simpa using he⟩
theorem check_zero {cs:List CD} (h:checkV cs=0):1<=cs.length/\cs.length<=16/\∀ j (hj:j < cs.length),nameV cs[j].name.data.toList=true/\(cs[j].typ=1\/cs[j].typ=2):=by
 unfold checkV at h
 split at h
 ·cases h
 ·refine ⟨by omega,by omega,fun j hj => ?_⟩
  have:=errC_zero (chk_zero (cs:=cs) (k:=0) (by simpa using h) j (by omega) hj)
  exact ⟨this.1,this.2.1⟩
end
section
open Go.RowKit
theorem S_get (t:List UInt8) (k:Nat) (h:k < (S t).size):(S t)[k]=t[k]'(by rwa [S_size] at h):=rfl
theorem letter_any (x:UInt8) (w:World):Calls Tryz.prog 104 #[.int .u8 x.toNat] w fun e w'=>e=.returned (.bool (letB x))/\w=w':=by
 have hx:=x.toNat_lt
 go_enter Tryz.func104,Tryz.ntmps104
 go_wp2
 all_goals
  go_ret
  exact ⟨ret_bool (by rw [Bool.eq_iff_iff];simp [letB];omega),rfl⟩
theorem inner_any (x:UInt8) (w:World):Calls Tryz.prog 105 #[.int .u8 x.toNat] w fun e w'=>e=.returned (.bool (innB x))/\w=w':=by
 have hx:=x.toNat_lt
 rcases hl:letB x with _ | _
 ·have hc:=letter_any x w
  rw [hl] at hc
  have Hc:=lh hc;have Hl:=lh hl;clear hc hl
  go_enter Tryz.func105,Tryz.ntmps105
  go_wp2_with (go_at_call 104;refine Hc.out.mono ?_;rintro e w' ⟨rfl,rfl⟩)
  all_goals
   go_ret
   exact ⟨ret_bool (by rw [Bool.eq_iff_iff];simp [innB,Hl.out];omega),rfl⟩
 ·have hc:=letter_any x w
  rw [hl] at hc
  have Hc:=lh hc;have Hl:=lh hl;clear hc hl
  go_enter Tryz.func105,Tryz.ntmps105
  go_wp2_with (go_at_call 104;refine Hc.out.mono ?_;rintro e w' ⟨rfl,rfl⟩)
  all_goals
   go_ret
   exact ⟨ret_bool (by rw [Bool.eq_iff_iff];simp [innB,Hl.out]),rfl⟩
theorem nameV_cons (c:UInt8) (r:List UInt8):nameV (c :: r)=(decide ((c :: r).length<=16)&&(letB c&&(c :: r).all innB)):=rfl
theorem nameV_bad {t:List UInt8} {k:Nat} (h:k < t.length) (hb:innB t[k]=false):nameV t=false:=by
 cases t with
 | nil=>rfl
 | cons c r =>
  have:(c :: r).all innB=false:=by
   rw [List.all_eq_false]
   exact ⟨_,List.getElem_mem h,by rw [hb];simp⟩
  rw [nameV_cons,this,Bool.and_false,Bool.and_false]
theorem name_any (t:List UInt8) (hs:t.length<=140737000000000) (w:World) :
  Calls Tryz.prog 71 #[.string (S t)] w fun e w'=>e=.returned (.bool (nameV t))/\Touch [] w w':=by
 have hsz:=S_size t
 by_cases h0:t=[]
 ·subst h0
  go_enter Tryz.func71,Tryz.ntmps71
  have h1:(S []).toList=[]:=by rw [S_list]
  go_wp2
  go_ret
  exact ⟨rfl,Touch.refl _ _⟩
 ·have hl0:0 < t.length:=List.length_pos_iff.2 h0
  have hq:(S t).toList.isEmpty=false:=by rw [S_list];cases t;exact absurd rfl h0;rfl
  have hq2:((S t).toList==[])=false:=by rw [S_list];cases t;exact absurd rfl h0;rfl
  have hq3:((S t).toList=[])=False:=eq_false (by rw [S_list];exact h0)
  by_cases h16:16 < t.length
  ·have hn:nameV t=false:=by
    cases t with
    | nil=>rfl
    | cons c r=>rw [nameV_cons,decide_eq_false (by omega)];rfl
   have Hn:=lh hn;clear hn h0
   go_enter Tryz.func71,Tryz.ntmps71
   go_wp2
   go_ret
   exact ⟨ret_bool Hn.out.symm,Touch.refl _ _⟩
  have hg0:=S_get t 0 (by rw [hsz];exact hl0)
  obtain ⟨x,hx⟩:∃ x,x=t[0]:=⟨_,rfl⟩
  rw [<- hx] at hg0
  have Hx:=lh hx;clear hx
  have hc:=letter_any x w
  rcases hl:letB x with _ | _
  ·have hn:nameV t=false:=by
    cases t with
    | nil=>rfl
    | cons c r =>
     have:x=c:=Hx.out
     rw [nameV_cons,<- this,hl,Bool.false_and,Bool.and_false]
   rw [hl] at hc
   have Hn:=lh hn;have Hc:=lh hc;clear hn h0 hl hc
   go_enter Tryz.func71,Tryz.ntmps71
   go_wp2_with (go_at_call 104;refine Hc.out.mono ?_;rintro e w' ⟨rfl,rfl⟩)
   go_ret
   exact ⟨ret_bool Hn.out.symm,Touch.refl _ _⟩
  ·rw [hl] at hc
   have Hc:=lh hc;have Hl:=lh hl;clear hl hc h0
   go_enter Tryz.func71,Tryz.ntmps71
   have hconv:=run_bytes_of t w
   have hr:=rd_bytes w t
   have ht:=touch_bytes w t
   obtain ⟨W,hW⟩:∃ W,W=Lib.bytesWorld w 5 (S t):=⟨_,rfl⟩
   rw [<- hW] at hconv hr ht
   clear hW
   go_wp2_with (go_at_call 104;refine Hc.out.mono ?_;rintro e w' ⟨rfl,rfl⟩)
   clear hconv Hc hg0 hq hq2 hq3
   go_loop [21] (fun i=>∃ k:Nat,k<=t.length/\i=.int .i64 k/\Hid ((t.take k).all innB=true)) (fun i=>t.length-(intOf i).toNat)
   case atStart=>exact ⟨0,by omega,rfl,lh rfl⟩
   case round =>
    obtain ⟨k,hk,rfl,hall⟩:=hrel
    by_cases hlt:k < t.length
    ·obtain ⟨ad,e1,hcell⟩:=hr.at_ k hlt
     obtain rfl:⟨w.heap.size,0,none⟩=ad:=by injection e1
     obtain ⟨y,hy⟩:∃ y,y=t[k]:=⟨_,rfl⟩
     have hadd:(⟨w.heap.size,0,none⟩:Addr).add k=⟨w.heap.size,k,none⟩:=by unfold Addr.add;split <;> simp_all
     rw [<- hy,hadd] at hcell
     have Hy:=lh hy;clear hy e1 hadd
     have hc:=inner_any y W
     rcases hl:innB y with _ | _
     ·rw [hl] at hc
      have Hc:=lh hc;clear hc
      have Hn:=lh (nameV_bad hlt (by rw [<- Hy.out];exact hl));clear hl
      go_wp2_with (go_at_call 105;refine Hc.out.mono ?_;rintro e w' ⟨rfl,rfl⟩)
      go_ret
      exact ⟨ret_bool Hn.out.symm,ht⟩
     ·rw [hl] at hc
      have Hc:=lh hc;have Hl2:=lh hl;clear hc hl
      go_wp2_with (go_at_call 105;refine Hc.out.mono ?_;rintro e w' ⟨rfl,rfl⟩)
      go_round
      case rel=>exact ⟨k+1,by omega,by go_num,lh (by
       rw [List.take_succ_eq_append_getElem hlt,List.all_append,hall.out,<- Hy.out]
       simp [Hl2.out])⟩
      case measure=>simp [intOf];omega
    ·obtain rfl:k=t.length:=by omega
     go_wp2
     go_ret
     refine ⟨ret_bool (Eq.symm ?_),ht⟩
     have h:=hall.out
     rw [List.take_length] at h
     cases t with
     | nil=>simp at hl0
     | cons c r =>
      have e:x=c:=Hx.out
      subst e
      rw [nameV_cons,h,Hl.out,decide_eq_true (by omega)];rfl
end
section
open Go.RowKit Go.Maps Go.ChangeMaps
def MapAt (P:Program) (k:TypeId) (w:World) (b:Nat) (kvs:List (Value × Value)):Prop :=
 ∃ es clock,w.heap[b]?=some (.map es clock)/\es.toList.map (fun e=>(e.key,e.val))=kvs/\(∀ e∈es.toList,∃ l,keyOf P k e.key=some l)/\kvs.Pairwise (fun p q=>p.1≠q.1)
variable {P:Program} {k:TypeId}
theorem MapAt.made (w:World):MapAt P k (w.alloc (.map #[] 0)) w.heap.size []:=⟨#[],0,heap_alloc_new w _,rfl,by simp,.nil⟩
theorem MapAt.touch {w w':World} {b:Nat} {kvs:List (Value × Value)} {fp:List Nat} (h:MapAt P k w b kvs) (ht:Touch fp w w') (hb:b∉fp):MapAt P k w' b kvs:=by
 obtain ⟨es,clock,h1,h2⟩:=h
 exact ⟨es,clock,ht.blk h1 hb,h2⟩
theorem MapAt.lt {w:World} {b:Nat} {kvs:List (Value × Value)} (h:MapAt P k w b kvs):b < w.heap.size:=by
 obtain ⟨es,clock,h1,_⟩:=h
 exact (Array.getElem?_eq_some_iff.1 h1).1
theorem Touch.setBlock {w:World} {b:Nat} {es:Array MapEntry} {clock:Nat} (hb:w.heap[b]?=some (.map es clock)) (o:Obj):Touch [b] w (setBlock w b o) :=
 ⟨rfl,rfl,rfl,by simp [ChangeMaps.setBlock],fun j _ hn=>heap_setBlock_other hb o (fun e=>hn (by simp [e]))⟩
theorem MapAt.miss {w:World} {b:Nat} {kvs:List (Value × Value)} {t e:TypeId} (h:MapAt P k w b kvs) (K:Keyed P k) (ht:P.underlying t=some (.map k e)) {key:Value} {kl:Lit} (hkey:keyOf P k key=some kl)
  (hm:∀ p∈kvs,p.1≠key) (z:Value) (hz:(zeroValue e).run P w=.ok z w) (c:Bool) :
  (Instr.lookup t (.map (some b)) key c).run P w=.ok (if c then .tuple #[z,.bool false] else z) w:=by
 obtain ⟨es,clock,hb,rfl,hk,_⟩:=h
 rcases K.find w hkey es.toList hk with ⟨h1,h2⟩ | ⟨j,e0,h1,h2,h3⟩
 ·simp [Instr.lookup,run_underlying ht,MapKept.run_getObj_map hb,K.check w _ hkey,h1,hz,Result.andThen]
 ·exact absurd h3 (hm (e0.key,e0.val) (List.mem_map.2 ⟨e0,List.mem_of_getElem? h2,rfl⟩))
theorem find_place {es:List MapEntry} {j:Nat} {e0:MapEntry} {key:Value} {l1 l2:List (Value × Value)} {v0:Value} (h2:es[j]?=some e0) (h3:e0.key=key) (he:es.map (fun e=>(e.key,e.val))=l1++(key,v0) :: l2)
  (hp:(l1++(key,v0) :: l2).Pairwise (fun p q=>p.1≠q.1)):j=l1.length/\e0.val=v0:=by
 have hj:(l1++(key,v0) :: l2)[j]?=some (key,e0.val):=by rw [<- he,List.getElem?_map,h2,<- h3];rfl
 have hjl:j < (l1++(key,v0) :: l2).length:=(List.getElem?_eq_some_iff.1 hj).1
 have hl:(l1++(key,v0) :: l2)[l1.length]?=some (key,v0):=by simp
 have hll:l1.length < (l1++(key,v0) :: l2).length:=(List.getElem?_eq_some_iff.1 hl).1
 have e1:(l1++(key,v0) :: l2)[j]=(key,e0.val):=by rw [List.getElem?_eq_getElem hjl] at hj;exact Option.some.inj hj
 have e2:(l1++(key,v0) :: l2)[l1.length]=(key,v0):=by rw [List.getElem?_eq_getElem hll] at hl;exact Option.some.inj hl
 have hpw:=List.pairwise_iff_getElem.1 hp
 rcases Nat.lt_trichotomy j l1.length with h | h | h
 ·exact absurd (by rw [e1,e2]) (hpw j l1.length hjl hll h)
 ·subst h
  rw [e1] at e2
  exact ⟨rfl,(Prod.mk.inj e2).2⟩
 ·exact absurd (by rw [e1,e2]) (hpw l1.length j hll hjl h)
theorem MapAt.hit {w:World} {b:Nat} {kvs:List (Value × Value)} {t e:TypeId} (h:MapAt P k w b kvs) (K:Keyed P k) (ht:P.underlying t=some (.map k e)) {key v:Value} {kl:Lit} (hkey:keyOf P k key=some kl)
  (hm:(key,v)∈kvs) (c:Bool) :
  (Instr.lookup t (.map (some b)) key c).run P w=.ok (if c then .tuple #[v,.bool true] else v) w:=by
 obtain ⟨es,clock,hb,rfl,hk,hp⟩:=h
 obtain ⟨e1,he1,e2⟩:=List.mem_map.1 hm
 rcases K.find w hkey es.toList hk with ⟨h1,h2⟩ | ⟨j,e0,h1,h2,h3⟩
 ·exact absurd (by simpa using congrArg Prod.fst e2) (h2 e1 he1)
 ·have hv:e0.val=v:=by
   obtain ⟨l1,l2,hl⟩:=List.append_of_mem hm
   exact (find_place h2 h3 hl (hl ▸ hp)).2
  simp [Instr.lookup,run_underlying ht,MapKept.run_getObj_map hb,K.check w _ hkey,h1,hv,Result.andThen]
theorem MapAt.put_new {w:World} {b:Nat} {kvs:List (Value × Value)} {t e:TypeId} (h:MapAt P k w b kvs) (K:Keyed P k) (ht:P.underlying t=some (.map k e)) {key:Value} {kl:Lit} (hkey:keyOf P k key=some kl)
  (hm:∀ p∈kvs,p.1≠key) (v:Value) :
  ∃ w',(Instr.mapUpdate t (.map (some b)) key v).run P w=.ok () w'/\MapAt P k w' b (kvs++[(key,v)])/\Touch [b] w w':=by
 obtain ⟨es,clock,hb,rfl,hk,hp⟩:=h
 rcases K.find w hkey es.toList hk with ⟨h1,h2⟩ | ⟨j,e0,h1,h2,h3⟩
 ·refine ⟨ChangeMaps.setBlock w b (.map (es.push ⟨key,v,clock⟩) (clock+1)), ?_,⟨es.push ⟨key,v,clock⟩,clock+1,heap_setBlock_same hb _,by simp, ?_, ?_⟩,Touch.setBlock hb _⟩
  ·simp [Instr.mapUpdate,run_underlying ht,MapKept.run_getObj_map hb,K.check w false hkey,h1,MapKept.run_setObj_map _ hb,Result.andThen,ChangeMaps.setBlock]
  ·intro x hx
   simp only [Array.toList_push,List.mem_append,List.mem_singleton] at hx
   rcases hx with hx | rfl
   ·exact hk x hx
   ·exact ⟨kl,hkey⟩
  ·rw [List.pairwise_append]
   refine ⟨hp,by simp,fun p hp2 q hq => ?_⟩
   obtain rfl:q=(key,v):=by simpa using hq
   exact hm p hp2
 ·exact absurd h3 (hm (e0.key,e0.val) (List.mem_map.2 ⟨e0,List.mem_of_getElem? h2,rfl⟩))
theorem MapAt.put_old {w:World} {b:Nat} {l1 l2:List (Value × Value)} {t e:TypeId} {key v0:Value} (h:MapAt P k w b (l1++(key,v0) :: l2)) (K:Keyed P k) (ht:P.underlying t=some (.map k e)) {kl:Lit} (hkey:keyOf P k key=some kl) (v:Value) :
  ∃ w',(Instr.mapUpdate t (.map (some b)) key v).run P w=.ok () w'/\MapAt P k w' b (l1++(key,v) :: l2)/\Touch [b] w w':=by
 obtain ⟨es,clock,hb,he,hk,hp⟩:=h
 rcases K.find w hkey es.toList hk with ⟨h1,h2⟩ | ⟨j,e0,h1,h2,h3⟩
 ·have:(key,v0)∈es.toList.map (fun e=>(e.key,e.val)):=by rw [he];simp
  obtain ⟨e1,he1,e2⟩:=List.mem_map.1 this
  exact absurd (by simpa using congrArg Prod.fst e2) (h2 e1 he1)
 ·obtain ⟨rfl,hv⟩:=find_place h2 h3 he hp
  have hjs:l1.length < es.size:=by have:=(List.getElem?_eq_some_iff.1 h2).1;simpa using this
  have hget:es[l1.length]?=some e0:=by rw [<- Array.getElem?_toList];exact h2
  have hst:=K.stays w hkey
  refine ⟨ChangeMaps.setBlock w b (.map (es.modify l1.length fun e=>{ e with key:=key,val:=v }) clock), ?_,⟨es.modify l1.length fun e=>{ e with key:=key,val:=v },clock,heap_setBlock_same hb _, ?_, ?_, ?_⟩,Touch.setBlock hb _⟩
  ·simp [Instr.mapUpdate,run_underlying ht,MapKept.run_getObj_map hb,K.check w false hkey,h1,hget,h3,hst,MapKept.run_setObj_map _ hb,Result.andThen,ChangeMaps.setBlock]
  ·apply List.ext_getElem?
   intro i
   have hi:(es.toList.map (fun e=>(e.key,e.val)))[i]?=(l1++(key,v0) :: l2)[i]?:=by rw [he]
   simp only [List.getElem?_map,Array.getElem?_toList,Array.getElem?_modify] at hi ⊢
   by_cases hil:l1.length=i
   ·subst hil
    simp [hget]
   ·rw [if_neg hil,hi]
    rcases Nat.lt_or_gt_of_ne hil with h | h
    ·rw [List.getElem?_append_right (by omega),List.getElem?_append_right (by omega)]
     obtain ⟨m,hm⟩:∃ m,i-l1.length=m+1:=⟨i-l1.length-1,by omega⟩
     rw [hm];rfl
    ·rw [List.getElem?_append_left h,List.getElem?_append_left h]
  ·intro x hx
   obtain ⟨i,hi⟩:=List.mem_iff_getElem?.1 hx
   rw [Array.getElem?_toList,Array.getElem?_modify] at hi
   by_cases hil:l1.length=i
   ·subst hil
    rw [if_pos rfl,hget] at hi
    obtain rfl:=Option.some.inj hi
    exact ⟨kl,hkey⟩
   ·rw [if_neg hil] at hi
    exact hk x (List.mem_iff_getElem?.2 ⟨i,by rw [Array.getElem?_toList];exact hi⟩)
  ·rw [List.pairwise_append,List.pairwise_cons] at hp ⊢
   exact ⟨hp.1,⟨hp.2.1.1,hp.2.1.2⟩,fun p hp1 q hq=>by
    rcases List.mem_cons.1 hq with rfl | hq
    ·exact hp.2.2 p hp1 (key,v0) (by simp)
    ·exact hp.2.2 p hp1 q (List.mem_cons.2 (.inr hq))⟩
theorem MapAt.len {w:World} {b:Nat} {kvs:List (Value × Value)} {t e:TypeId} (h:MapAt P k w b kvs) (ht:P.underlying t=some (.map k e)) (ty:TypeId) :
  (Builtin.len_ #[t] ty #[.map (some b)]).run P w=.ok (.int .i64 kvs.length) w:=by
 obtain ⟨es,clock,hb,rfl,_,_⟩:=h
 simp [Builtin.len_,run_underlying ht,MapKept.run_getObj_map hb,Result.andThen,goInt]
section
variable {ops:Array Oper} {rest:List Oper} {o:Oper} {a:Act} {Q:Exit->Act->World->Prop}
theorem wpList_lookup_is {w:World} (hg:o.guard=none) (m x:Operand) (t:TypeId) (c:Bool) (hop:o.op=Op.lookup t m x c) (mv key v:Value) (hm:a.eval m=mv) (hx:a.eval x=key)
  (hrun:(Instr.lookup t mv key c).run P w=.ok v w) (hK:wpList P ops Q rest (a.put o.dst v) w):wpList P ops Q (o :: rest) a w:=by
 refine wpList_plain hg fun K' hK' => ?_
 unfold Oper.wp
 simp [execOp,hop,hm,hx,hrun,Result.andThen]
 exact hK' _ _ hK
theorem wpList_update_is {w w':World} (hg:o.guard=none) (m x v:Operand) (t:TypeId) (hop:o.op=Op.mapUpdate t m x v) (mv key val:Value) (hm:a.eval m=mv) (hx:a.eval x=key) (hv:a.eval v=val)
  (hrun:(Instr.mapUpdate t mv key val).run P w=.ok () w') (hK:wpList P ops Q rest (a.put o.dst undef) w'):wpList P ops Q (o :: rest) a w:=by
 refine wpList_plain hg fun K' hK' => ?_
 unfold Oper.wp
 simp [execOp,hop,hm,hx,hv,hrun,Result.andThen]
 exact hK' _ _ hK
end
end
section
open Go.RowKit Go.Maps
def cdE (c:CD):List Value:=[.string c.name,.int .i64 c.typ]
theorem cdE_length (c:CD):(cdE c).length=2:=rfl
theorem cdE_one (c:CD):∀ u∈cdE c,u.oneCell'=true:=by
 intro u hu
 simp only [cdE,List.mem_cons,List.not_mem_nil,or_false] at hu
 rcases hu with rfl | rfl <;> rfl
structure CD.Ok (c:CD):Prop where
 n:c.name.size<=140737000000000
 t : -9223372036854775808<=c.typ/\c.typ<=9223372036854775807
def ColsAt (w:World) (A:Option Addr) (cs:List CD):Prop:=RdK cdE w A cs
theorem ColsAt.at_ {w:World} {A:Option Addr} {cs:List CD} (h:ColsAt w A cs) (i:Nat) (hi:i < cs.length) :
  ∃ ad b off,A=some ad/\ad.add (i*2)=⟨b,off,none⟩/\w.cell? ⟨b,off,none⟩=some (.string cs[i].name)/\w.cell? ⟨b,off+1,none⟩=some (.int .i64 cs[i].typ):=by
 obtain ⟨ad,b,off,h1,h2,_,h3⟩:=RdK.at_ h 2 cdE_length (by omega) i hi
 exact ⟨ad,b,off,h1,h2,h3 0 _ rfl,h3 1 _ rfl⟩
theorem ColsAt.touch0 {w w':World} {A:Option Addr} {cs:List CD} (h:ColsAt w A cs) (ht:Touch [] w w'):ColsAt w' A cs:=RdK.touch0 h ht
theorem name_anyB (s:ByteArray) (hs:s.size<=140737000000000) (w:World) :
  Calls Tryz.prog 71 #[.string s] w fun e w'=>e=.returned (.bool (nameV s.data.toList))/\Touch [] w w':=by
 have:=name_any s.data.toList (by rw [size_toList];exact hs) w
 rwa [S_of] at this
theorem zeroBool (w:World):(zeroValue 4).run Tryz.prog w=.ok (.bool false) w:=by kernel_rfl
def seenV (cs:List CD):List (Value × Value):=cs.map fun c=>(.string c.name,.bool true)
theorem check_any (A:Option Addr) (cap n:Nat) (cs:List CD) (hn:cs.length=n) (hok:∀ c∈cs,c.Ok) (w:World) (h:ColsAt w A cs) (hl:n<=9223372036854775807) :
  Calls Tryz.prog 33 #[.slice A n cap] w fun e w'=>e=.returned (.int .i64 (checkV cs))/\Touch [] w w':=by
 subst hn
 have hmm:=@run_makeMap Tryz.prog
 by_cases h0:cs.length < 1\/16 < cs.length
 ·have hc:checkV cs=31:=by unfold checkV;rw [if_pos h0]
  have Hc:=lh hc;clear hc
  rcases h0 with h0 | h0
  ·have hz:cs.length=0:=by omega
   have hzb:((cs.length:Int)==0)=true:=by rw [hz];rfl
   clear hz
   go_enter Tryz.func33,Tryz.ntmps33
   go_wp2
   go_ret
   exact ⟨ret_int Hc.out.symm,Touch.refl _ _⟩
  ·have hzb:((cs.length:Int)==0)=false:=by rw [beq_eq_false_iff_ne];omega
   go_enter Tryz.func33,Tryz.ntmps33
   go_wp2
   go_ret
   exact ⟨ret_int Hc.out.symm,Touch.refl _ _⟩
 ·have h1:1<=cs.length:=by omega
  have h16:cs.length<=16:=by omega
  have hzb:((cs.length:Int)==0)=false:=by rw [beq_eq_false_iff_ne];omega
  have hc:checkV cs=chkL (cs.take 0) (cs.drop 0):=by unfold checkV;rw [if_neg h0];rfl
  have Hc:=lh hc;clear hc h0
  go_enter Tryz.func33,Tryz.ntmps33
  go_wp2
  clear hzb
  go_loopw [17] (fun i wr=>∃ k:Nat,k<=cs.length/\i=.int .i64 k/\Hid (checkV cs=chkL (cs.take k) (cs.drop k))/\MapAt Tryz.prog 9 wr w.heap.size (seenV (cs.take k))/\Touch [] w wr) (fun i _=>cs.length-(intOf i).toNat)
  case atStart=>exact ⟨0,by omega,rfl,Hc,MapAt.made _,(Touch.refl _ _).alloc _⟩
  case round =>
   clear Hc hmm
   obtain ⟨k,hk,rfl,Hc,hmap,ht⟩:=hrel
   by_cases hlt:k < cs.length
   ·obtain ⟨ad,b,off,rfl,hadd,c0,c1⟩:=(h.touch0 ht).at_ k hlt
    have hcok:=hok _ (List.getElem_mem hlt)
    have hst:=chk_step hlt
    obtain ⟨c,hce⟩:∃ c,c=cs[k]:=⟨_,rfl⟩
    rw [<- hce] at c0 c1 hst hcok
    have hsn:seenV (cs.take (k+1))=seenV (cs.take k)++[(.string c.name,.bool true)]:=by
     unfold seenV;rw [List.take_succ_eq_append_getElem hlt,List.map_append,<- hce];rfl
    have Hst:=lh (Hc.out.trans hst);have Hsn:=lh hsn
    clear hst Hc hce hsn
    obtain ⟨hcn,hct1,hct2⟩:=hcok
    have tb:=(Touch.refl [] wr).alloc (.cells #[.string c.name,.int .i64 c.typ] 29)
    have hb:=heap_alloc_new wr (.cells #[.string c.name,.int .i64 c.typ] 29)
    have hname:=name_anyB c.name hcn (wr.alloc (.cells #[.string c.name,.int .i64 c.typ] 29))
    have Hkey:=lh (Go.WideMaps.keyOf_string_mk Tryz.underlying9 (s:=c.name) (by unfold maxLen;omega))
    have Hmap:=lh (hmap.touch tb (by simp));clear hmap
    rcases hnv:nameV c.name.data.toList with _ | _
    ·rw [hnv] at hname
     have Hname:=lh hname;clear hname
     have he:errC (cs.take k) c=13:=by unfold errC;rw [if_pos hnv]
     have He:=lh (show checkV cs=13 by rw [Hst.out,he];rfl);clear he hnv
     go_wp2_with (go_at_call 71;refine Hname.out.mono ?_;rintro e w1 ⟨rfl,t1⟩)
     go_ret
     exact ⟨ret_int He.out.symm,(ht.trans0 tb).trans0 t1⟩
    ·rw [hnv] at hname
     have Hname:=lh hname;clear hname
     by_cases hty:c.typ≠1/\c.typ≠2
     ·have he:errC (cs.take k) c=12:=by unfold errC;rw [if_neg (by rw [hnv];simp),if_pos hty]
      have He:=lh (show checkV cs=12 by rw [Hst.out,he];rfl);clear he hnv
      obtain ⟨q1,q2⟩:=hty
      have q1b:(c.typ==1)=false:=by rw [beq_eq_false_iff_ne];exact q1
      have q2b:(c.typ==2)=false:=by rw [beq_eq_false_iff_ne];exact q2
      have q1n:(c.typ != 1)=true:=by rw [bne,q1b];rfl
      have q2n:(c.typ != 2)=true:=by rw [bne,q2b];rfl
      go_wp2_with fail
      refine Hname.out.mono ?_
      rintro e w1 ⟨rfl,t1⟩
      have hb1:=t1.blk hb (by simp)
      have d0:=cell_blk hb1 (i:=0) rfl
      have d1:=cell_blk hb1 (i:=1) rfl
      go_wp2
      go_ret
      exact ⟨ret_int He.out.symm,(ht.trans0 tb).trans0 t1⟩
     ·have hty2:c.typ=1\/c.typ=2:=by omega
      go_wp2_with fail
      refine Hname.out.mono ?_
      rintro e w1 ⟨rfl,t1⟩
      have hb1:=t1.blk hb (by simp)
      have d0:=cell_blk hb1 (i:=0) rfl
      have d1:=cell_blk hb1 (i:=1) rfl
      have Hmap1:=lh (Hmap.out.touch t1 (by simp))
      by_cases hany:((cs.take k).any fun d=>decide (d.name=c.name))=true
      ·have he:errC (cs.take k) c=14:=by unfold errC;rw [if_neg (by rw [hnv];simp),if_neg hty,if_pos hany]
       have He:=lh (show checkV cs=14 by rw [Hst.out,he];rfl);clear he hnv
       have hmem:(Value.string c.name,Value.bool true)∈seenV (cs.take k):=by
        obtain ⟨d,hd,hde⟩:=List.any_eq_true.1 hany
        exact List.mem_map.2 ⟨d,hd,by rw [show d.name=c.name by simpa using hde]⟩
       clear hany
       rcases hty2 with q | q
       all_goals
        have q1b:(c.typ==1)=decide (c.typ=1):=rfl
        rw [q] at d1
        clear q1b hty q
        go_wp2_with (at_lookup;refine stop ?_)
        refine go ?_
        refine wpList_lookup_is rfl (.tmp 36) (.tmp 38) 75 false rfl _ _ _ rfl rfl (Hmap1.out.hit (string_keyed Tryz.underlying9) Tryz.underlying75 Hkey.out hmem false) ?_
        go_wp2
        go_ret
        exact ⟨ret_int He.out.symm,(ht.trans0 tb).trans0 t1⟩
      ·have he:errC (cs.take k) c=0:=by unfold errC;rw [if_neg (by rw [hnv];simp),if_neg hty,if_neg hany]
       have He:=lh (show checkV cs=chkL (cs.take (k+1)) (cs.drop (k+1)) by rw [Hst.out,he];rfl);clear he hnv
       have hmiss:∀ p∈seenV (cs.take k),p.1≠Value.string c.name:=by
        intro p hp e
        obtain ⟨d,hd,rfl⟩:=List.mem_map.1 hp
        exact hany (List.any_eq_true.2 ⟨d,hd,by simpa using e⟩)
       clear hany
       obtain ⟨w2,hrun,hmap2,t2⟩:=Hmap1.out.put_new (string_keyed Tryz.underlying9) Tryz.underlying75 Hkey.out hmiss (.bool true)
       have Hrun:=lh hrun;clear hrun
       rcases hty2 with q | q
       all_goals
        rw [q] at d1
        clear hty q
        go_wp2_with (at_lookup;refine stop ?_)
        refine go ?_
        refine wpList_lookup_is rfl (.tmp 36) (.tmp 38) 75 false rfl _ _ _ rfl rfl (Hmap1.out.miss (string_keyed Tryz.underlying9) Tryz.underlying75 Hkey.out hmiss _ (zeroBool _) false) ?_
        go_wp2_with (at_mapUpdate;refine stop ?_)
        refine go ?_
        refine wpList_update_is rfl (.tmp 40) (.tmp 42) (.const (.bool true)) 75 rfl _ _ _ rfl rfl rfl Hrun.out ?_
        go_wp2
        go_roundw
        case rel=>exact ⟨k+1,by omega,by go_num,He,by rw [Hsn.out];exact hmap2,((ht.trans0 tb).trans0 t1).trans t2 (fun b hb=>.inr (by simp at hb;omega))⟩
        case measure=>simp [intOf];omega
   ·obtain rfl:k=cs.length:=by omega
    have He:=lh (show checkV cs=0 by rw [Hc.out,List.drop_length];rfl)
    go_wp2
    go_ret
    exact ⟨ret_int He.out.symm,ht⟩
end
section
open Go.RowKit
def vdE (v:VD):List Value:=[.int .i64 v.kind,.int .i64 v.num,.string v.text]
theorem vdE_length (v:VD):(vdE v).length=3:=rfl
theorem vdE_one (v:VD):∀ u∈vdE v,u.oneCell'=true:=by
 intro u hu
 simp only [vdE,List.mem_cons,List.not_mem_nil,or_false] at hu
 rcases hu with rfl | rfl | rfl <;> rfl
def ValsAt (w:World) (A:Option Addr) (vs:List VD):Prop:=RdK vdE w A vs
theorem ValsAt.at_ {w:World} {A:Option Addr} {vs:List VD} (h:ValsAt w A vs) (i:Nat) (hi:i < vs.length) :
  ∃ ad b off,A=some ad/\ad.add (i*3)=⟨b,off,none⟩/\w.cell? ⟨b,off,none⟩=some (.int .i64 vs[i].kind)/\w.cell? ⟨b,off+1,none⟩=some (.int .i64 vs[i].num)/\w.cell? ⟨b,off+2,none⟩=some (.string vs[i].text):=by
 obtain ⟨ad,b,off,h1,h2,_,h3⟩:=RdK.at_ h 3 vdE_length (by omega) i hi
 exact ⟨ad,b,off,h1,h2,h3 0 _ rfl,h3 1 _ rfl,h3 2 _ rfl⟩
theorem ValsAt.touch0 {w w':World} {A:Option Addr} {vs:List VD} (h:ValsAt w A vs) (ht:Touch [] w w'):ValsAt w' A vs:=RdK.touch0 h ht
theorem all_no {α:Type} {p:α->Bool} {l:List α} {k:Nat} (h:k < l.length) (hb:p l[k]=false):l.all p=false:=by
 rw [List.all_eq_false]
 exact ⟨_,List.getElem_mem h,by rw [hb];simp⟩
theorem all_snoc {α:Type} {p:α->Bool} {l:List α} {k:Nat} (h:k < l.length) (h1:(l.take k).all p=true) (h2:p l[k]=true):(l.take (k+1)).all p=true:=by
 rw [List.take_succ_eq_append_getElem h,List.all_append,h1];simp [h2]
structure Made {α:Type} (t k:Nat) (enc:α->List Value) (xs:List α) (A:Option Addr) (c:Nat) (w w':World):Prop where
 own:OwnK t k enc w' A c xs
 t:Touch [] w w'
 f:∀ b∈fpo A,w.heap.size<=b
theorem Made.step {α:Type} {t k:Nat} {enc:α->List Value} {xs ys:List α} {A A':Option Addr} {c c':Nat} {w w1 w2:World} (h:Made t k enc xs A c w w1) (h2:OwnK t k enc w2 A' c' ys) (t2:Touch (fpo A) w1 w2) (f2:∀ b∈fpo A',b∈fpo A\/b=w1.heap.size):Made t k enc ys A' c' w w2 :=
 ⟨h2,h.t.trans t2 (fun b hb=>.inr (h.f b hb)),fun b hb=>by
  rcases f2 b hb with e | e
  ·exact h.f b e
  ·have:=h.t.size;omega⟩
theorem Made.touch0 {α:Type} {t k:Nat} {enc:α->List Value} {xs:List α} {A:Option Addr} {c:Nat} {w w1 w2:World} (h:Made t k enc xs A c w w1) (ht:Touch [] w1 w2):Made t k enc xs A c w w2:=⟨h.own.touch0 ht,h.t.trans0 ht,h.f⟩
theorem Made.nil {α:Type} (t k:Nat) (enc:α->List Value) (w:World):Made t k enc [] none 0 w w:=⟨OwnK.nil _ _ _ _,Touch.refl _ _,by simp [fpo]⟩
end
section
open Go.RowKit
structure TW (W:World) where
 w:World
 t:Touch [] W w
instance (W:World):Nonempty (TW W):=⟨⟨W,Touch.refl _ _⟩⟩
theorem TW.cell {W:World} {a:Addr} {v:Value} (h:W.cell? a=some v):∀ x:TW W,x.w.cell? a=some v:=fun x=>x.t.cell h (by simp)
theorem Calls.tw {P:Program} {f:FuncId} {args:Array Value} {W:World} {v:Value} (x:TW W) (h:Calls P f args x.w fun e w'=>e=.returned v/\Touch [] x.w w') :
  Calls P f args x.w fun e w'=>e=.returned v/\∃ y:TW W,w'=y.w :=
 h.mono fun _ w' ⟨he,ht⟩=>⟨he,⟨w',x.t.trans0 ht⟩,rfl⟩
theorem wp_region_tw {P:Program} {id:Nat} {Q:Exit->Act->World->Prop} {a:Act} {w:World} {l:List Oper} (W:World) (hW:Touch [] W w) (hm:P.follows .mixedOrders=true) (hB:Region.lexB .any l.toArray=true)
  (h:wpQuiet P l.toArray (fun w'=>∃ x:TW W,w'=x.w) (fun a'=>∀ w',(∃ x:TW W,w'=x.w)->Q .normal a' w') l a):(Code.region id l.toArray true).wp P Q a w :=
 wp_region_quiet (C:=fun w'=>∃ x:TW W,w'=x.w) hm hB ⟨⟨_,hW.drew⟩,rfl⟩ (by simpa using h)
end
section
open Go.RowKit
def fitC (c:CD) (v:VD):Bool:=v.right&&(decide (v.kind=0)||decide (v.kind=c.typ))
def fitR (cs:List CD) (vs:List VD):Bool:=decide (vs.length=cs.length)&&(List.zipWith fitC cs vs).all id
theorem fit_no {cs:List CD} {vs:List VD} {k:Nat} (h1:k < cs.length) (h2:k < vs.length) (hb:fitC cs[k] vs[k]=false):fitR cs vs=false:=by
 have hk:k < (List.zipWith fitC cs vs).length:=by rw [List.length_zipWith];omega
 have:=all_no (p:=id) hk (by rw [List.getElem_zipWith];exact hb)
 unfold fitR
 rw [this,Bool.and_false]
theorem fit_yes {cs:List CD} {vs:List VD} {k:Nat} (h1:k < cs.length) (h2:k < vs.length) (h:((List.zipWith fitC cs vs).take k).all id=true) (hb:fitC cs[k] vs[k]=true):((List.zipWith fitC cs vs).take (k+1)).all id=true:=by
 have hk:k < (List.zipWith fitC cs vs).length:=by rw [List.length_zipWith];omega
 exact all_snoc (p:=id) hk h (by rw [List.getElem_zipWith];exact hb)
theorem fits_any (A:Option Addr) (cap n:Nat) (cs:List CD) (hn:cs.length=n) (hok:∀ c∈cs,c.Ok) (B:Option Addr) (bcap m:Nat) (vs:List VD) (hm:vs.length=m) (hvk:∀ v∈vs,v.Ok 140737000000000)
  (w:World) (h:ColsAt w A cs) (hv:ValsAt w B vs) (hl:n<=140737000000000) (hl2:m<=140737000000000) :
  Calls Tryz.prog 106 #[.slice A n cap,.slice B m bcap] w fun e w'=>e=.returned (.bool (decide (checkV cs=0)&&fitR cs vs))/\Touch [] w w':=by
 subst hn hm
 have hchk:=check_any A cap cs.length cs rfl hok w h (by omega)
 by_cases hc0:checkV cs=0
 ·rw [hc0] at hchk
  have Hchk:=lh hchk;have Hc0:=lh (show (decide (checkV cs=0)&&fitR cs vs)=fitR cs vs by rw [hc0];rfl)
  clear hchk hc0
  by_cases hlen:vs.length=cs.length
  ·have Hlen:=lh hlen
   go_enter Tryz.func106,Tryz.ntmps106
   go_wp2_with (go_at_call 33;refine Hchk.out.mono ?_;rintro e w1 ⟨rfl,t1⟩)
   clear Hchk
   go_loopw [19] (fun i wr=>∃ k:Nat,k<=vs.length/\i=.int .i64 k/\Hid (((List.zipWith fitC cs vs).take k).all id=true)/\Touch [] w wr) (fun i _=>vs.length-(intOf i).toNat)
   case atStart=>exact ⟨0,by omega,rfl,lh rfl,t1⟩
   case round =>
    clear t1
    obtain ⟨k,hk,rfl,Hall,ht⟩:=hrel
    clear hlen
    by_cases hlt:k < vs.length
    ·have hlt2:k < cs.length:=by have:=Hlen.out;omega
     obtain ⟨ad,b,off,rfl,hadd,c0,c1⟩:=(h.touch0 ht).at_ k hlt2
     obtain ⟨bd,b2,off2,rfl,hadd2,d0,d1,d2⟩:=(hv.touch0 ht).at_ k hlt
     have hno:=fit_no hlt2 hlt
     have hyes:=fit_yes hlt2 hlt Hall.out
     have hvok:=hvk _ (List.getElem_mem hlt)
     obtain ⟨c,hce⟩:∃ c,c=cs[k]:=⟨_,rfl⟩
     obtain ⟨v,hve⟩:∃ v,v=vs[k]:=⟨_,rfl⟩
     rw [<- hce] at c0 c1 hno hyes
     rw [<- hve] at d0 d1 d2 hno hyes hvok
     have Hno:=lh hno;have Hyes:=lh hyes
     obtain ⟨_,_,hvt⟩:=hvok
     obtain ⟨kd,nm,tx⟩:=v
     simp only at d0 d1 d2 hvt
     clear hce hve hno hyes Hall c0
     have hb:=heap_alloc_new wr (.cells #[.int .i64 kd,.int .i64 nm,.string tx] 31)
     have tb:=(Touch.refl [] wr).alloc (.cells #[.int .i64 kd,.int .i64 nm,.string tx] 31)
     obtain ⟨W,hW⟩:∃ W,W=wr.alloc (.cells #[.int .i64 kd,.int .i64 nm,.string tx] 31):=⟨_,rfl⟩
     rw [<- hW] at hb tb
     have g0:=TW.cell (cell_blk hb (i:=0) rfl)
     have g1:=TW.cell (cell_blk hb (i:=1) rfl)
     have g2:=TW.cell (cell_blk hb (i:=2) rfl)
     have g3:=TW.cell (tb.cell c1 (by simp))
     have hright:=fun w'=>right_any ⟨kd,nm,tx⟩ hvt w'
     simp only [VD.val] at hright
     have hkI0:(0:Int)<=(k:Int):=by omega
     have hkI:(k:Int) < (cs.length:Int):=by omega
     have HW:=lh hW
     clear hW hb
     rcases hvr:VD.right ⟨kd,nm,tx⟩ with _ | _
     ·have Hf:=lh (Hno.out (by unfold fitC;rw [hvr];rfl))
      rw [hvr] at hright
      have Hright:=lh hright;clear hright hvr
      go_wp2
      rw [<- HW.out]
      refine wp_region_tw W (Touch.refl _ _) (by kernel_rfl) (by kernel_rfl) ?_
      repeat (go_big_quiet_step (((go_at_call 147;exact Calls.tw _ (Hright.out _)))))
      refine wpQuiet_nil ?_
      rintro _ ⟨x2,rfl⟩
      go_wp2
      go_ret
      exact ⟨ret_bool (by rw [Hc0.out,Hf.out]),(ht.trans0 tb).trans0 x2.t⟩
     ·have Hr:=lh hvr
      rw [hvr] at hright
      have Hright:=lh hright;clear hright hvr
      by_cases hk0:kd=0
      ·subst hk0
       have Ha:=lh (Hyes.out (by unfold fitC;rw [Hr.out];rfl))
       go_wp2
       rw [<- HW.out]
       refine wp_region_tw W (Touch.refl _ _) (by kernel_rfl) (by kernel_rfl) ?_
       repeat (go_big_quiet_step (((go_at_call 147;exact Calls.tw _ (Hright.out _)))))
       refine wpQuiet_nil ?_
       rintro _ ⟨x2,rfl⟩
       go_wp2
       go_roundw
       case rel=>exact ⟨k+1,by omega,by go_num,Ha,(ht.trans0 tb).trans0 x2.t⟩
       case measure=>simp [intOf];omega
      ·have q0:(kd==0)=false:=by rw [beq_eq_false_iff_ne];exact hk0
       have q0':(kd != 0)=true:=by rw [bne,q0];rfl
       by_cases hkt:kd=c.typ
       ·have Ha:=lh (Hyes.out (by unfold fitC;rw [Hr.out];simp [hkt]))
        have q1:(kd==c.typ)=true:=by rw [beq_iff_eq];exact hkt
        have q1':(kd != c.typ)=false:=by rw [bne,q1];rfl
        clear hk0 hkt
        go_wp2
        rw [<- HW.out]
        refine wp_region_tw W (Touch.refl _ _) (by kernel_rfl) (by kernel_rfl) ?_
        repeat (go_big_quiet_step (((go_at_call 147;exact Calls.tw _ (Hright.out _)))))
        refine wpQuiet_nil ?_
        rintro _ ⟨x2,rfl⟩
        go_wp2
        go_roundw
        case rel=>exact ⟨k+1,by omega,by go_num,Ha,(ht.trans0 tb).trans0 x2.t⟩
        case measure=>simp [intOf];omega
       ·have Hf:=lh (Hno.out (by unfold fitC;rw [Hr.out];simp [hkt,hk0]))
        have q1:(kd==c.typ)=false:=by rw [beq_eq_false_iff_ne];exact hkt
        have q1':(kd != c.typ)=true:=by rw [bne,q1];rfl
        clear hk0 hkt
        go_wp2
        rw [<- HW.out]
        refine wp_region_tw W (Touch.refl _ _) (by kernel_rfl) (by kernel_rfl) ?_
        repeat (go_big_quiet_step (((go_at_call 147;exact Calls.tw _ (Hright.out _)))))
        refine wpQuiet_nil ?_
        rintro _ ⟨x2,rfl⟩
        go_wp2
        go_ret
        exact ⟨ret_bool (by rw [Hc0.out,Hf.out]),(ht.trans0 tb).trans0 x2.t⟩
    ·obtain rfl:k=vs.length:=by omega
     have hall:=Hall.out
     rw [List.take_of_length_le (by rw [List.length_zipWith];omega)] at hall
     have Hf:=lh (show fitR cs vs=true by unfold fitR;rw [hall,decide_eq_true Hlen.out];rfl)
     have hge:decide (vs.length < cs.length)=false:=decide_eq_false (by have:=Hlen.out;omega)
     clear hall Hall
     go_wp2
     go_ret
     exact ⟨ret_bool (by rw [Hc0.out,Hf.out]),ht⟩
  ·have Hf:=lh (show fitR cs vs=false by unfold fitR;rw [decide_eq_false hlen];rfl)
   have hq:((vs.length:Int)==(cs.length:Int))=false:=by rw [beq_eq_false_iff_ne];omega
   have hq':((vs.length:Int) != (cs.length:Int))=true:=by rw [bne,hq];rfl
   clear hlen
   go_enter Tryz.func106,Tryz.ntmps106
   go_wp2_with (go_at_call 33;refine Hchk.out.mono ?_;rintro e w1 ⟨rfl,t1⟩)
   go_ret
   exact ⟨ret_bool (by rw [Hc0.out,Hf.out]),t1⟩
 ·have Hchk:=lh hchk;have Hc0:=lh (show (decide (checkV cs=0)&&fitR cs vs)=false by rw [decide_eq_false hc0];rfl)
  obtain ⟨E,hE⟩:∃ E,E=checkV cs:=⟨_,rfl⟩
  have HE:=lh hE
  have hq:(E==0)=false:=by rw [beq_eq_false_iff_ne,hE];exact hc0
  have hq':(E != 0)=true:=by rw [bne,hq];rfl
  clear hchk hc0 hE
  go_enter Tryz.func106,Tryz.ntmps106
  go_wp2_with (go_at_call 33;refine Hchk.out.mono ?_;rintro e w1 ⟨rfl,t1⟩;rw [<- HE.out])
  go_ret
  exact ⟨ret_bool (by rw [Hc0.out]),t1⟩
end
end Go.Proofs.YtafoklilkdnepaaGreatDoor
