/- Part 22 of the texts of this proof, one behind the other. No condition beyond those that its theorems state. -/
import Derived.Test.YtafoklilkdnepaaGreatDoorRi21
import Derived.Sort.Grow
import Derived.Shelf.SlSortCmp.NoneTotal
set_option maxRecDepth 40000
set_option maxHeartbeats 25600000
namespace Go.Proofs.YtafoklilkdnepaaGreatDoor
section
open Go.RowKit Go.Maps Go.ChangeMaps
def yesI (_:Nat):Bool:=true
def leads (key:Nat->List UInt8) (k:Nat):List Nat:=(List.range k).filter fun i=>decide (∀ j,j < i->key j≠key i)
theorem leads_old {key:Nat->List UInt8} {k:Nat} {es:List EN} (h:IdxIs yesI key k es) {e:EN} (he:e∈es) (hk:e.key=key k):leads key (k+1)=leads key k:=by
 unfold leads
 rw [List.range_succ,List.filter_append]
 have hne:=h.some e he
 rw [h.ix e he] at hne
 obtain ⟨j,hj⟩:=List.exists_mem_of_ne_nil _ hne
 obtain ⟨h1,h2⟩:=List.mem_filter.1 hj
 have hjk:=List.mem_range.1 h1
 have hjy:key j=e.key:=by simpa [yesI] using h2
 rw [List.filter_cons,if_neg (by rw [decide_eq_true_eq];exact fun q=>q j hjk (hjy.trans hk)),List.filter_nil,List.append_nil]
theorem leads_new {key:Nat->List UInt8} {k:Nat} {es:List EN} (h:IdxIs yesI key k es) (hn:∀ e∈es,e.key≠key k):leads key (k+1)=leads key k++[k]:=by
 unfold leads
 rw [List.range_succ,List.filter_append]
 congr 1
 rw [List.filter_cons,if_pos,List.filter_nil]
 rw [decide_eq_true_eq]
 intro j hj hkk
 obtain ⟨e,he,hy⟩:=h.all j hj rfl
 exact hn e he (hy.trans hkk)
theorem leads_le (key:Nat->List UInt8) (k:Nat):(leads key k).length<=k:=by
 have:=List.length_filter_le (fun i=>decide (∀ j,j < i->key j≠key i)) (List.range k)
 rw [List.length_range] at this
 exact this
theorem leads_lt {key:Nat->List UInt8} {k i:Nat} (h:i∈leads key k):i < k:=List.mem_range.1 (List.mem_filter.1 h).1
def ordK (rows:List (List VD)) (at_:List Nat) (k:Nat):List (List VD):=(leads (keyI rows at_) k).map fun i=>pickV (rows.getD i []) at_
theorem ordK_le (rows:List (List VD)) (at_:List Nat) (k:Nat):(ordK rows at_ k).length<=k:=by unfold ordK;rw [List.length_map];exact leads_le _ _
def grpR (rows:List (List VD)) (at_:List Nat) (K:List UInt8):List (List VD):=(selK yesI (keyI rows at_) rows.length K).map fun i=>rows.getD i []
theorem grpR_mem {rows:List (List VD)} {at_:List Nat} {K:List UInt8} {r:List VD} (h:r∈grpR rows at_ K):r∈rows:=by
 obtain ⟨i,hi,rfl⟩:=List.mem_map.1 h
 have:=selK_lt i hi
 simp [List.getD,this]
theorem grpR_le (rows:List (List VD)) (at_:List Nat) (K:List UInt8):(grpR rows at_ K).length<=rows.length:=by
 unfold grpR
 rw [List.length_map]
 unfold selK
 refine Nat.le_trans (List.length_filter_le _ _) ?_
 rw [List.length_range];exact Nat.le_refl _
def ordV (nn:Nat) (rows:List (List VD)) (at_:List Nat):List (List VD):=if nn=0/\ordK rows at_ rows.length=[] then [[]] else ordK rows at_ rows.length
theorem ordV_mem {nn n:Nat} {rows:List (List VD)} {at_:List Nat} (hr:∀ r∈rows,r.length=n) (hat:∀ i∈at_,i < n) {K:List VD} (h:K∈ordV nn rows at_):K.length<=at_.length/\∀ v∈K,∃ r∈rows,v∈r:=by
 have key:K∈ordK rows at_ rows.length->K.length<=at_.length/\∀ v∈K,∃ r∈rows,v∈r:=fun hk=>by
  obtain ⟨i,hi,rfl⟩:=List.mem_map.1 hk
  have hil:=leads_lt hi
  have e:rows.getD i []=rows[i]:=by simp [List.getD,hil]
  rw [e]
  refine ⟨by unfold pickV;rw [List.length_map];exact Nat.le_refl _,fun v hv=>⟨_,List.getElem_mem hil, ?_⟩⟩
  exact pick_mem (fun j hj=>by rw [hr _ (List.getElem_mem hil)];exact hat j hj) v hv
 unfold ordV at h
 split at h
 ·rw [List.mem_singleton.1 h]
  exact ⟨Nat.zero_le _,by simp⟩
 ·exact key h
def aggR (cs:List CD) (aggs:List AG) (rows:List (List VD)) (at_:List Nat) (K:List VD):List (Int × VD):=aggs.map fun a=>aggOf cs a (grpR rows at_ (keyL K))
def errR (cs:List CD) (aggs:List AG) (rows:List (List VD)) (at_:List Nat) (K:List VD):Int:=errF (fun x:Int × VD=>x.1) (aggR cs aggs rows at_ K)
def rowR_ (cs:List CD) (aggs:List AG) (rows:List (List VD)) (at_:List Nat) (K:List VD):List VD:=K++(aggR cs aggs rows at_ K).map (·.2)
def grpE (cs:List CD) (names:List ByteArray) (aggs:List AG) (rows:List (List VD)):Int × List (List VD) :=
 if errF (errR cs aggs rows (placesV cs names)) (sortR (ordV names.length rows (placesV cs names)))=0 then (0,(sortR (ordV names.length rows (placesV cs names))).map (rowR_ cs aggs rows (placesV cs names)))
 else (errF (errR cs aggs rows (placesV cs names)) (sortR (ordV names.length rows (placesV cs names))),[])
theorem IdxAt.touch {sl:List SL} {g0:Nat} {w w':World} {b:Nat} {es:List EN} {fp:List Nat} (h:IdxAt sl g0 w b es) (ht:Touch fp w w') (hb:b∉fp) (he:∀ e∈es,∀ a∈fpo e.A,a∉fp):IdxAt sl g0 w' b es :=
 ⟨h.mp.touch ht hb,fun e he'=>(h.own e he').touch ht (he e he'),h.low,h.apart,h.base⟩
structure OrdAt (w:World) (g0:Nat) (B:Option Addr) (c:Nat) (ks:List (List VD)) (es:List EN) (sl:List SL):Prop where
 sls:SlsAt w sl ks
 own:OwnK 33 1 slE w B c sl
 b0:∀ x∈fpo B,g0 < x/\∀ e∈es,x∉fpo e.A
 s0:∀ s∈sl,∀ x∈fpo s.A,g0 < x/\x < w.heap.size/\x∉fpo B/\∀ e∈es,x∉fpo e.A
theorem OrdAt.nil (w:World) (g0:Nat):OrdAt w g0 none 0 [] [] []:=⟨⟨rfl,fun i h=>absurd h (by simp)⟩,OwnK.nil _ _ _ _,by simp [fpo],by simp⟩
theorem OrdAt.touch0 {w w':World} {g0:Nat} {B:Option Addr} {c:Nat} {ks:List (List VD)} {es:List EN} {sl:List SL} (h:OrdAt w g0 B c ks es sl) (t:Touch [] w w'):OrdAt w' g0 B c ks es sl :=
 ⟨h.sls.touch t (by simp),h.own.touch0 t,h.b0,fun s hs x hx=>by
  obtain ⟨h1,h2,h3,h4⟩:=h.s0 s hs x hx
  exact ⟨h1,Nat.lt_of_lt_of_le h2 t.size,h3,h4⟩⟩
theorem OrdAt.turn {w w1 w':World} {g0:Nat} {B:Option Addr} {c:Nat} {ks:List (List VD)} {es es':List EN} {sl:List SL} {fp:List Nat} (h:OrdAt w g0 B c ks es sl) (t:Touch fp w w1) (t2:Touch [g0] w1 w') (hfp:∀ x∈fp,∃ e∈es,x∈fpo e.A)
  (hes:∀ e∈es',∀ x∈fpo e.A,(∃ e0∈es,x∈fpo e0.A)\/w.heap.size<=x):OrdAt w' g0 B c ks es' sl:=by
 have hBlt:=h.own.lt
 have hne:∀ x,g0 < x->x∉[g0]:=fun x hx hm=>by simp at hm;omega
 refine ⟨(h.sls.touch t (fun s hs x hx hm => ?_)).touch t2 (fun s hs x hx=>hne x (h.s0 s hs x hx).1),(h.own.touch t (fun x hx hm => ?_)).touch t2 (fun x hx=>hne x (h.b0 x hx).1),fun x hx=>⟨(h.b0 x hx).1,fun e he hm => ?_⟩,fun s hs x hx => ?_⟩
 ·obtain ⟨e,he,hxe⟩:=hfp x hm
  exact (h.s0 s hs x hx).2.2.2 e he hxe
 ·obtain ⟨e,he,hxe⟩:=hfp x hm
  exact (h.b0 x hx).2 e he hxe
 ·rcases hes e he x hm with ⟨e0,he0,q⟩ | q
  ·exact (h.b0 x hx).2 e0 he0 q
  ·have:=hBlt x hx;omega
 ·obtain ⟨h1,h2,h3,h4⟩:=h.s0 s hs x hx
  refine ⟨h1,by have:=t.size;have:=t2.size;omega,h3,fun e he hm => ?_⟩
  rcases hes e he x hm with ⟨e0,he0,q⟩ | q
  ·exact h4 e0 he0 q
  ·omega
theorem OrdAt.snoc {w w':World} {g0:Nat} {B B':Option Addr} {c c':Nat} {ks:List (List VD)} {es:List EN} {sl:List SL} (h:OrdAt w g0 B c ks es sl) (s:SL) (K:List VD) (hn:s.n=K.length) (hv:ValsAt w s.A K) (hs:∀ x∈fpo s.A,g0 < x/\x < w.heap.size/\x∉fpo B/\∀ e∈es,x∉fpo e.A)
  (hlt:∀ e∈es,∀ x∈fpo e.A,x < w.heap.size) (hg:g0 < w.heap.size) (hown:OwnK 33 1 slE w' B' c' (sl++[s])) (t:Touch (fpo B) w w') (hf:∀ x∈fpo B',x∈fpo B\/w.heap.size<=x):OrdAt w' g0 B' c' (ks++[K]) es (sl++[s]):=by
 have hl:=h.sls.1
 refine ⟨⟨by rw [List.length_append,List.length_append,hl];rfl,fun i a b => ?_⟩,hown,fun x hx => ?_,fun s' hs' x hx => ?_⟩
 ·by_cases hi:i < sl.length
  ·have hi2:i < ks.length:=by rw [<- hl];exact hi
   rw [List.getElem_append_left hi,List.getElem_append_left hi2]
   have:=h.sls.2 i hi hi2
   exact ⟨this.1,RdK.touch this.2 t (fun x hx=>(h.s0 _ (List.getElem_mem hi) x hx).2.2.1)⟩
  ·have hi':i=sl.length:=by rw [List.length_append] at a;simp at a;omega
   subst hi'
   have e1:(sl++[s])[sl.length]=s:=by rw [List.getElem_append_right (Nat.le_refl _)];simp
   have e2:(ks++[K])[sl.length]=K:=by rw [List.getElem_append_right (by rw [hl];exact Nat.le_refl _)];simp [hl]
   rw [e1,e2]
   exact ⟨hn,RdK.touch hv t (fun x hx=>(hs x hx).2.2.1)⟩
 ·rcases hf x hx with q | q
  ·exact h.b0 x q
  ·exact ⟨by omega,fun e he hm=>by have:=hlt e he x hm;omega⟩
 ·have key:g0 < x/\x < w.heap.size/\x∉fpo B/\∀ e∈es,x∉fpo e.A:=by
   rcases List.mem_append.1 hs' with q | q
   ·exact h.s0 s' q x hx
   ·rw [List.mem_singleton.1 q] at hx;exact hs x hx
  refine ⟨key.1,Nat.lt_of_lt_of_le key.2.1 t.size,fun hm => ?_,key.2.2.2⟩
  rcases hf x hm with q | q
  ·exact key.2.2.1 q
  ·have:=key.2.1;omega
end
section
open Go.RowKit
structure Grew (w w':World):Prop where
 t:Touch [] w w'
 d:w.drawn<=w'.drawn
theorem Grew.refl (w:World):Grew w w:=⟨Touch.refl _ _,Nat.le_refl _⟩
theorem Grew.trans {w w1 w2:World} (h:Grew w w1) (k:Grew w1 w2):Grew w w2:=⟨h.t.trans0 k.t,Nat.le_trans h.d k.d⟩
theorem Grew.alloc {w w1:World} (h:Grew w w1) (o:Obj):Grew w (w1.alloc o):=⟨h.t.alloc o,by rw [World.drawn_alloc];exact h.d⟩
theorem Grew.drew {w w1:World} (h:Grew w w1):Grew w w1.drew:=⟨h.t.drew,by rw [World.drawn_drew];have:=h.d;omega⟩
theorem Grew.form {w w':World} (h:Grew w w'):∃ q os,w'=Go.Sort.grow (w.drewN q) os:=by
 refine ⟨w'.drawn-w.drawn,w'.heap.extract w.heap.size w'.heap.size, ?_⟩
 have hd:=h.d
 obtain ⟨t,_⟩:=h
 have h1:=t.os
 have h2:=t.tape
 have h3:=t.output
 have h4:w'.heap=w.heap++w'.heap.extract w.heap.size w'.heap.size:=by
  apply Array.ext
  ·rw [Array.size_append,Array.size_extract]
   have:=t.size
   omega
  ·intro i hi1 hi2
   by_cases hi:i < w.heap.size
   ·rw [Array.getElem_append_left hi]
    have:=t.block i hi (by simp)
    rw [Array.getElem?_eq_getElem hi1,Array.getElem?_eq_getElem hi] at this
    exact Option.some.inj this
   ·rw [Array.getElem_append_right (by omega),Array.getElem_extract]
    congr 1
    omega
 cases w
 cases w'
 simp only [Go.Sort.grow,World.drewN] at *
 subst h1 h2 h3
 congr 1
 omega
theorem cmpValG_any (a b:VD) (w:World) :
  Calls Tryz.prog 112 #[a.val,b.val] w fun e w'=>e=.returned (.int .i64 (cmpVV a b))/\Grew w w':=by
 obtain ⟨k1,n1,s1⟩:=a
 obtain ⟨k2,n2,s2⟩:=b
 have h1:=fun w'=>Tryz.cmp_Compare_int k1 k2 w'
 have h2:=fun w'=>Tryz.cmp_Compare_int n1 n2 w'
 have h3:=fun w'=>Tryz.strings_Compare s1 s2 w'
 have hc:cmpVV ⟨k1,n1,s1⟩ ⟨k2,n2,s2⟩=orV [Lib.compareInt k1 k2,Lib.compareInt n1 n2,Lib.compareBytes s1.data.toList s2.data.toList]:=rfl
 rw [hc]
 obtain ⟨x,hx⟩:∃ x,x=Lib.compareInt k1 k2:=⟨_,rfl⟩
 obtain ⟨y,hy⟩:∃ y,y=Lib.compareInt n1 n2:=⟨_,rfl⟩
 obtain ⟨z,hz⟩:∃ z,z=Lib.compareBytes s1.data.toList s2.data.toList:=⟨_,rfl⟩
 rw [<- hx,<- hy,<- hz]
 rw [<- hx] at h1
 rw [<- hy] at h2
 rw [<- hz] at h3
 have H1:=lh h1;have H2:=lh h2;have H3:=lh h3
 have t0:=(((Grew.refl w).alloc (.cells #[.int .i64 k1,.int .i64 n1,.string s1] 31)).alloc (.cells #[.int .i64 k2,.int .i64 n2,.string s2] 31))
 clear h1 h2 h3 hx hy hz hc
 dsimp only [VD.val]
 go_enter Tryz.func112,Tryz.ntmps112
 go_wp2_with fail
 refine wp_still_tail' 15 (by kernel_rfl) (by kernel_rfl) ?_
 intro w2 hw2
 have ta:=(((Touch.refl [] (w.alloc (.cells #[.int .i64 k1,.int .i64 n1,.string s1] 31))).alloc (.cells #[.int .i64 k2,.int .i64 n2,.string s2] 31))).drew
 have tb:=((Touch.refl [] ((w.alloc (.cells #[.int .i64 k1,.int .i64 n1,.string s1] 31)).alloc (.cells #[.int .i64 k2,.int .i64 n2,.string s2] 31)))).drew
 have t2:=t0.drew
 rw [<- hw2] at ta tb t2
 have hb1:=heap_alloc_new w (.cells #[.int .i64 k1,.int .i64 n1,.string s1] 31)
 have hb2:=heap_alloc_new (w.alloc (.cells #[.int .i64 k1,.int .i64 n1,.string s1] 31)) (.cells #[.int .i64 k2,.int .i64 n2,.string s2] 31)
 rw [World.size_alloc] at hb2
 have e0:=ta.cell (cell_blk hb1 (i:=0) rfl) (by simp)
 have e1:=ta.cell (cell_blk hb1 (i:=1) rfl) (by simp)
 have e2:=ta.cell (cell_blk hb1 (i:=2) rfl) (by simp)
 have f0:=tb.cell (cell_blk hb2 (i:=0) rfl) (by simp)
 have f1:=tb.cell (cell_blk hb2 (i:=1) rfl) (by simp)
 have f2:=tb.cell (cell_blk hb2 (i:=2) rfl) (by simp)
 clear hb1 hb2 ta tb t0 hw2
 simp only [List.take_succ_cons,List.take_zero,List.drop_succ_cons,List.drop_zero]
 repeat still_step
 still_call (H1.out _)
 repeat still_step
 still_call (H2.out _)
 repeat still_step
 still_call (H3.out _)
 refine wpStill_nil ?_
 have r3:RdK inE (w2.alloc (.cells #[.int .i64 x,.int .i64 y,.int .i64 z] 3)) (some ⟨w2.heap.size,0,none⟩) [x,y,z]:=RdK.row w2 3 [x,y,z] _ rfl
 go_wp2_with fail
 refine (or_any _ 3 3 [x,y,z] rfl _ r3 (by omega)).mono ?_
 rintro e w3 ⟨rfl,rfl⟩
 go_wp2
 go_ret
 exact ⟨rfl,t2.alloc _⟩
theorem compareFuncG_any (A B:Option Addr) (c1 c2 n m:Nat) (l r:List VD) (hn:l.length=n) (hm:r.length=m) (w:World) (h:ValsAt w A l) (h2:ValsAt w B r) (hl:n<=140737000000000) (hl2:m<=140737000000000) :
  Calls Tryz.prog 111 #[.slice A n c1,.slice B m c2,.func (.func 112) #[] #[]] w fun e w'=>e=.returned (.int .i64 (cmpRV l r))/\Grew w w':=by
 subst hn hm
 go_enter Tryz.func111,Tryz.ntmps111
 go_wp2
 go_loopw [13] (fun i wr=>∃ k:Nat,k<=l.length/\k<=r.length/\i=.int .i64 k/\Hid (cmpRV l r=cmpRV (l.drop k) (r.drop k))/\Grew w wr) (fun i _=>l.length-(intOf i).toNat)
 case atStart=>exact ⟨0,by omega,by omega,rfl,lh rfl,Grew.refl _⟩
 case round =>
  obtain ⟨k,hka,hkb,rfl,Ho,ht⟩:=hrel
  by_cases h1:k < l.length
  ·obtain ⟨ad,b,off,rfl,hadd,c0,c1,c2⟩:=(h.touch0 ht.t).at_ k h1
   by_cases h2':k < r.length
   ·obtain ⟨bd,b2,off2,rfl,hadd2,d0,d1,d2⟩:=(h2.touch0 ht.t).at_ k h2'
    have hst:=cmpRV_step h1 h2'
    obtain ⟨x,hx⟩:∃ x,x=l[k]:=⟨_,rfl⟩
    obtain ⟨y,hy⟩:∃ y,y=r[k]:=⟨_,rfl⟩
    rw [<- hx,<- hy] at hst
    rw [<- hx] at c0 c1 c2
    rw [<- hy] at d0 d1 d2
    obtain ⟨k1,n1,s1⟩:=x
    obtain ⟨k2,n2,s2⟩:=y
    simp only at c0 c1 c2 d0 d1 d2
    have hcv:=fun w'=>cmpValG_any ⟨k1,n1,s1⟩ ⟨k2,n2,s2⟩ w'
    simp only [VD.val] at hcv
    obtain ⟨q,hq⟩:∃ q,q=cmpVV ⟨k1,n1,s1⟩ ⟨k2,n2,s2⟩:=⟨_,rfl⟩
    rw [<- hq] at hst hcv
    have Hcv:=lh hcv
    have Hst:=lh hst
    have ta:=((Touch.refl [] wr).alloc (.cells #[.int .i64 k1,.int .i64 n1,.string s1] 31))
    have e0:=ta.cell d0 (by simp)
    have e1:=ta.cell d1 (by simp)
    have e2:=ta.cell d2 (by simp)
    have hkI:(k:Int) < (r.length:Int):=by omega
    have h0I:(0:Int)<=(k:Int):=by omega
    clear hst hcv hx hy hq d0 d1 d2 ta
    have tb:=(ht.alloc (.cells #[.int .i64 k1,.int .i64 n1,.string s1] 31)).alloc (.cells #[.int .i64 k2,.int .i64 n2,.string s2] 31)
    by_cases h0:q=0
    ·subst h0
     have Hq:=lh (show cmpRV l r=cmpRV (l.drop (k+1)) (r.drop (k+1)) by rw [Ho.out,Hst.out,if_pos rfl])
     go_wp2_with fail
     refine (Hcv.out _).mono ?_
     rintro e w1 ⟨rfl,t1⟩
     go_wp2
     go_roundw
     case rel=>exact ⟨k+1,by omega,by omega,by go_num,Hq,tb.trans t1⟩
     case measure=>simp [intOf];omega
    ·have Hq:=lh (show cmpRV l r=q by rw [Ho.out,Hst.out,if_neg h0])
     have hq:(q==0)=false:=by rw [beq_eq_false_iff_ne];exact h0
     have hq':(q != 0)=true:=by rw [bne,hq];rfl
     go_wp2_with fail
     refine (Hcv.out _).mono ?_
     rintro e w1 ⟨rfl,t1⟩
     go_wp2
     go_ret
     exact ⟨ret_int Hq.out.symm,tb.trans t1⟩
   ·have hE:=cmpRV_end (l.drop k) (r.drop k) (.inr (List.drop_of_length_le (by omega)))
    rw [List.length_drop,List.length_drop] at hE
    have Hq:=lh (show cmpRV l r=1 by rw [Ho.out,hE,if_neg (by omega),if_pos (by omega)])
    obtain ⟨x,hx⟩:∃ x,x=l[k]:=⟨_,rfl⟩
    rw [<- hx] at c0 c1 c2
    obtain rfl:k=r.length:=by omega
    clear hE hx Ho
    go_wp2
    go_ret
    exact ⟨ret_int Hq.out.symm,ht.alloc _⟩
  ·have hE:=cmpRV_end (l.drop k) (r.drop k) (.inl (List.drop_of_length_le (by omega)))
   rw [List.length_drop,List.length_drop] at hE
   have HE:=lh hE
   clear hE
   obtain rfl:k=l.length:=by omega
   by_cases hq:l.length < r.length
   ·have Hq:=lh (show cmpRV l r = -1 by rw [Ho.out,HE.out,if_pos (by omega)])
    have hqI:(l.length:Int) < (r.length:Int):=by omega
    clear HE Ho
    go_wp2
    go_ret
    exact ⟨ret_int Hq.out.symm,ht⟩
   ·have Hq:=lh (show cmpRV l r=0 by rw [Ho.out,HE.out,if_neg (by omega),if_neg (by omega)])
    have hqI:¬ (l.length:Int) < (r.length:Int):=by omega
    clear HE Ho
    go_wp2
    go_ret
    exact ⟨ret_int Hq.out.symm,ht⟩
theorem cmpRowsG_any (A B:Option Addr) (c1 c2 n m:Nat) (l r:List VD) (hn:l.length=n) (hm:r.length=m) (w:World) (h:ValsAt w A l) (h2:ValsAt w B r) (hl:n<=140737000000000) (hl2:m<=140737000000000) :
  Calls Tryz.prog 81 #[.slice A n c1,.slice B m c2] w fun e w'=>e=.returned (.int .i64 (cmpRV l r))/\Grew w w':=by
 have hcf:=compareFuncG_any A B c1 c2 n m l r hn hm w h h2 hl hl2
 have Hcf:=lh hcf
 clear hcf
 go_enter Tryz.func81,Tryz.ntmps81
 go_wp2_with fail
 refine Hcf.out.mono ?_
 rintro e w1 ⟨rfl,t1⟩
 go_wp2
 go_ret
 exact ⟨rfl,t1⟩
end
section
open Go.RowKit Go.Shelf Go.Lib Go.Sort
theorem touch_sortWorldR {α:Type} [Inhabited α] (enc:α->Value) (w:World) (q g:Nat) (d:Array α) (os:Array Obj):Touch [g] w (sortWorld enc w g 0 q d os):=by
 have h:Touch [g] w (putRow enc (Go.Sort.ahead w q) g 0 d) :=
  ⟨rfl,rfl,rfl,by simp,fun k _ hn=>by
   have:¬ g=k:=fun e=>hn (by simp [e])
   simp [putRow,mapBlock,Array.getElem?_modify,this,Go.Sort.ahead]⟩
 refine ⟨h.os,h.tape,h.output, ?_,fun k hk hn => ?_⟩
 ·have:=h.size
  simp only [sortWorld,grow,Array.size_append]
  omega
 ·rw [<- h.block k hk hn]
  have hk2:k < (putRow enc (Go.Sort.ahead w q) g 0 d).heap.size:=Nat.lt_of_lt_of_le hk h.size
  simp only [sortWorld,grow]
  exact Array.getElem?_append_left hk2
def ltRV (a b:List VD):Bool:=decide (cmpRV a b < 0)
theorem ltRV_irr (a:List VD):ltRV a a=false:=by
 unfold ltRV;rw [decide_eq_false_iff_not];have:=cmpRV_neg a a;omega
theorem ltRV_tr {a b c:List VD} (h1:ltRV a b=true) (h2:ltRV b c=true):ltRV a c=true:=by
 unfold ltRV at *
 have h1:=of_decide_eq_true h1
 have h2:=of_decide_eq_true h2
 obtain ⟨h3,h4⟩:=tr_row a b c (by omega) (by omega)
 refine decide_eq_true ?_
 by_cases hz:cmpRV a c=0
 ·have:=(h4.1 hz).1;omega
 ·omega
theorem ltRV_ntr {a b c:List VD} (h1:ltRV a b=false) (h2:ltRV b c=false):ltRV a c=false:=by
 unfold ltRV at *
 have h1:=of_decide_eq_false h1
 have h2:=of_decide_eq_false h2
 have:=cmpRV_neg a b
 have:=cmpRV_neg b c
 have:=cmpRV_neg a c
 have:=(tr_row c b a (by omega) (by omega)).1
 rw [decide_eq_false_iff_not]
 omega
def SortedK (rows:List (List VD)) (T:List (SL × List VD)) (sl:List SL):Prop:=T.Perm (sl.zip rows)/\(T.map (·.2)).Pairwise fun a b=>cmpRV a b<=0
theorem sortK_any (G c:Nat) (sl:List SL) (rows:List (List VD)) (n:Nat) (hn:sl.length=n) (h0:0 < n) (hbig:n<=1000000) (w:World) (h:SlsAt w sl rows) (hown:OwnK 33 1 slE w (some ⟨G,0,none⟩) c sl) (hG:∀ s∈sl,G∉fpo s.A) (hrl:∀ r∈rows,r.length<=140737000000000) :
  Calls Tryz.prog 138 #[.slice (some ⟨G,0,none⟩) n c,.func (.func 81) #[] #[]] w fun e w'=>e=.returned (.tuple #[])/\Touch [G] w w' /\
   ∃ T,SortedK rows T sl/\RdK slE w' (some ⟨G,0,none⟩) (T.map (·.1)):=by
 subst hn
 haveI:Inhabited (Fin sl.length):=⟨⟨0,h0⟩⟩
 obtain ⟨enc,henc⟩:∃ enc:Fin sl.length->Value,enc=fun i=>.slice sl[i].A sl[i].n sl[i].c:=⟨_,rfl⟩
 obtain ⟨rw_,hrw⟩:∃ rw_:Fin sl.length->List VD,rw_=fun i=>rows.getD i.1 []:=⟨_,rfl⟩
 have hrg:∀ (i:Fin sl.length) (hi:i.1 < rows.length),rw_ i=rows[i.1]:=fun i hi=>by rw [hrw];simp [List.getD,hi]
 obtain ⟨cf,hcf⟩:∃ cf:Fin sl.length->Fin sl.length->Int,cf=fun i j=>cmpRV (rw_ i) (rw_ j):=⟨_,rfl⟩
 obtain ⟨d,hd⟩:∃ d:Array (Fin sl.length),d=Array.ofFn id:=⟨_,rfl⟩
 have hrs:rows.length=sl.length:=h.1.symm
 have hds:d.size=sl.length:=by rw [hd];simp
 have hlt:∀ i j,ltOf cf i j=ltRV (rw_ i) (rw_ j):=fun i j=>by rw [hcf];rfl
 have hO:SWO (ltOf cf):=⟨fun x=>by rw [hlt];exact ltRV_irr _,fun x y z h1 h2=>by rw [hlt] at *;exact ltRV_tr h1 h2,fun x y z h1 h2=>by rw [hlt] at *;exact ltRV_ntr h1 h2⟩
 have hblk:G < w.heap.size:=hown.lt G (by simp [fpo])
 have hH:Holds enc w G 0 d:=by
  intro j hj
  rw [hds] at hj
  have hx:(sl.flatMap slE)[j]?=some (.slice sl[j].A sl[j].n sl[j].c):=by
   have:=flat_get slE 1 slE_length sl j 0 hj (by omega)
   rw [Nat.mul_one] at this
   exact this
  have hc:=World.ownsRow.cells hown (g:=G) rfl j _ hx
  rw [show (⟨G,0,none⟩:Addr).add j=⟨G,0+j,none⟩ by unfold Addr.add;split <;> simp_all] at hc
  refine ⟨?_, ?_⟩
  ·rw [hc,henc]
   have hdj:d[j]! = ⟨j,hj⟩:=by
    rw [getElem!_pos d j (by rw [hds];exact hj)]
    simp [hd]
   rw [hdj];rfl
  ·rw [Nat.zero_add];exact hown.free_ j
 have hcmp:CmpLays1 Tryz.prog 81 #[] enc cf G 0 d.size w:=by
  intro m os dk hk x y
  have T:=touch_sortWorldR enc w m G dk os
  have key:∀ i:Fin sl.length,ValsAt (sortWorld enc w G 0 m dk os) sl[i].A (rw_ i)/\(rw_ i).length=sl[i].n:=fun i=>by
   have h1:=h.2 i i.2 (by rw [hrs];exact i.2)
   rw [hrg i (by rw [hrs];exact i.2)]
   refine ⟨RdK.touch h1.2 T (fun b hb hm => ?_),h1.1.symm⟩
   have:b=G:=by simpa using hm
   exact hG _ (List.getElem_mem i.2) (this ▸ hb)
  have hrl':∀ i:Fin sl.length,(rw_ i).length<=140737000000000:=fun i=>by rw [hrg i (by rw [hrs];exact i.2)];exact hrl _ (List.getElem_mem _)
  have kx:=key x
  have ky:=key y
  have:=cmpRowsG_any sl[x].A sl[y].A sl[x].c sl[y].c sl[x].n sl[y].n (rw_ x) (rw_ y) kx.2 ky.2 (sortWorld enc w G 0 m dk os) kx.1 ky.1 (by rw [<- kx.2];exact hrl' x) (by rw [<- ky.2];exact hrl' y)
  rw [henc,hcf] at *
  refine this.mono ?_
  rintro e w' ⟨rfl,g⟩
  exact ⟨rfl,g.form⟩
 have eg:∀ args w,(callFunc 81 args).run Tryz.prog w=.ok (.enter 81 args) w:=enters_of Tryz.func81 (by kernel_rfl) rfl
 have hlim:Lib.bitLen d.size < 4611686018427387904:=Nat.lt_of_le_of_lt (Lib.bitLen_le d.size 62 (by omega) (by omega)) (by omega)
 have hpd:=Any.pdqsortCmpFunc_all Tryz.layPdqR enc cf 81 #[] hO G 0 c d w eg hcmp ⟨fun i=>by rw [henc];rfl,hH,hblk⟩ (d.size+1) 0 d.size (Lib.bitLen d.size) d w (by omega) rfl (SW.start hH) (Nat.zero_le _) (Nat.le_refl _) (by omega) hlim (Or.inl rfl)
 rw [hds] at hpd
 change Calls Tryz.prog 172 _ _ _ at hpd
 have hl:=Tryz.bits_Len (sl.length:Int) w (by omega) (by omega)
 rw [Int.toNat_natCast] at hl
 have wr:IntKind.u64.wrap (sl.length:Int)=sl.length:=by simp [IntKind.wrap,IntKind.bits,IntKind.signed];omega
 have hsort:=pdq_sorts (ltOf cf) hO d 0 sl.length (Lib.bitLen sl.length) true true (Nat.zero_le _) (by rw [hds];exact Nat.le_refl _) (Or.inl rfl)
 obtain ⟨d',hd'⟩:∃ d',d'=Go.Sort.pdq (ltOf cf) d 0 sl.length (Lib.bitLen sl.length) true true:=⟨_,rfl⟩
 rw [<- hd'] at hpd hsort
 have Hpd:=lh hpd
 have Hl:=lh hl
 have Henc:=lh henc
 have Hrs:=lh hrs
 clear hpd hl hcmp hd' hlim h hown eg henc hrs
 go_enter Tryz.func138,Tryz.ntmps138
 go_wp2_with fail
 refine Hl.out.mono ?_
 rintro e w' ⟨rfl,rfl⟩
 go_wp2_with fail
 refine Hpd.out.mono ?_
 rintro e w1 ⟨rfl,q,os,rfl⟩
 go_wp2_with fail
 go_end0
 obtain ⟨hpi,hso⟩:=hsort
 have hrs:=Hrs.out
 have hds':d'.size=sl.length:=by rw [hpi.1,hds]
 have hpl:d'.toList.Perm d.toList:=by
  have h3:=hpi.2.2
  have e1:=@Array.extract_size _ d'
  have e2:=@Array.extract_size _ d
  rw [hds'] at e1
  rw [hds] at e2
  rw [e1,e2] at h3
  exact h3
 have hdl:d.toList.map (fun i=>(sl.get i,rw_ i))=sl.zip rows:=by
  rw [hd]
  rw [Array.toList_ofFn,List.map_ofFn]
  refine List.ext_getElem (by simp [hrs]) (fun i h1 h2 => ?_)
  rw [List.getElem_zip]
  have hi:i < sl.length:=by simpa using h1
  have:=hrg ⟨i,hi⟩ (by rw [hrs];exact hi)
  simp [this]
 have hSp:(d'.toList.map (fun i=>(sl.get i,rw_ i))).Perm (sl.zip rows):=by
  have:=hpl.map (fun i=>(sl.get i,rw_ i))
  rwa [hdl] at this
 refine ⟨rfl,touch_sortWorldR enc w' q G d' os,d'.toList.map (fun i=>(sl.get i,rw_ i)),⟨hSp, ?_⟩, ?_⟩
 ·rw [List.pairwise_iff_getElem]
  intro i j hi hj hij
  have hi':i < d'.size:=by simpa using hi
  have hj':j < d'.size:=by simpa using hj
  have h1:=hso i j (Nat.zero_le _) hij (by omega)
  rw [hlt,getElem!_pos d' j hj',getElem!_pos d' i hi'] at h1
  unfold ltRV at h1
  have h1:=of_decide_eq_false h1
  simp only [List.getElem_map,Array.getElem_toList]
  have:=cmpRV_neg (rw_ d'[i]) (rw_ d'[j])
  omega
 ·rw [List.map_map]
  intro _
  refine ⟨_,rfl,fun j u hu => ?_⟩
  have hfm:((d'.toList.map ((fun x:SL × List VD=>x.1) ∘ fun i=>(sl.get i,rw_ i))).flatMap slE)=d'.toList.map (fun i=>enc i):=by
   rw [Henc.out,List.flatMap_map]
   show d'.toList.flatMap (fun i=>[(.slice (sl.get i).A (sl.get i).n (sl.get i).c:Value)])=_
   exact flat_one _
  rw [hfm] at hu
  obtain ⟨hj,hu2⟩:=List.getElem?_eq_some_iff.1 hu
  have hj':j < d'.size:=by simpa using hj
  have:=(holds_sortWorld enc w' G 0 q d d' os hblk hH (by rw [hds',hds]) j hj').1
  rw [show (⟨G,0,none⟩:Addr).add j=⟨G,0+j,none⟩ by unfold Addr.add;split <;> simp_all,this,getElem!_pos d' j hj',<- hu2]
  simp
end
end Go.Proofs.YtafoklilkdnepaaGreatDoor
