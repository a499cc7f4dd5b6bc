/- Part 1 of the texts of this proof, one behind the other. No condition beyond those that its theorems state. -/
import Derived.Test.YtafoklilkdnepaaGreatDoorChecked
import Derived.WalkKit
import Derived.WalkSpells
import Derived.WalkLawsBesides
import Derived.Lib.Hide
import Derived.Maps.AppendAt
import Derived.Deep.QuietTactic
import Derived.BigQuiet
import Derived.Laws.BytesArg
import Derived.Lib.LazyBuf
import Derived.Lib.SliceRun
import Derived.Lib.SlBytesConst
import Derived.Lib.ConvBytes
import Derived.IntWalk
import Derived.Shelf.Small.Bits
import Derived.Shelf.Small.Strs
import Derived.Shelf.Small.Wraps
import Derived.Shelf.Strconv.Itoa0
import Derived.Shelf.Strconv.Itoa1
import Derived.Shelf.LaysM
import Derived.Shelf.Strconv.Itoa2
import Derived.Shelf.Strconv.Itoa3
import Derived.Shelf.Strings.Search1
import Derived.Test.YtafoklilkdnepaaGreatDoorProg
set_option maxRecDepth 40000
set_option maxHeartbeats 25600000
namespace Go.Proofs.YtafoklilkdnepaaGreatDoor
theorem lh {p : Prop} (h : p) : Go.RowKit.Hid p := Go.Lib.hid h
section
open Go.RowKit
theorem ret_int {k:IntKind} {a b:Int} (h:a=b):Ending.returned (.int k a)=.returned (.int k b):=by rw [h]
theorem ret_bool {a b:Bool} (h:a=b):Ending.returned (.bool a)=.returned (.bool b):=by rw [h]
theorem ret_slice {A:Option Addr} {c n m:Nat} (h:n=m):Ending.returned (.slice A n c)=.returned (.slice A m c):=by rw [h]
theorem stop {p:Prop} (h:Hid p):p:=h
theorem go {p:Prop} (h:p):Hid p:=h
structure Touch (fp:List Nat) (w w':World):Prop where
 os:w'.os=w.os
 tape:w'.tape=w.tape
 output:w'.output=w.output
 size:w.heap.size<=w'.heap.size
 block:∀ k,k < w.heap.size->k∉fp->w'.heap[k]?=w.heap[k]?
theorem Touch.refl (fp:List Nat) (w:World):Touch fp w w:=⟨rfl,rfl,rfl,Nat.le_refl _,fun _ _ _=>rfl⟩
theorem Touch.trans {fp fp2:List Nat} {w w1 w2:World} (h:Touch fp w w1) (k:Touch fp2 w1 w2) (hs:∀ b∈fp2,b∈fp\/w.heap.size<=b):Touch fp w w2 :=
 ⟨k.os.trans h.os,k.tape.trans h.tape,k.output.trans h.output,Nat.le_trans h.size k.size,fun b hb hn =>
  (k.block b (Nat.lt_of_lt_of_le hb h.size) (fun hm=>by rcases hs b hm with h1 | h1;exact hn h1;omega)).trans (h.block b hb hn)⟩
theorem Touch.trans0 {fp:List Nat} {w w1 w2:World} (h:Touch fp w w1) (k:Touch [] w1 w2):Touch fp w w2:=h.trans k (by simp)
theorem Touch.mono {fp fp2:List Nat} {w w1:World} (h:Touch fp w w1) (hs:∀ b∈fp,b∈fp2\/w.heap.size<=b):Touch fp2 w w1 :=
 ⟨h.os,h.tape,h.output,h.size,fun b hb hn=>h.block b hb (fun hm=>by rcases hs b hm with h1 | h1;exact hn h1;omega)⟩
theorem Touch.alloc {fp:List Nat} {w w1:World} (h:Touch fp w w1) (o:Obj):Touch fp w (w1.alloc o) :=
 ⟨h.os,h.tape,h.output,Nat.le_trans h.size (by simp),fun b hb hn=>(Below.heap_alloc w1 o b (Nat.lt_of_lt_of_le hb h.size)).trans (h.block b hb hn)⟩
theorem Touch.drewN {fp:List Nat} {w w1:World} (h:Touch fp w w1) (n:Nat):Touch fp w (w1.drewN n):=⟨h.os,h.tape,h.output,h.size,h.block⟩
theorem Touch.drew {fp:List Nat} {w w1:World} (h:Touch fp w w1):Touch fp w w1.drew:=⟨h.os,h.tape,h.output,h.size,h.block⟩
theorem Touch.setCell {fp:List Nat} {w w1:World} (h:Touch fp w w1) {p:Addr} (hp:p.block∈fp\/w.heap.size<=p.block) (u:Value):Touch fp w (w1.setCell p u) :=
 ⟨h.os,h.tape,h.output,by simpa [World.setCell] using h.size,fun b hb hn=>(Below.heap_setCell w1 p u b (by
  rintro rfl
  rcases hp with hp | hp
  ·exact hn hp
  ·omega)).trans (h.block b hb hn)⟩
theorem Touch.of_grown {w w':World} {row:Option Nat} (h:w.grownBy w' row):Touch row.toList w w' :=
 ⟨h.os,h.tape,h.output,h.size,fun k hk hn=>h.block k hk (fun e=>hn (by rw [<- e];simp))⟩
theorem Touch.below {fp:List Nat} {w w':World} (h:Touch fp w w') {n:Nat} (hn:n<=w.heap.size) (hf:∀ b∈fp,n<=b):Below n w w' :=
 ⟨h.os,h.tape,h.output,h.size,fun k hk=>h.block k (Nat.lt_of_lt_of_le hk hn) (fun hm=>by have:=hf k hm;omega)⟩
theorem Touch.below0 {w w':World} (h:Touch [] w w'):Below w.heap.size w w':=h.below (Nat.le_refl _) (by simp)
theorem Touch.cell {fp:List Nat} {w w':World} (h:Touch fp w w') {a:Addr} {v:Value} (hc:w.cell? a=some v) (hn:a.block∉fp):w'.cell? a=some v :=
 (World.cell?_of_block (h.block a.block (World.block_lt_of_cell? w a hc) hn)).trans hc
theorem Touch.blk {fp:List Nat} {w w':World} (h:Touch fp w w') {g:Nat} {o:Obj} (hc:w.heap[g]?=some o) (hn:g∉fp):w'.heap[g]?=some o :=
 (h.block g (by rcases Nat.lt_or_ge g w.heap.size with hl | hl;exact hl;rw [Array.getElem?_eq_none hl] at hc;cases hc) hn).trans hc
theorem block_of_add (a:Addr) (n:Nat):(a.add n).block=a.block:=by unfold Addr.add;split <;> rfl
theorem add_of_add (a:Addr) (i j:Nat):(a.add i).add j=a.add (i+j):=by
 unfold Addr.add
 by_cases hi:i=0 <;> by_cases hj:j=0 <;> simp [hi,hj,Nat.add_assoc]
def fpo:Option Addr->List Nat
 | some a=>[a.block]
 | none=>[]
def Rd (w:World) (A:Option Addr) (xs:List Value):Prop:=0 < xs.length->∃ ad,A=some ad/\∀ j u,xs[j]?=some u->w.cell? (ad.add j)=some u
theorem Rd.touch {w w':World} {A:Option Addr} {xs:List Value} {fp:List Nat} (h:Rd w A xs) (ht:Touch fp w w') (hn:∀ b∈fpo A,b∉fp):Rd w' A xs:=by
 intro h0
 obtain ⟨ad,rfl,hc⟩:=h h0
 exact ⟨ad,rfl,fun j u hu=>ht.cell (hc j u hu) (by rw [block_of_add];exact hn _ (by simp [fpo]))⟩
theorem Rd.touch0 {w w':World} {A:Option Addr} {xs:List Value} (h:Rd w A xs) (ht:Touch [] w w'):Rd w' A xs:=h.touch ht (by simp)
theorem Rd.nil (w:World) (A:Option Addr):Rd w A []:=fun h=>absurd h (by simp)
theorem Rd.lt {w:World} {A:Option Addr} {xs:List Value} (h:Rd w A xs) (h0:0 < xs.length):∀ b∈fpo A,b < w.heap.size:=by
 obtain ⟨ad,rfl,hc⟩:=h h0
 intro b hb
 have:b=ad.block:=by simpa [fpo] using hb
 subst this
 have:=World.block_lt_of_cell? w _ (hc 0 xs[0] (List.getElem?_eq_getElem h0))
 rwa [block_of_add] at this
def B (b:UInt8):Value:=.int .u8 b.toNat
theorem oneCell_B (l:List UInt8):∀ u∈l.map B,u.oneCell'=true:=by
 intro u hu
 obtain ⟨b,_,rfl⟩:=List.mem_map.1 hu
 rfl
def RdB (w:World) (A:Option Addr) (l:List UInt8):Prop:=Rd w A (l.map B)
theorem RdB.at_ {w:World} {A:Option Addr} {l:List UInt8} (h:RdB w A l) (k:Nat) (hk:k < l.length):∃ ad,A=some ad/\w.cell? (ad.add k)=some (.int .u8 l[k].toNat):=by
 obtain ⟨ad,e,hc⟩:=h (by simpa using Nat.lt_of_le_of_lt (Nat.zero_le _) hk)
 exact ⟨ad,e,hc k _ (by simp [hk,B])⟩
def OwnB (w:World) (A:Option Addr) (c:Nat) (l:List UInt8):Prop:=w.ownsRow 0 5 1 (.slice A l.length c) l.length (l.map B)
theorem OwnB.rd {w:World} {A:Option Addr} {c:Nat} {l:List UInt8} (h:OwnB w A c l):RdB w A l:=by
 intro h0
 rcases h.2 with hv | ⟨g,cap,cur,hv,_⟩
 ·simp at h0;omega
 ·have hA:A=some ⟨g,0,none⟩:=by injection hv
  subst hA
  exact ⟨_,rfl,World.ownsRow.cells h (g:=g) rfl⟩
theorem OwnB.le {w:World} {A:Option Addr} {c:Nat} {l:List UInt8} (h:OwnB w A c l):l.length<=c:=by
 obtain ⟨_,⟨hv,hn⟩ | ⟨g,cap,cur,hv,_,_,hnc,_⟩⟩:=h
 ·omega
 ·injection hv with _ _ h3;omega
theorem OwnB.cap {w:World} {A:Option Addr} {c:Nat} {l:List UInt8} (h:OwnB w A c l):c<=9223372036854775807:=by
 obtain ⟨_,⟨hv,hn⟩ | ⟨g,cap,cur,hv,_,_,_,hm,_⟩⟩:=h
 ·injection hv with _ _ h3;omega
 ·injection hv with _ _ h3;unfold maxLen at hm;omega
theorem OwnB.nil (w:World):OwnB w none 0 []:=World.ownsRow_nil _ _ _ _
theorem OwnB.touch {w w':World} {A:Option Addr} {c:Nat} {l:List UInt8} {fp:List Nat} (h:OwnB w A c l) (ht:Touch fp w w') (hn:∀ b∈fpo A,b∉fp):OwnB w' A c l:=by
 refine ⟨h.1, ?_⟩
 rcases h.2 with hv | ⟨g,cap,cur,hv,hb,hg,rest⟩
 ·exact .inl hv
 ·have hA:A=some ⟨g,0,none⟩:=by injection hv
  subst hA
  exact .inr ⟨g,cap,cur,hv,hb,ht.blk hg (hn g (by simp [fpo])),rest⟩
theorem OwnB.touch0 {w w':World} {A:Option Addr} {c:Nat} {l:List UInt8} (h:OwnB w A c l) (ht:Touch [] w w'):OwnB w' A c l:=h.touch ht (by simp)
theorem OwnB.lt {w:World} {A:Option Addr} {c:Nat} {l:List UInt8} (h:OwnB w A c l):∀ b∈fpo A,b < w.heap.size:=by
 intro b hb
 rcases h.2 with ⟨hv,_⟩ | ⟨g,cap,cur,hv,_,hg,_⟩
 ·injection hv with hA _ _;subst hA;cases hb
 ·have hA:A=some ⟨g,0,none⟩:=by injection hv
  subst hA
  have:b=g:=by simpa [fpo] using hb
  subst this
  exact (Array.getElem?_eq_some_iff.1 hg).1
theorem OwnB.head {w:World} {A:Option Addr} {c:Nat} {l:List UInt8} (h:OwnB w A c l):A=none/\l=[]/\c=0\/∃ g,A=some ⟨g,0,none⟩:=by
 rcases h.2 with ⟨hv,h0⟩ | ⟨g,cap,cur,hv,_⟩
 ·injection hv with hA _ hc;exact .inl ⟨hA,List.eq_nil_of_length_eq_zero h0,hc⟩
 ·injection hv with hA _ _;exact .inr ⟨g,hA⟩
theorem OwnB.empty_new (w:World):OwnB (w.alloc (.cells #[] 5)) (some ⟨w.heap.size,0,none⟩) 0 [] :=
 ⟨rfl,.inr ⟨w.heap.size,0,#[],rfl,Nat.zero_le _,heap_alloc_new w _,Nat.le_refl _,Nat.zero_le _,rfl,rfl⟩⟩
theorem OwnB.new (w:World) (l:List UInt8) (hl:l.length<=maxLen):OwnB (w.alloc (.cells (l.map B).toArray 5)) (some ⟨w.heap.size,0,none⟩) l.length l :=
 ⟨by simp,.inr ⟨w.heap.size,l.length,(l.map B).toArray,rfl,Nat.zero_le _,heap_alloc_new w _,Nat.le_refl _,hl,by simp,by simp [List.take_of_length_le]⟩⟩
section
variable {P:Program} (w:World)
theorem run_append_of_nil (base:Nat) (t ty e:TypeId) (i:TypeInfo) (size:Nat) (ht:P.underlying t=some (.slice e)) (hi:P.info? e=some i)
  (v:Value) (n:Nat) (xs:List Value) (hown:w.ownsRow base e size v n xs) (c:Nat):(Builtin.append_ #[t,t] ty #[v,.slice none 0 c]).run P w=.ok v w:=by
 rcases hown.2 with ⟨rfl,rfl⟩ | ⟨g,cap,cur,rfl,_,_,hnc,_⟩
 ·simp [Builtin.append_,run_underlying ht,sizeOf,typeInfo,hi,Builtin.lenOf,Builtin.firstCells]
 ·simp [Builtin.append_,run_underlying ht,sizeOf,typeInfo,hi,Builtin.lenOf,Builtin.firstCells,hnc,storeCells]
theorem run_app (t ty e:TypeId) (i:TypeInfo) (z:Value) (size bytes:Nat) (ht:P.underlying t=some (.slice e)) (hi:P.info? e=some i) (hz:i.zero=some z)
  (hsize:i.size=size) (hby:i.bytes=bytes) (hzs:z.cells.size=size) (hsz:0 < size)
  (A0:Option Addr) (n c0:Nat) (xs:List Value) (hown:w.ownsRow 0 e size (.slice A0 n c0) n xs)
  (A:Option Addr) (m c:Nat) (news:List Value) (hl:news.length=m*size) (hr:Rd w A news) (h1:∀ u∈news,u.oneCell'=true)
  (h63:n+m<=maxLen) (hbytes:(n+m)*bytes<=140737488355328) :
  ∃ A' c' w',(Builtin.append_ #[t,t] ty #[.slice A0 n c0,.slice A m c]).run P w=.ok (.slice A' (n+m) c') w'/\w'.ownsRow 0 e size (.slice A' (n+m) c') (n+m) (xs++news)/\Touch (fpo A0) w w' /\
   (∀ b∈fpo A',b∈fpo A0\/b=w.heap.size):=by
 have hfp:∀ v:Value,∀ A1 n1 c1,v=.slice A1 n1 c1->v.ownBlock.toList=fpo A1:=by
  rintro v A1 n1 c1 rfl
  cases A1 <;> rfl
 rcases A with _ | ad
 ·have hm:m=0:=by
   rcases Nat.eq_zero_or_pos m with h0 | h0
   ·exact h0
   ·obtain ⟨ad,h,_⟩:=hr (by rw [hl];exact Nat.mul_pos h0 hsz)
    cases h
  subst hm
  have hn:news=[]:=List.eq_nil_of_length_eq_zero (by simpa using hl)
  subst hn
  exact ⟨A0,c0,w,run_append_of_nil w 0 t ty e i size ht hi _ n xs hown c,by simpa using hown,Touch.refl _ _,fun b hb=>.inl hb⟩
 ·have hcells:∀ j u,news[j]?=some u->w.cell? (ad.add j)=some u:=by
   intro j u hu
   obtain ⟨ad',h,hc⟩:=hr (Nat.lt_of_le_of_lt (Nat.zero_le _) (List.getElem?_eq_some_iff.1 hu).1)
   injection h with h
   subst h
   exact hc j u hu
  obtain ⟨v',w',hrun,h2,h3,h4,h5⟩:=run_append_own_at (P:=P) w 0 t ty e i z size bytes ht hi hz hsize hby hzs hsz _ n xs hown ad m c news hl hcells h1 h63 hbytes (Nat.zero_le _)
  have ht':Touch (fpo A0) w w':=by
   have:=Touch.of_grown h3
   rwa [hfp _ _ _ _ rfl] at this
  have hv:∃ A' c',v'=.slice A' (n+m) c':=by
   rcases h2.2 with ⟨e1,e2⟩ | ⟨g,cap,cur,e1,_⟩
   ·exact ⟨none,0,by rw [e1,e2]⟩
   ·exact ⟨_,_,e1⟩
  obtain ⟨A',c',rfl⟩:=hv
  refine ⟨A',c',w',hrun,h2,ht',fun b hb => ?_⟩
  have hb':b∈(Value.slice A' (n+m) c').ownBlock.toList:=by rw [hfp _ _ _ _ rfl];exact hb
  rcases h5 with e5 | e5
  ·left;rw [e5,hfp _ _ _ _ rfl] at hb';exact hb'
  ·right;rw [e5] at hb';simpa using hb'
theorem wp_app {o:Oper} {a:Act} {K:Act->World->Prop} {Q:Exit->Act->World->Prop} (s x:Operand) (t:TypeId)
  (ho:o.op=.call { callee:=.builtin .append,args:=#[s,x],argTypes:=#[t,t] })
  (e:TypeId) (i:TypeInfo) (z:Value) (size bytes:Nat) (ht:P.underlying t=some (.slice e)) (hi:P.info? e=some i) (hz:i.zero=some z)
  (hsize:i.size=size) (hby:i.bytes=bytes) (hzs:z.cells.size=size) (hsz:0 < size)
  (A0:Option Addr) (n c0:Nat) (xs:List Value) (hs:a.eval s=.slice A0 n c0) (hown:w.ownsRow 0 e size (.slice A0 n c0) n xs)
  (A:Option Addr) (m c:Nat) (news:List Value) (hx:a.eval x=.slice A m c) (hl:news.length=m*size) (hr:Rd w A news) (h1:∀ u∈news,u.oneCell'=true)
  (h63:n+m<=maxLen) (hbytes:(n+m)*bytes<=140737488355328)
  (h:∀ A' c' w',w'.ownsRow 0 e size (.slice A' (n+m) c') (n+m) (xs++news)->Touch (fpo A0) w w'->(∀ b∈fpo A',b∈fpo A0\/b=w.heap.size)->K (a.put o.dst (.slice A' (n+m) c')) w'):o.wp P a w K Q:=by
 obtain ⟨A',c',w',hrun,h2,h3,h4⟩:=run_app (P:=P) w t o.type e i z size bytes ht hi hz hsize hby hzs hsz A0 n c0 xs hown A m c news hl hr h1 h63 hbytes
 unfold Oper.wp execOp
 simp only [ho,resolve,invoke,builtin,Sem.run_bind,Sem.run_pure,Result.andThen_ok,List.map_toArray,List.map_cons,List.map_nil,hs,hx,hrun]
 exact h A' c' w' h2 h3 h4
theorem wpList_app {ops:Array Oper} {rest:List Oper} {o:Oper} {a:Act} {Q:Exit->Act->World->Prop} (hgd:o.guard=none) (s x:Operand) (t:TypeId)
  (ho:o.op=.call { callee:=.builtin .append,args:=#[s,x],argTypes:=#[t,t] })
  (e:TypeId) (i:TypeInfo) (z:Value) (size bytes:Nat) (ht:P.underlying t=some (.slice e)) (hi:P.info? e=some i) (hz:i.zero=some z)
  (hsize:i.size=size) (hby:i.bytes=bytes) (hzs:z.cells.size=size) (hsz:0 < size)
  (A0:Option Addr) (n c0:Nat) (xs:List Value) (hs:a.eval s=.slice A0 n c0) (hown:w.ownsRow 0 e size (.slice A0 n c0) n xs)
  (A:Option Addr) (m c:Nat) (news:List Value) (hx:a.eval x=.slice A m c) (hl:news.length=m*size) (hr:Rd w A news) (h1:∀ u∈news,u.oneCell'=true)
  (h63:n+m<=maxLen) (hbytes:(n+m)*bytes<=140737488355328)
  (h:∀ A' c' w',w'.ownsRow 0 e size (.slice A' (n+m) c') (n+m) (xs++news)->Touch (fpo A0) w w'->(∀ b∈fpo A',b∈fpo A0\/b=w.heap.size)->wpList P ops Q rest (a.put o.dst (.slice A' (n+m) c')) w') :
  wpList P ops Q (o :: rest) a w :=
 wpList_plain hgd fun _ hK=>wp_app w s x t ho e i z size bytes ht hi hz hsize hby hzs hsz A0 n c0 xs hs hown A m c news hx hl hr h1 h63 hbytes fun A' c' w' h2 h3 h4=>hK _ _ (h A' c' w' h2 h3 h4)
theorem step_app {ops:Array Oper} {o:Oper} {a:Act} {K:Act->World->Prop} {Q:Exit->Act->World->Prop} {E:Prop} (hgd:o.guard=none) (s x:Operand) (t:TypeId)
  (ho:o.op=.call { callee:=.builtin .append,args:=#[s,x],argTypes:=#[t,t] })
  (e:TypeId) (i:TypeInfo) (z:Value) (size bytes:Nat) (ht:P.underlying t=some (.slice e)) (hi:P.info? e=some i) (hz:i.zero=some z)
  (hsize:i.size=size) (hby:i.bytes=bytes) (hzs:z.cells.size=size) (hsz:0 < size)
  (A0:Option Addr) (n c0:Nat) (xs:List Value) (hs:a.eval s=.slice A0 n c0) (hown:w.ownsRow 0 e size (.slice A0 n c0) n xs)
  (A:Option Addr) (m c:Nat) (news:List Value) (hx:a.eval x=.slice A m c) (hl:news.length=m*size) (hr:Rd w A news) (h1:∀ u∈news,u.oneCell'=true)
  (h63:n+m<=maxLen) (hbytes:(n+m)*bytes<=140737488355328)
  (h:∀ A' c' w',w'.ownsRow 0 e size (.slice A' (n+m) c') (n+m) (xs++news)->Touch (fpo A0) w w'->(∀ b∈fpo A',b∈fpo A0\/b=w.heap.size)->K (a.put o.dst (.slice A' (n+m) c')) w') :
  if Region.wanted o (yielded ops a.tmps)=true then Oper.wp P o a w K Q else E:=by
 have hw:Region.wanted o (yielded ops a.tmps)=true:=by simp [Region.wanted,hgd]
 rw [if_pos hw]
 exact wp_app w s x t ho e i z size bytes ht hi hz hsize hby hzs hsz A0 n c0 xs hs hown A m c news hx hl hr h1 h63 hbytes h
end
theorem info_u8:(Tryz.prog.info? 5).map (fun i=>(i.zero,i.size,i.bytes))=some (some (.int .u8 0),1,1):=by kernel_rfl
theorem wpList_appB {w:World} {ops:Array Oper} {rest:List Oper} {o:Oper} {a:Act} {Q:Exit->Act->World->Prop} (hgd:o.guard=none) (s x:Operand)
  (ho:o.op=.call { callee:=.builtin .append,args:=#[s,x],argTypes:=#[165,165] })
  (A0:Option Addr) (n c0:Nat) (l:List UInt8) (hn:l.length=n) (hs:a.eval s=.slice A0 n c0) (hown:OwnB w A0 c0 l)
  (A:Option Addr) (k c:Nat) (m:List UInt8) (hk:m.length=k) (hx:a.eval x=.slice A k c) (hr:RdB w A m) (hbytes:n+k<=140737488355328)
  (h:∀ A' c' w',OwnB w' A' c' (l++m)->Touch (fpo A0) w w'->(∀ b∈fpo A',b∈fpo A0\/b=w.heap.size)->wpList Tryz.prog ops Q rest (a.put o.dst (.slice A' (n+k) c')) w') :
  wpList Tryz.prog ops Q (o :: rest) a w:=by
 obtain ⟨i0,hi0,hz0,hz1,hz2⟩:=info_parts info_u8
 subst hn hk
 refine wpList_app w hgd s x _ ho 5 i0 _ 1 1 Tryz.underlying165 hi0 hz0 hz1 hz2 rfl (by omega) A0 l.length c0 _ hs hown A m.length c _ hx (by simp) hr (oneCell_B _) (by simp only [maxLen];omega) (by omega) ?_
 intro A' c' w' h2 h3 h4
 exact h A' c' w' (by unfold OwnB;rw [List.map_append,List.length_append];exact h2) h3 h4
theorem RdB.one (w:World) (x:UInt8):RdB (w.alloc (.cells #[B x] 5)) (some ⟨w.heap.size,0,none⟩) [x] :=
 (OwnB.new w [x] (by simp [maxLen])).rd
theorem RdB.one' (w:World) (x:UInt8) {z:Int} (h:z=x.toNat):RdB (w.alloc (.cells #[.int .u8 z] 5)) (some ⟨w.heap.size,0,none⟩) [x]:=by
 subst h;exact RdB.one w x
def S (l:List UInt8):ByteArray:=⟨l.toArray⟩
theorem run_str_of {w:World} {A:Option Addr} {n:Nat} (c:Nat) {l:List UInt8} (hn:l.length=n) (hr:RdB w A l):(convert 165 9 (.slice A n c)).run Tryz.prog w=.ok (.string (S l)) w:=by
 subst hn
 rcases Nat.eq_zero_or_pos l.length with h0 | h0
 ·obtain rfl:=List.eq_nil_of_length_eq_zero h0
  cases A with
  | none=>exact run_convert_bytes_nil (P:=Tryz.prog) w 165 5 Tryz.underlying165 Tryz.underlying5 _ _ _ Tryz.underlying9
  | some ad =>
   have hl:(loadCells ad 0).run Tryz.prog w=.ok (([]:List Int).map (Value.int .u8)).toArray w:=run_loadCells_list (P:=Tryz.prog) w ad [] (by simp)
   rw [run_convert_bytes_string w _ _ _ _ _ c Tryz.underlying165 Tryz.underlying5 Tryz.underlying9]
   exact run_bytesToString w ad 0 c [] hl
 ·obtain ⟨ad,rfl,hc⟩:=hr (by simpa using h0)
  have hl:(loadCells ad l.length).run Tryz.prog w=.ok ((l.map (fun b=>(b.toNat:Int))).map (Value.int .u8)).toArray w:=by
   have:=run_loadCells_list (P:=Tryz.prog) w ad (l.map B) hc
   rw [List.length_map] at this
   rw [this,List.map_map];rfl
  rw [run_convert_bytes_string w _ _ _ _ _ c Tryz.underlying165 Tryz.underlying5 Tryz.underlying9,run_bytesToString w ad _ c _ hl,foldl_push_bytes]
  simp [S,ByteArray.empty,ByteArray.emptyWithCapacity,Function.comp_def]
  rfl
theorem madeCells_one (v:Value) (n:Nat):madeCells #[v] n=(List.replicate n v).toArray:=by
 apply Array.ext
 ·simp [madeCells]
 ·intro i h1 h2
  simp [madeCells,Nat.mod_one]
end
section
open Go.RowKit
theorem S_inj {a b:List UInt8} (h:S a=S b):a=b:=by
 have:=congrArg (fun x:ByteArray=>x.data.toList) h
 simpa [S] using this
theorem S_eq (a b:List UInt8):(S a=S b)=(a=b):=propext ⟨S_inj,fun h=>by rw [h]⟩
theorem S_list (a:List UInt8):(S a).toList=a:=by rw [ByteArray.toList_eq];simp [S]
theorem S_size (s:List UInt8):(S s).size=s.length:=by simp [S,ByteArray.size]
theorem S_toList (s:List UInt8):(S s).data.toList=s:=by simp [S]
theorem run_bytes_of (s:List UInt8) (W:World):(convert 9 165 (.string (S s))).run Tryz.prog W=.ok (.slice (some ⟨W.heap.size,0,none⟩) s.length (grownCap W s.length 0 5)) (Lib.bytesWorld W 5 (S s)):=by
 have:=Lib.run_convert_string_bytes (P:=Tryz.prog) W 9 165 5 (S s) Tryz.underlying9 Tryz.underlying165 Tryz.underlying5
 rw [S_size] at this
 exact this
theorem touch_bytes (W:World) (s:List UInt8):Touch [] W (Lib.bytesWorld W 5 (S s)) :=
 ⟨rfl,rfl,rfl,by rw [Lib.bytesWorld_size];omega,fun k hk _=>Lib.bytesWorld_at_old W _ _ k hk⟩
theorem rd_bytes (W:World) (s:List UInt8):RdB (Lib.bytesWorld W 5 (S s)) (some ⟨W.heap.size,0,none⟩) s:=fun _ =>
 ⟨_,rfl,fun j u hu=>by
  have hadd:(⟨W.heap.size,0,none⟩:Addr).add j=⟨W.heap.size,j,none⟩:=by unfold Addr.add;split <;> simp_all
  have hj:j < s.length:=by have:=(List.getElem?_eq_some_iff.1 hu).1;simpa using this
  rw [hadd,Lib.bytesWorld_cell _ _ _ j (by rw [S_size];exact hj),S_toList]
  simp only [List.getElem?_map,List.getElem?_eq_getElem hj,Option.map_some,Option.some.injEq] at hu
  rw [<- hu]
  simp [List.getD,hj,B]⟩
theorem size_toList (s:ByteArray):s.data.toList.length=s.size:=by rw [Array.length_toList];rfl
structure VD where
 kind:Int
 num:Int
 text:ByteArray
def VD.val (v:VD):Value:=.agg #[.int .i64 v.kind,.int .i64 v.num,.string v.text]
structure VD.Ok (v:VD) (m:Nat):Prop where
 k : -9223372036854775808<=v.kind/\v.kind<=9223372036854775807
 n : -9223372036854775808<=v.num/\v.num<=9223372036854775807
 t:v.text.size<=m
theorem cell_blk {w:World} {g i:Nat} {cs:Array Value} {t:TypeId} {v:Value} (h:w.heap[g]?=some (.cells cs t (0,0))) (hv:cs[i]?=some v):w.cell? ⟨g,i,none⟩=some v:=by
 rw [cell_of_row w g i cs t (0,0) h];exact hv
theorem set_blk {w:World} {g:Nat} {cs:Array Value} {t:TypeId} (h:w.heap[g]?=some (.cells cs t (0,0))) (i:Nat) (u:Value) :
  (w.setCell ⟨g,i,none⟩ u).heap[g]?=some (.cells (cs.setIfInBounds i u) t (0,0)):=by
 simp [World.setCell,Array.getElem?_modify,h]
theorem S_of (s:ByteArray):S s.data.toList=s:=by cases s;simp [S]
theorem toList_B (x:ByteArray):x.toList=x.data.toList:=ByteArray.toList_eq x
theorem bs_eq {x y:ByteArray} (h:x.data.toList=y.data.toList):x=y:=by rw [<- S_of x,<- S_of y,h]
theorem bs_beq (x y:ByteArray):(x.toList==y.toList)=decide (x=y):=by
 rw [toList_B,toList_B,Bool.eq_iff_iff]
 simp only [beq_iff_eq,decide_eq_true_eq]
 exact ⟨bs_eq,fun h=>by rw [h]⟩
def okB (c:UInt8):Bool:=decide (32<=c.toNat)&&decide (c.toNat<=126)
def plainV (t:List UInt8):Bool:=t.all okB&&decide (t.length<=64)
theorem plain_any (t:List UInt8) (hs:t.length<=140737000000000) (w:World) :
  Calls Tryz.prog 182 #[.string (S t)] w fun e w'=>e=.returned (.bool (plainV t))/\Touch [] w w':=by
 go_enter Tryz.func182,Tryz.ntmps182
 have hconv:=run_bytes_of t w
 have hsz:=S_size t
 have hr:=rd_bytes w t
 have ht:=touch_bytes w t
 obtain ⟨W,hW⟩:∃ W,W=Lib.bytesWorld w 5 (S t):=⟨_,rfl⟩
 rw [<- hW] at hconv hr ht
 clear hW
 go_wp2_with fail
 clear hconv
 go_loop [8] (fun i=>∃ k:Nat,k<=t.length/\i=.int .i64 k/\Hid ((t.take k).all okB=true)) (fun i=>t.length-(intOf i).toNat)
 case atStart=>exact ⟨0,by omega,rfl,lh rfl⟩
 case round =>
  obtain ⟨k,hk,rfl,hall⟩:=hrel
  by_cases hlt:k < t.length
  ·obtain ⟨ad,e1,hcell⟩:=hr.at_ k hlt
   obtain rfl:⟨w.heap.size,0,none⟩=ad:=by injection e1
   obtain ⟨x,hx⟩:∃ x,x=t[k]:=⟨_,rfl⟩
   have hadd:(⟨w.heap.size,0,none⟩:Addr).add k=⟨w.heap.size,k,none⟩:=by unfold Addr.add;split <;> simp_all
   rw [<- hx,hadd] at hcell
   have hxl:=x.toNat_lt
   have hbad:okB x=false->plainV t=false:=fun h=>by
    unfold plainV
    have:t.all okB=false:=by
     rw [List.all_eq_false]
     exact ⟨t[k],List.getElem_mem hlt,by rw [<- hx,h];simp⟩
    rw [this];rfl
   have hgood:okB x=true->(t.take (k+1)).all okB=true:=fun h=>by
    rw [List.take_succ_eq_append_getElem hlt,List.all_append,hall.out,<- hx]
    simp [h]
   have Hb:=lh hbad
   have Hg:=lh hgood
   clear hbad hgood hx hall e1 hadd
   by_cases h1:x.toNat < 32
   ·have hz:((x.toNat:Int) < 32)=True:=eq_true (by omega)
    go_wp2
    go_ret
    exact ⟨by rw [Hb.out (by simp [okB];omega)];rfl,ht⟩
   have hz:((x.toNat:Int) < 32)=False:=eq_false (by omega)
   by_cases h2:126 < x.toNat
   ·have hy:(126 < (x.toNat:Int))=True:=eq_true (by omega)
    go_wp2
    go_ret
    exact ⟨by rw [Hb.out (by simp [okB];omega)];rfl,ht⟩
   ·have hy:(126 < (x.toNat:Int))=False:=eq_false (by omega)
    go_wp2
    go_round
    case rel=>exact ⟨k+1,by omega,by go_num,lh (Hg.out (by simp [okB];omega))⟩
    case measure=>simp [intOf];omega
  ·obtain rfl:k=t.length:=by omega
   have hfin:plainV t=decide ((t.length:Int)<=64):=by
    have h:=hall.out
    rw [List.take_length] at h
    unfold plainV
    rw [h,Bool.true_and]
    exact decide_eq_decide.2 (by omega)
   have Hf:=lh hfin
   clear hfin hall
   go_wp2
   go_ret
   exact ⟨by rw [Hf.out];rfl,ht⟩
def VD.right (v:VD):Bool :=
 if v.kind=0 then decide (v.num=0)&&v.text.toList.isEmpty else if v.kind=1 then v.text.toList.isEmpty else if v.kind=2 then decide (v.num=0)&&plainV v.text.data.toList else false
theorem right_any (v:VD) (hs:v.text.size<=140737000000000) (w:World) :
  Calls Tryz.prog 147 #[v.val] w fun e w'=>e=.returned (.bool v.right)/\Touch [] w w':=by
 obtain ⟨k,n,s⟩:=v
 dsimp only [VD.val] at *
 go_enter Tryz.func147,Tryz.ntmps147
 have t0:=(Touch.refl [] w).alloc (.cells #[.int .i64 k,.int .i64 n,.string s] 31)
 have hp:=plain_any s.data.toList (by rw [size_toList];exact hs) (w.alloc (.cells #[.int .i64 2,.int .i64 0,.string s] 31))
 rw [S_of] at hp
 have Hp:=lh hp
 clear hp
 by_cases h0:k=0
 ·subst h0
  by_cases hn:n=0
  ·subst hn
   go_wp2_with fail
   go_ret
   exact ⟨rfl,t0⟩
  ·have hne:(n==0)=false:=by simpa using hn
   have hr:VD.right ⟨0,n,s⟩=false:=by simp [VD.right,hn]
   have Hr:=lh hr
   clear hr
   go_wp2_with fail
   go_ret
   exact ⟨by rw [Hr.out];rfl,t0⟩
 by_cases h1:k=1
 ·subst h1
  go_wp2_with fail
  go_ret
  exact ⟨rfl,t0⟩
 by_cases h2:k=2
 ·subst h2
  by_cases hn:n=0
  ·subst hn
   go_wp2_with fail
   refine Hp.out.mono ?_
   rintro e w1 ⟨rfl,t1⟩
   go_wp2_with fail
   go_ret
   exact ⟨rfl,t0.trans0 t1⟩
  ·have hne:(n==0)=false:=by simpa using hn
   have hr:VD.right ⟨2,n,s⟩=false:=by simp [VD.right,hn]
   have Hr:=lh hr
   clear hr
   go_wp2_with fail
   go_ret
   exact ⟨by rw [Hr.out];rfl,t0⟩
 ·have hr:VD.right ⟨k,n,s⟩=false:=by simp [VD.right,h0,h1,h2]
  have Hr:=lh hr
  clear hr
  go_wp2_with fail
  go_ret
  exact ⟨by rw [Hr.out];rfl,t0⟩
end
section
open Go.RowKit
theorem flat_length {α β:Type} (enc:α->List β) (k:Nat) (hk:∀ x,(enc x).length=k) (xs:List α):(xs.flatMap enc).length=xs.length*k:=by
 induction xs with
 | nil=>simp
 | cons x xs ih=>rw [List.flatMap_cons,List.length_append,hk,ih,List.length_cons,Nat.add_mul];omega
theorem flat_get {α β:Type} (enc:α->List β) (k:Nat) (hk:∀ x,(enc x).length=k) (xs:List α) (i j:Nat) (hi:i < xs.length) (hj:j < k):(xs.flatMap enc)[i*k+j]?=(enc xs[i])[j]?:=by
 induction xs generalizing i with
 | nil=>simp at hi
 | cons x xs ih =>
  rw [List.flatMap_cons]
  rcases i with _ | i
  ·rw [Nat.zero_mul,Nat.zero_add,List.getElem?_append_left (by rw [hk];exact hj)];rfl
  ·have h1:(i+1)*k+j=(enc x).length+(i*k+j):=by rw [hk,Nat.add_mul];omega
   rw [h1,List.getElem?_append_right (Nat.le_add_right _ _),Nat.add_sub_cancel_left]
   exact ih i (by simpa using hi)
def RdK {α:Type} (enc:α->List Value) (w:World) (A:Option Addr) (xs:List α):Prop:=Rd w A (xs.flatMap enc)
theorem RdK.touch0 {α:Type} {enc:α->List Value} {w w':World} {A:Option Addr} {xs:List α} (h:RdK enc w A xs) (ht:Touch [] w w'):RdK enc w' A xs:=Rd.touch0 h ht
theorem RdK.touch {α:Type} {enc:α->List Value} {w w':World} {A:Option Addr} {xs:List α} {fp:List Nat} (h:RdK enc w A xs) (ht:Touch fp w w') (hn:∀ b∈fpo A,b∉fp):RdK enc w' A xs:=Rd.touch h ht hn
theorem RdK.nil {α:Type} (enc:α->List Value) (w:World) (A:Option Addr):RdK enc w A []:=Rd.nil w A
theorem RdK.at_ {α:Type} {enc:α->List Value} {w:World} {A:Option Addr} {xs:List α} (h:RdK enc w A xs) (k:Nat) (hk:∀ x,(enc x).length=k) (h0:0 < k) (i:Nat) (hi:i < xs.length) :
  ∃ ad b off,A=some ad/\ad.add (i*k)=⟨b,off,none⟩/\b=ad.block/\∀ j u,(enc xs[i])[j]?=some u->w.cell? ⟨b,off+j,none⟩=some u:=by
 have hpos:0 < (xs.flatMap enc).length:=by rw [flat_length enc k hk];exact Nat.mul_pos (by omega) h0
 obtain ⟨ad,rfl,hc⟩:=h hpos
 have hall:∀ j u,(enc xs[i])[j]?=some u->w.cell? ((ad.add (i*k)).add j)=some u:=fun j u hu=>by
  have hj:j < k:=by have:=(List.getElem?_eq_some_iff.1 hu).1;rwa [hk] at this
  rw [add_of_add]
  exact hc _ u (by rw [flat_get enc k hk xs i j hi hj];exact hu)
 have hfirst:(enc xs[i])[0]?=some ((enc xs[i])[0]'(by rw [hk];exact h0)):=List.getElem?_eq_getElem _
 have h1:=hall 0 _ hfirst
 have hb:=block_of_add ad (i*k)
 rcases hp:ad.add (i*k) with ⟨b,off,spot⟩
 rw [hp] at h1 hall hb
 have e0:(⟨b,off,spot⟩:Addr).add 0=⟨b,off,spot⟩:=by simp [Addr.add]
 rw [e0] at h1
 obtain rfl:spot=none:=by simpa using World.cell?_spot h1
 refine ⟨ad,b,off,rfl,hp,hb,fun j u hu => ?_⟩
 have:=hall j u hu
 have e1:(⟨b,off,none⟩:Addr).add j=⟨b,off+j,none⟩:=by unfold Addr.add;split <;> simp_all
 rwa [e1] at this
def OwnK {α:Type} (t k:Nat) (enc:α->List Value) (w:World) (A:Option Addr) (c:Nat) (xs:List α):Prop:=w.ownsRow 0 t k (.slice A xs.length c) xs.length (xs.flatMap enc)
theorem OwnK.nil {α:Type} (t k:Nat) (enc:α->List Value) (w:World):OwnK t k enc w none 0 []:=World.ownsRow_nil _ _ _ _
theorem OwnK.head {α:Type} {t k:Nat} {enc:α->List Value} {w:World} {A:Option Addr} {c:Nat} {xs:List α} (h:OwnK t k enc w A c xs):A=none/\xs=[]/\c=0\/∃ g,A=some ⟨g,0,none⟩:=by
 rcases h.2 with ⟨hv,h0⟩ | ⟨g,cap,cur,hv,_⟩
 ·injection hv with hA _ hc;exact .inl ⟨hA,List.eq_nil_of_length_eq_zero h0,hc⟩
 ·injection hv with hA _ _;exact .inr ⟨g,hA⟩
theorem OwnK.rd {α:Type} {t k:Nat} {enc:α->List Value} {w:World} {A:Option Addr} {c:Nat} {xs:List α} (h:OwnK t k enc w A c xs):RdK enc w A xs:=by
 intro h0
 rcases h.2 with hv | ⟨g,cap,cur,hv,_⟩
 ·obtain rfl:=List.eq_nil_of_length_eq_zero hv.2
  simp at h0
 ·have hA:A=some ⟨g,0,none⟩:=by injection hv
  subst hA
  exact ⟨_,rfl,World.ownsRow.cells h (g:=g) rfl⟩
theorem OwnK.le {α:Type} {t k:Nat} {enc:α->List Value} {w:World} {A:Option Addr} {c:Nat} {xs:List α} (h:OwnK t k enc w A c xs):xs.length<=c:=by
 obtain ⟨_,⟨hv,hn⟩ | ⟨g,cap,cur,hv,_,_,hnc,_⟩⟩:=h
 ·omega
 ·injection hv with _ _ h3;omega
theorem OwnK.touch {α:Type} {t k:Nat} {enc:α->List Value} {w w':World} {A:Option Addr} {c:Nat} {xs:List α} {fp:List Nat} (h:OwnK t k enc w A c xs) (ht:Touch fp w w') (hn:∀ b∈fpo A,b∉fp):OwnK t k enc w' A c xs:=by
 refine ⟨h.1, ?_⟩
 rcases h.2 with hv | ⟨g,cap,cur,hv,hb,hg,rest⟩
 ·exact .inl hv
 ·have hA:A=some ⟨g,0,none⟩:=by injection hv
  subst hA
  exact .inr ⟨g,cap,cur,hv,hb,ht.blk hg (hn g (by simp [fpo])),rest⟩
theorem OwnK.touch0 {α:Type} {t k:Nat} {enc:α->List Value} {w w':World} {A:Option Addr} {c:Nat} {xs:List α} (h:OwnK t k enc w A c xs) (ht:Touch [] w w'):OwnK t k enc w' A c xs:=h.touch ht (by simp)
theorem OwnK.lt {α:Type} {t k:Nat} {enc:α->List Value} {w:World} {A:Option Addr} {c:Nat} {xs:List α} (h:OwnK t k enc w A c xs):∀ b∈fpo A,b < w.heap.size:=by
 intro b hb
 rcases h.2 with ⟨hv,_⟩ | ⟨g,cap,cur,hv,_,hg,_⟩
 ·injection hv with hA _ _;subst hA;cases hb
 ·have hA:A=some ⟨g,0,none⟩:=by injection hv
  subst hA
  have:b=g:=by simpa [fpo] using hb
  subst this
  exact (Array.getElem?_eq_some_iff.1 hg).1
theorem OwnK.empty_new {α:Type} (t k:Nat) (enc:α->List Value) (w:World):OwnK t k enc (w.alloc (.cells #[] t)) (some ⟨w.heap.size,0,none⟩) 0 [] :=
 ⟨by simp,.inr ⟨w.heap.size,0,#[],rfl,Nat.zero_le _,heap_alloc_new w _,Nat.le_refl _,Nat.zero_le _,by simp,by simp⟩⟩
theorem wpList_appK {α:Type} {enc:α->List Value} {w:World} {ops:Array Oper} {rest:List Oper} {o:Oper} {a:Act} {Q:Exit->Act->World->Prop} (hgd:o.guard=none) (s x:Operand) (t:TypeId)
  (ho:o.op=.call { callee:=.builtin .append,args:=#[s,x],argTypes:=#[t,t] })
  (e:TypeId) (z:Value) (k bytes:Nat) (hinfo:(Tryz.prog.info? e).map (fun i=>(i.zero,i.size,i.bytes))=some (some z,k,bytes)) (ht:Tryz.prog.underlying t=some (.slice e))
  (hzs:z.cells.size=k) (hsz:0 < k) (hk:∀ x,(enc x).length=k) (hone:∀ x,∀ u∈enc x,u.oneCell'=true)
  (A0:Option Addr) (n c0:Nat) (xs:List α) (hn:xs.length=n) (hs:a.eval s=.slice A0 n c0) (hown:OwnK e k enc w A0 c0 xs)
  (A:Option Addr) (m c:Nat) (news:List α) (hm:news.length=m) (hx:a.eval x=.slice A m c) (hr:RdK enc w A news) (h63:n+m<=1000000000) (hby:bytes<=1000)
  (h:∀ A' c' w',OwnK e k enc w' A' c' (xs++news)->Touch (fpo A0) w w'->(∀ b∈fpo A',b∈fpo A0\/b=w.heap.size)->wpList Tryz.prog ops Q rest (a.put o.dst (.slice A' (n+m) c')) w') :
  wpList Tryz.prog ops Q (o :: rest) a w:=by
 obtain ⟨i0,hi0,hz0,hz1,hz2⟩:=info_parts hinfo
 subst hn hm
 have hb:(xs.length+news.length)*bytes<=1000000000*1000:=Nat.mul_le_mul h63 hby
 refine wpList_app w hgd s x t ho e i0 z k bytes ht hi0 hz0 hz1 hz2 hzs hsz A0 xs.length c0 _ hs hown A news.length c (news.flatMap enc) hx (flat_length enc k hk news) hr
  (fun u hu=>by obtain ⟨y,_,hy⟩:=List.mem_flatMap.1 hu;exact hone y u hy) (by simp only [maxLen];omega) (by omega) ?_
 intro A' c' w' h2 h3 h4
 exact h A' c' w' (by unfold OwnK;rw [List.flatMap_append,List.length_append];exact h2) h3 h4
theorem step_appK {α:Type} {enc:α->List Value} {w:World} {ops:Array Oper} {o:Oper} {a:Act} {K:Act->World->Prop} {Q:Exit->Act->World->Prop} {E:Prop} (hgd:o.guard=none) (s x:Operand) (t:TypeId)
  (ho:o.op=.call { callee:=.builtin .append,args:=#[s,x],argTypes:=#[t,t] })
  (e:TypeId) (z:Value) (k bytes:Nat) (hinfo:(Tryz.prog.info? e).map (fun i=>(i.zero,i.size,i.bytes))=some (some z,k,bytes)) (ht:Tryz.prog.underlying t=some (.slice e))
  (hzs:z.cells.size=k) (hsz:0 < k) (hk:∀ x,(enc x).length=k) (hone:∀ x,∀ u∈enc x,u.oneCell'=true)
  (A0:Option Addr) (n c0:Nat) (xs:List α) (hn:xs.length=n) (hs:a.eval s=.slice A0 n c0) (hown:OwnK e k enc w A0 c0 xs)
  (A:Option Addr) (m c:Nat) (news:List α) (hm:news.length=m) (hx:a.eval x=.slice A m c) (hr:RdK enc w A news) (h63:n+m<=1000000000) (hby:bytes<=1000)
  (h:∀ A' c' w',OwnK e k enc w' A' c' (xs++news)->Touch (fpo A0) w w'->(∀ b∈fpo A',b∈fpo A0\/b=w.heap.size)->K (a.put o.dst (.slice A' (n+m) c')) w') :
  if Region.wanted o (yielded ops a.tmps)=true then Oper.wp Tryz.prog o a w K Q else E:=by
 obtain ⟨i0,hi0,hz0,hz1,hz2⟩:=info_parts hinfo
 subst hn hm
 have hb:(xs.length+news.length)*bytes<=1000000000*1000:=Nat.mul_le_mul h63 hby
 refine step_app w hgd s x t ho e i0 z k bytes ht hi0 hz0 hz1 hz2 hzs hsz A0 xs.length c0 _ hs hown A news.length c (news.flatMap enc) hx (flat_length enc k hk news) hr
  (fun u hu=>by obtain ⟨y,_,hy⟩:=List.mem_flatMap.1 hu;exact hone y u hy) (by simp only [maxLen];omega) (by omega) ?_
 intro A' c' w' h2 h3 h4
 exact h A' c' w' (by unfold OwnK;rw [List.flatMap_append,List.length_append];exact h2) h3 h4
theorem RdK.one {α:Type} {enc:α->List Value} (w:World) (t:TypeId) (x:α) (cs:Array Value) (h:cs.toList=enc x):RdK enc (w.alloc (.cells cs t)) (some ⟨w.heap.size,0,none⟩) [x]:=fun _ =>
 ⟨_,rfl,fun j u hu=>by
  have hadd:(⟨w.heap.size,0,none⟩:Addr).add j=⟨w.heap.size,j,none⟩:=by unfold Addr.add;split <;> simp_all
  rw [hadd,cell_of_row _ w.heap.size j cs t (0,0) (heap_alloc_new w _)]
  simpa [<- h] using hu⟩
theorem RdK.row {α:Type} {enc:α->List Value} (w:World) (t:TypeId) (l:List α) (cs:Array Value) (h:cs.toList=l.flatMap enc):RdK enc (w.alloc (.cells cs t)) (some ⟨w.heap.size,0,none⟩) l:=fun _ =>
 ⟨_,rfl,fun j u hu=>by
  have hadd:(⟨w.heap.size,0,none⟩:Addr).add j=⟨w.heap.size,j,none⟩:=by unfold Addr.add;split <;> simp_all
  rw [hadd,cell_of_row _ w.heap.size j cs t (0,0) (heap_alloc_new w _)]
  rw [<- h] at hu
  simpa using hu⟩
end
section
open Go.RowKit
structure ND where
 kind:Int
 name:ByteArray
 v:VD
 op:ByteArray
structure ND.Ok (d:ND) (m:Nat):Prop where
 k : -9223372036854775808<=d.kind/\d.kind<=9223372036854775807
 n:d.name.size<=m
 v:d.v.Ok m
 o:d.op.size<=m
def TX:Nat->Type
 | 0=>PEmpty
 | n+1=>ND × List (TX n)
structure XC where
 nd:ND
 A:Option Addr
 n:Nat
 c:Nat
def xcE (x:XC):List Value:=[.int .i64 x.nd.kind,.string x.nd.name,.int .i64 x.nd.v.kind,.int .i64 x.nd.v.num,.string x.nd.v.text,.string x.nd.op,.slice x.A x.n x.c]
theorem xcE_length (x:XC):(xcE x).length=7:=rfl
def ExP (enc:XC->List Value) (p:Nat->Prop):(n:Nat)->World->XC->TX n->Prop
 | 0,_,_,_=>False
 | n+1,w,x,e=>x.nd=e.1/\x.n=e.2.length/\(∀ b∈fpo x.A,p b)/\∃ xs:List XC,xs.length=e.2.length/\RdK enc w x.A xs/\∀ i (h1:i < xs.length) (h2:i < e.2.length),ExP enc p n w xs[i] e.2[i]
def anyB:Nat->Prop:=fun _=>True
theorem ExP.mono {enc:XC->List Value} {p q:Nat->Prop} (hpq:∀ b,p b->q b):∀ {n:Nat} {w:World} {x:XC} {e:TX n},ExP enc p n w x e->ExP enc q n w x e
 | 0,_,_,_,h=>h.elim
 | _+1,_,_,_,⟨h1,h2,h3,xs,h4,h5,h6⟩=>⟨h1,h2,fun b hb=>hpq b (h3 b hb),xs,h4,h5,fun i a b=>ExP.mono hpq (h6 i a b)⟩
theorem ExP.any {enc:XC->List Value} {p:Nat->Prop} {n:Nat} {w:World} {x:XC} {e:TX n} (h:ExP enc p n w x e):ExP enc anyB n w x e:=h.mono fun _ _=>trivial
theorem ExP.touch {enc:XC->List Value} {p:Nat->Prop} {fp:List Nat}:∀ {n:Nat} {w w':World} {x:XC} {e:TX n},ExP enc p n w x e->Touch fp w w'->(∀ b∈fp,¬ p b)->ExP enc p n w' x e
 | 0,_,_,_,_,h,_,_=>h.elim
 | _+1,_,_,_,_,⟨h1,h2,h3,xs,h4,h5,h6⟩,ht,hp=>⟨h1,h2,h3,xs,h4,RdK.touch h5 ht (fun b hb hm=>hp b hm (h3 b hb)),fun i a b=>ExP.touch (h6 i a b) ht hp⟩
theorem ExP.touch0 {enc:XC->List Value} {p:Nat->Prop} {n:Nat} {w w':World} {x:XC} {e:TX n} (h:ExP enc p n w x e) (ht:Touch [] w w'):ExP enc p n w' x e:=h.touch ht (by simp)
def ArgsP (enc:XC->List Value) (p:Nat->Prop) (n:Nat) (w:World) (A:Option Addr) (args:List (TX n)):Prop :=
 ∃ xs:List XC,xs.length=args.length/\RdK enc w A xs/\∀ i (h1:i < xs.length) (h2:i < args.length),ExP enc p n w xs[i] args[i]
theorem ArgsP.touch0 {enc:XC->List Value} {p:Nat->Prop} {n:Nat} {w w':World} {A:Option Addr} {args:List (TX n)} (h:ArgsP enc p n w A args) (ht:Touch [] w w'):ArgsP enc p n w' A args:=by
 obtain ⟨xs,h1,h2,h3⟩:=h
 exact ⟨xs,h1,RdK.touch0 h2 ht,fun i a b=>(h3 i a b).touch0 ht⟩
theorem ArgsP.nil (enc:XC->List Value) (p:Nat->Prop) (n:Nat) (w:World) (A:Option Addr):ArgsP enc p n w A []:=⟨[],rfl,RdK.nil _ _ _,fun i h=>absurd h (by simp)⟩
theorem ArgsP.at_ {enc:XC->List Value} (hE:∀ x,(enc x).length=7) {p:Nat->Prop} {n:Nat} {w:World} {A:Option Addr} {args:List (TX n)} (h:ArgsP enc p n w A args) (i:Nat) (hi:i < args.length) :
  ∃ ad b off x,A=some ad/\ad.add (i*7)=⟨b,off,none⟩/\ExP enc p n w x args[i]/\∀ j u,(enc x)[j]?=some u->w.cell? ⟨b,off+j,none⟩=some u:=by
 obtain ⟨xs,h1,h2,h3⟩:=h
 obtain ⟨ad,b,off,e1,e2,_,e3⟩:=RdK.at_ h2 7 hE (by omega) i (by omega)
 exact ⟨ad,b,off,xs[i],e1,e2,h3 i (by omega) hi,e3⟩
theorem ExP.args {enc:XC->List Value} {p:Nat->Prop} {n:Nat} {w:World} {x:XC} {e:TX (n+1)} (h:ExP enc p (n+1) w x e):x.nd=e.1/\x.n=e.2.length/\ArgsP enc p n w x.A e.2:=⟨h.1,h.2.1,h.2.2.2⟩
def allX (q:ND->Prop):(n:Nat)->TX n->Prop
 | 0,_=>True
 | n+1,e=>q e.1/\∀ a∈e.2,allX q n a
def sizeX:(n:Nat)->TX n->Nat
 | 0,_=>0
 | n+1,e=>1+(e.2.map (sizeX n)).sum
def sumX (n:Nat) (l:List (TX n)):Nat:=(l.map (sizeX n)).sum
theorem sumX_snoc (n:Nat) (l:List (TX n)) (k:Nat) (h:k < l.length):sumX n (l.take (k+1))=sumX n (l.take k)+sizeX n l[k]:=by
 unfold sumX
 rw [List.take_succ_eq_append_getElem h,List.map_append,List.sum_append];simp
theorem sizeX_pos:∀ (n:Nat) (e:TX n),1<=sizeX n e
 | 0,e=>e.elim
 | n+1,e=>by unfold sizeX;omega
theorem len_le_sum (n:Nat) (l:List (TX n)):l.length<=sumX n l:=by
 unfold sumX
 induction l with
 | nil=>simp
 | cons a l ih=>have:=sizeX_pos n a;simp;omega
theorem sum_take_le (n:Nat) (l:List (TX n)) (k:Nat):sumX n (l.take k)<=sumX n l:=by
 unfold sumX
 induction l generalizing k with
 | nil=>simp
 | cons a l ih=>cases k with
  | zero=>simp
  | succ k=>have:=ih k;rw [List.take_succ_cons,List.map_cons,List.map_cons,List.sum_cons,List.sum_cons];omega
theorem size_mem {n:Nat} {l:List (TX n)} {a:TX n} (h:a∈l):sizeX n a<=sumX n l:=by
 unfold sumX
 induction l with
 | nil=>cases h
 | cons b l ih =>
  rcases List.mem_cons.1 h with rfl | h
  ·simp
  ·have:=ih h;simp;omega
def XC.val (x:XC):Value:=.agg #[.int .i64 x.nd.kind,.string x.nd.name,.int .i64 x.nd.v.kind,.int .i64 x.nd.v.num,.string x.nd.v.text,.string x.nd.op,.slice x.A x.n x.c]
end
section
open Go.RowKit
def inE (n:Int):List Value:=[.int .i64 n]
theorem inE_length (n:Int):(inE n).length=1:=rfl
theorem inE_one (n:Int):∀ u∈inE n,u.oneCell'=true:=by
 intro u hu
 obtain rfl:u=.int .i64 n:=by simpa [inE] using hu
 rfl
theorem RdKI.at_ {w:World} {A:Option Addr} {l:List Int} (h:RdK inE w A l) (i:Nat) (hi:i < l.length):∃ ad,A=some ad/\w.cell? (ad.add i)=some (.int .i64 l[i]):=by
 obtain ⟨ad,b,off,h1,h2,_,h3⟩:=RdK.at_ h 1 inE_length (by omega) i hi
 rw [Nat.mul_one] at h2
 exact ⟨ad,h1,by rw [h2];exact h3 0 _ rfl⟩
end
end Go.Proofs.YtafoklilkdnepaaGreatDoor
namespace Go.Proofs
open Go.Shelf
def Tryz.lays106_ren:Go.Shelf.Ren:=⟨fun | 106=>157 | 213=>190 | 265=>206 | n=>n,fun | 9=>9 | 3=>3 | n=>n,fun | n=>n⟩
theorem Tryz.lays106:Go.Proofs.Lays.n106 Tryz.prog Tryz.lays106_ren:={
 mixed:=by kernel_rfl
 f106:=Tryz.func157.trans (congrArg some (by kernel_rfl))
 f213:=Tryz.func190.trans (congrArg some (by kernel_rfl))
 f265:=Tryz.func206.trans (congrArg some (by kernel_rfl))
 t3:=Tryz.underlying3
 a3:=Tryz.isAgg3
 z3:=Tryz.sizeOf3
 v3:=Tryz.zeroValue3
 t9:=Tryz.underlying9
 a9:=Tryz.isAgg9
 z9:=Tryz.sizeOf9
 v9:=Tryz.zeroValue9 }
open Go.RowKit in
theorem Tryz.strings_Compare (a b:ByteArray) (w:World) :
  Calls Tryz.prog 157 #[.string a,.string b] w fun e w'=>e=.returned (.int .i64 (Lib.compareBytes a.data.toList b.data.toList))/\w'=w:=Any.strings_Compare Tryz.lays106 a b w
def Tryz.lays122_ren:Go.Shelf.Ren:=⟨fun | 122=>156 | 215=>189 | n=>n,fun | 3=>3 | 4=>4 | n=>n,fun | n=>n⟩
theorem Tryz.lays122:Go.Proofs.Lays.n122 Tryz.prog Tryz.lays122_ren:={
 mixed:=by kernel_rfl
 f122:=Tryz.func156.trans (congrArg some (by kernel_rfl))
 f215:=Tryz.func189.trans (congrArg some (by kernel_rfl))
 t3:=Tryz.underlying3
 a3:=Tryz.isAgg3
 z3:=Tryz.sizeOf3
 v3:=Tryz.zeroValue3
 t4:=Tryz.underlying4
 a4:=Tryz.isAgg4
 z4:=Tryz.sizeOf4
 v4:=Tryz.zeroValue4 }
open Go.RowKit in
theorem Tryz.cmp_Compare_int (x y:Int) (w:World) :
  Calls Tryz.prog 156 #[.int .i64 x,.int .i64 y] w fun e w'=>e=.returned (.int .i64 (Lib.compareInt x y))/\w'=w:=Any.cmp_Compare_int Tryz.lays122 x y w
end Go.Proofs
namespace Go.Proofs.YtafoklilkdnepaaGreatDoor
end Go.Proofs.YtafoklilkdnepaaGreatDoor
