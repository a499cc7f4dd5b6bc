/- Part 1 of the texts of this proof, one behind the other. No condition beyond those that its theorems state. -/
import Derived.Test.YtafoklilkdnepaaGreatDoorChecked
import Derived.WalkKit
import Derived.WalkSpells
import Derived.WalkLawsBesides
import Derived.Lib.Hide
import Derived.Maps.AppendAt
import Derived.Deep.QuietTactic
import Derived.BigQuiet
import Derived.Laws.BytesArg
import Derived.Lib.LazyBuf
import Derived.Lib.SliceRun
import Derived.Lib.SlBytesConst
import Derived.Lib.ConvBytes
import Derived.IntWalk
import Derived.Shelf.Small.Bits
import Derived.Shelf.Small.Strs
import Derived.Shelf.Small.Wraps
import Derived.Shelf.Strconv.Itoa0
import Derived.Shelf.Strconv.Itoa1
import Derived.Shelf.LaysM
import Derived.Shelf.Strconv.Itoa2
import Derived.Shelf.Strconv.Itoa3
import Derived.Shelf.Strings.Search1
import Derived.Test.YtafoklilkdnepaaGreatDoorProg
import Derived.StillTailTactics
import Derived.Lib.IndexMore
import Derived.Lib.Join
import Derived.Maps.OwnSet
import Derived.Lib.ItoaLen
import Derived.BigRegion
import Derived.Deep.RegionHeld3
import Derived.Shelf.Sort.Plain
import Derived.Shelf.Slices.Turned
import Derived.Shelf.Slices.Equal
import Derived.Shelf.Slices.CompactS
import Derived.Ground.Names2Prog
import Derived.Shelf.Slices.SearchI
import Derived.Shelf.Slices.Cells
import Derived.Shelf.Slices.In.SortNone
import Derived.Shelf.Slices.Empties2
import Derived.Lib.AppendZerosOnto
import Derived.Lib.AppendZeros
import Derived.Laws.StructEq
import Derived.OrdersHeld
import Derived.Deep.DrawnRows
import Derived.Deep.DeepCutAuto
import Derived.Laws.Externs
import Derived.Sort.Grow
import Derived.Shelf.SlGeneric
import Derived.Ground.SlsfProg
import Derived.Shelf.SlSortCmp.NoneTotal
import Derived.Lib.LaidTab
import Derived.Test.YtafoklilkdnepaaGreatDoorRows
import Derived.ProofKit
import Derived.Deep.Slices
import Derived.Deep.Fields
import Derived.ChangeSame
import Derived.ChangeArms
import Derived.Deep.MidRow
import Derived.Deep.DeepHandedRow
import Derived.Lib.LaidIn
import GoSem.PinnedTables
import Derived.Maps.RangeWalk
set_option linter.all false
set_option maxRecDepth 40000
set_option maxHeartbeats 25600000
namespace Go.Proofs.YtafoklilkdnepaaGreatDoor
def Ga (p:Prop):Prop:=p
theorem Ga.o {p:Prop} (h:Ga p):p:=h
theorem lh {p:Prop} (h:p):Ga p:=h
theorem Gb {p q:Prop} (hp:p) (hq:q):Ga (p/\q):=⟨hp,hq⟩
theorem Gc {p q r:Prop} (hp:p) (hq:q) (hr:r):Ga (p/\q/\r):=⟨hp,hq,hr⟩
theorem Gd {p q r s:Prop} (hp:p) (hq:q) (hr:r) (hs:s):Ga (p/\q/\r/\s):=⟨hp,hq,hr,hs⟩
theorem Ge {p q r s t:Prop} (hp:p) (hq:q) (hr:r) (hs:s) (ht:t):Ga (p/\q/\r/\s/\t):=⟨hp,hq,hr,hs,ht⟩
theorem Gf {p q r s t u:Prop} (hp:p) (hq:q) (hr:r) (hs:s) (ht:t) (hu:u):Ga (p/\q/\r/\s/\t/\u):=⟨hp,hq,hr,hs,ht,hu⟩
theorem Gg {p q r s t u v:Prop} (hp:p) (hq:q) (hr:r) (hs:s) (ht:t) (hu:u) (hv:v):Ga (p/\q/\r/\s/\t/\u/\v):=⟨hp,hq,hr,hs,ht,hu,hv⟩
theorem Gh {p q r s t u v w:Prop} (hp:p) (hq:q) (hr:r) (hs:s) (ht:t) (hu:u) (hv:v) (hw:w):Ga (p/\q/\r/\s/\t/\u/\v/\w):=⟨hp,hq,hr,hs,ht,hu,hv,hw⟩
abbrev cZ:=@AllReadyH.cons
abbrev dm:=@AllReadyH.nil
abbrev aa:=@And.intro
abbrev cp:=@Array.getElem?_eq_some_iff
abbrev de:=@Array.size_append
abbrev bh:=@Bool.and_eq_true
abbrev d8:=@Bool.and_eq_true_iff
abbrev dq:=@Bool.and_false
abbrev d7:=@Bool.eq_false_iff
abbrev cD:=@Bool.eq_iff_iff
abbrev cL:=@Bool.false_and
abbrev dC:=@Bool.false_eq_true
abbrev cM:=@Bool.true_and
abbrev df:=@DataW.trod_struct
abbrev d4:=@Go.wp_at_succ
abbrev d3:=@Go.wp_at_zero
abbrev cU:=@IntWalk.i64_in
abbrev bU:=@List.all_eq_true
abbrev cO:=@List.any_eq_true
abbrev cA:=@List.append_assoc
abbrev bN:=@List.append_nil
abbrev bj:=@List.drop_eq_getElem_cons
abbrev bY:=@List.drop_length
abbrev b_:=@List.drop_of_length_le
abbrev dA:=@List.drop_zero
abbrev aV:=@List.eq_nil_of_length_eq_zero
abbrev bZ:=@List.filter_append
abbrev cG:=@List.filter_cons
abbrev cR:=@List.filter_cons_of_neg
abbrev cS:=@List.filter_cons_of_pos
abbrev dR:=@List.filter_eq_nil_iff
abbrev cE:=@List.filter_nil
abbrev cW:=@List.findIdx?_eq_none_iff
abbrev bw:=@List.findIdx?_eq_some_iff_getElem
abbrev du:=@List.flatMap_append
abbrev bB:=@List.flatMap_cons
abbrev cX:=@List.foldl_append
abbrev bX:=@List.foldl_cons
abbrev bG:=@List.getD_eq_getElem?_getD
abbrev aX:=@List.getElem?_eq_getElem
abbrev bT:=@List.getElem?_eq_none
abbrev bS:=@List.getElem?_eq_some_iff
abbrev bH:=@List.getElem_append_left
abbrev bM:=@List.getElem_append_right
abbrev cJ:=@List.getElem_cons_succ
abbrev aQ:=@List.getElem_cons_zero
abbrev aW:=@List.getElem_map
abbrev am:=@List.getElem_mem
abbrev az:=@List.length_append
abbrev bK:=@List.length_cons
abbrev cF:=@List.length_drop
abbrev bP:=@List.length_filter_le
abbrev ay:=@List.length_map
abbrev cH:=@List.length_range
abbrev dY:=@List.length_replicate
abbrev dB:=@List.length_singleton
abbrev aO:=@List.length_take
abbrev dI:=@List.length_zip
abbrev cu:=@List.length_zipWith
abbrev aT:=@List.map_append
abbrev cx:=@List.map_cons
abbrev cC:=@List.map_map
abbrev dh:=@List.map_nil
abbrev aZ:=@List.mem_append
abbrev aR:=@List.mem_cons
abbrev aP:=@List.mem_cons_of_mem
abbrev aK:=@List.mem_cons_self
abbrev bE:=@List.mem_filter
abbrev aU:=@List.mem_iff_getElem
abbrev aJ:=@List.mem_map
abbrev cV:=@List.mem_of_getElem?
abbrev da:=@List.mem_of_mem_take
abbrev a_:=@List.mem_range
abbrev aI:=@List.mem_singleton
abbrev cw:=@List.nil_append
abbrev bD:=@List.not_mem_nil
abbrev c_:=@List.pairwise_append
abbrev cq:=@List.pairwise_cons
abbrev cI:=@List.pairwise_iff_getElem
abbrev dQ:=@List.pairwise_lt_range
abbrev dJ:=@List.pairwise_map
abbrev dy:=@List.perm_ext_iff_of_nodup
abbrev dg:=@List.range_succ
abbrev ax:=@List.setIfInBounds_toArray
abbrev aE:=@List.set_cons_succ
abbrev aD:=@List.set_cons_zero
abbrev cT:=@List.sum_cons
abbrev aH:=@List.take_length
abbrev bR:=@List.take_of_length_le
abbrev au:=@List.take_succ_eq_append_getElem
abbrev dP:=@MapKept.run_getObj_map
abbrev dD:=@Nat.add_mul
abbrev aM:=@Nat.add_zero
abbrev aL:=@Nat.le_refl
abbrev bm:=@Nat.le_trans
abbrev bW:=@Nat.lt_of_lt_of_le
abbrev dE:=@Nat.mul_le_mul_right
abbrev bO:=@Nat.mul_one
abbrev dj:=@Nat.one_mul
abbrev aY:=@Nat.zero_le
abbrev bQ:=@Nat.zero_mul
abbrev dO:=@Option.getD_some
abbrev bJ:=@Option.some.inj
abbrev bI:=@Or.inl
abbrev dW:=@Tryz.func114
abbrev dT:=@Tryz.func131
abbrev dV:=@Tryz.func144
abbrev dN:=@Tryz.ntmps114
abbrev dL:=@Tryz.ntmps131
abbrev dM:=@Tryz.ntmps144
abbrev d5:=@Tryz.ntmps149
abbrev dZ:=@Tryz.ntmps153
abbrev dU:=@Tryz.ntmps64
abbrev dt:=@Tryz.results107
abbrev dH:=@Tryz.results149
abbrev dG:=@Tryz.results153
abbrev cK:=@Tryz.underlying105
abbrev dS:=@Tryz.underlying165
abbrev bC:=@Tryz.underlying24
abbrev bp:=@Tryz.underlying25
abbrev bV:=@Tryz.underlying27
abbrev cN:=@Tryz.underlying3
abbrev bA:=@Tryz.underlying31
abbrev cj:=@Tryz.underlying33
abbrev dK:=@Tryz.underlying49
abbrev dz:=@Tryz.underlying5
abbrev cl:=@Tryz.underlying66
abbrev cg:=@Tryz.underlying9
abbrev db:=@Tryz.underlying97
abbrev dX:=@Tryz.zeroValue3
abbrev cY:=@UInt8.lt_iff_toNat_lt
abbrev dr:=@World.block_lt_of_cell?
abbrev ao:=@World.size_alloc
abbrev aw:=@beq_eq_false_iff_ne
abbrev dx:=@beq_iff_eq
abbrev aG:=@bodyPost_ret
abbrev bf:=@congrArg
abbrev aC:=@decide_eq_false
abbrev aF:=@decide_eq_true
abbrev bF:=@decide_eq_true_eq
abbrev bi:=@eq_false
abbrev cQ:=@eq_true
abbrev ah:=@heap_alloc_new
abbrev dF:=@if_false
abbrev ab:=@if_neg
abbrev ae:=@if_pos
abbrev aN:=@of_decide_eq_true
abbrev cP:=@or_false
abbrev ci:=@results_cell_row
abbrev bx:=@rounds_succ
abbrev d6:=@run_eql_slice_nil
abbrev dw:=@wpAnyH_ready
abbrev aS:=@wpQuiet_nil
abbrev b8:=@wp_loop_rounds
section
open Go.RowKit
theorem ew{k:IntKind}{a b:Int}(h:a=b):Ending.returned (.int k a)=.returned (.int k b):=by rw[h]
theorem eo{a b:Bool}(h:a=b):Ending.returned (.bool a)=.returned (.bool b):=by rw[h]
theorem pu{A:Option Addr}{c n m:Nat}(h:n=m):Ending.returned (.slice A n c)=.returned (.slice A m c):=by rw[h]
theorem ez{p:Prop}(h:Ga p):p:=h
theorem go{p:Prop}(h:p):Ga p:=h
structure Touch (fp:List Nat) (w w':World):Prop where
 os:w'.os=w.os
 tape:w'.tape=w.tape
 output:w'.output=w.output
 size:w.heap.size<=w'.heap.size
 block:∀k,k<w.heap.size->k∉fp->w'.heap[k]?=w.heap[k]?
theorem Touch.refl(fp:List Nat)(w:World):Touch fp w w:=⟨rfl,rfl,rfl,aL _,λ_ _ _=>rfl⟩
theorem Touch.trans{fp fp2:List Nat}{w w1 w2:World}(h:Touch fp w w1)(k:Touch fp2 w1 w2)(hs:∀ b∈fp2,b∈fp\/w.heap.size<=b):Touch fp w w2:=
 ⟨k.os.trans h.os,k.tape.trans h.tape,k.output.trans h.output,bm h.size k.size,λb hb hn=>
  (k.block b (bW hb h.size) (λhm=>by rcases hs b hm with h1 | h1;exact hn h1;omega)).trans (h.block b hb hn)⟩
theorem Touch.trans0{fp:List Nat}{w w1 w2:World}(h:Touch fp w w1)(k:Touch [] w1 w2):Touch fp w w2:=h.trans k (by simp)
theorem Touch.mono{fp fp2:List Nat}{w w1:World}(h:Touch fp w w1)(hs:∀ b∈fp,b∈fp2\/w.heap.size<=b):Touch fp2 w w1:=
 ⟨h.os,h.tape,h.output,h.size,λb hb hn=>h.block b hb (λhm=>by rcases hs b hm with h1 | h1;exact hn h1;omega)⟩
theorem Touch.alloc{fp:List Nat}{w w1:World}(h:Touch fp w w1)(o:Obj):Touch fp w (w1.alloc o):=
 ⟨h.os,h.tape,h.output,bm h.size (by simp),λb hb hn=>(Below.heap_alloc w1 o b (bW hb h.size)).trans (h.block b hb hn)⟩
theorem Touch.drewN{fp:List Nat}{w w1:World}(h:Touch fp w w1)(n:Nat):Touch fp w (w1.drewN n):=⟨h.os,h.tape,h.output,h.size,h.block⟩
theorem Touch.drew{fp:List Nat}{w w1:World}(h:Touch fp w w1):Touch fp w w1.drew:=⟨h.os,h.tape,h.output,h.size,h.block⟩
theorem Touch.setCell{fp:List Nat}{w w1:World}(h:Touch fp w w1){p:Addr}(hp:p.block∈fp\/w.heap.size<=p.block)(u:Value):Touch fp w (w1.setCell p u):=
 ⟨h.os,h.tape,h.output,by simpa [World.setCell] using h.size,λb hb hn=>(Below.heap_setCell w1 p u b (by
  rintro rfl;rcases hp with hp|hp
  ·exact hn hp
  omega)).trans (h.block b hb hn)⟩
theorem Touch.of_grown{w w':World}{row:Option Nat}(h:w.grownBy w' row):Touch row.toList w w':=
 ⟨h.os,h.tape,h.output,h.size,λk hk hn=>h.block k hk (λe=>hn (by rw[<- e];simp))⟩
theorem Touch.below{fp:List Nat}{w w':World}(h:Touch fp w w'){n:Nat}(hn:n<=w.heap.size)(hf:∀ b∈fp,n<=b):Below n w w':=
 ⟨h.os,h.tape,h.output,h.size,λk hk=>h.block k (bW hk hn) (λhm=>by have:=hf k hm;omega)⟩
theorem Touch.below0{w w':World}(h:Touch [] w w'):Below w.heap.size w w':=h.below (aL _) (by simp)
theorem Touch.cell{fp:List Nat}{w w':World}(h:Touch fp w w'){a:Addr}{v:Value}(hc:w.cell? a=some v)(hn:a.block∉fp):w'.cell? a=some v:=
 (World.cell?_of_block (h.block a.block (dr w a hc) hn)).trans hc
theorem Touch.blk{fp:List Nat}{w w':World}(h:Touch fp w w'){g:Nat}{o:Obj}(hc:w.heap[g]?=some o)(hn:g∉fp):w'.heap[g]?=some o:=
 (h.block g (by rcases Nat.lt_or_ge g w.heap.size with hl | hl;exact hl;rw[Array.getElem?_eq_none hl] at hc;cases hc) hn).trans hc
theorem mU(a:Addr)(n:Nat):(a.add n).block=a.block:=by unfold Addr.add;split<;>rfl
theorem yW(a:Addr)(i j:Nat):(a.add i).add j=a.add (i+j):=by unfold Addr.add;by_cases hi:i=0<;>by_cases hj:j=0<;>simp[hi,hj,Nat.add_assoc]
def ed:Option Addr->List Nat
 |some a=>[a.block]
 |none=>[]
def Rd(w:World)(A:Option Addr)(xs:List Value):Prop:=0<xs.length->∃ad,A=some ad/\∀j u,xs[j]?=some u->w.cell? (ad.add j)=some u
theorem Rd.touch{w w':World}{A:Option Addr}{xs:List Value}{fp:List Nat}(h:Rd w A xs)(ht:Touch fp w w')(hn:∀ b∈ed A,b∉fp):Rd w' A xs:=by intro h0;obtain⟨ad,rfl,hc⟩:=h h0;exact⟨ad,rfl,λj u hu=>ht.cell (hc j u hu) (by rw[mU];exact hn _ (by simp[ed]))⟩
theorem Rd.touch0{w w':World}{A:Option Addr}{xs:List Value}(h:Rd w A xs)(ht:Touch [] w w'):Rd w' A xs:=h.touch ht (by simp)
theorem Rd.nil(w:World)(A:Option Addr):Rd w A []:=λh=>absurd h (by simp)
theorem Rd.lt{w:World}{A:Option Addr}{xs:List Value}(h:Rd w A xs)(h0:0<xs.length):∀b∈ed A,b<w.heap.size:=by
 obtain⟨ad,rfl,hc⟩:=h h0;intro b hb;have:b=ad.block:=by simpa [ed] using hb
 subst this;have:=dr w _ (hc 0 xs[0] (aX h0));rwa[mU] at this
def B(b:UInt8):Value:=.int .u8 b.toNat
theorem Bs(l:List UInt8):∀u∈l.map B,u.oneCell'=true:=by intro u hu;obtain⟨b,_,rfl⟩:=aJ.1 hu;rfl
def mo(w:World)(A:Option Addr)(l:List UInt8):Prop:=Rd w A (l.map B)
theorem mo.at_{w:World}{A:Option Addr}{l:List UInt8}(h:mo w A l)(k:Nat)(hk:k<l.length):∃ad,A=some ad/\w.cell? (ad.add k)=some (.int .u8 l[k].toNat):=by obtain⟨ad,e,hc⟩:=h (by simpa using Nat.lt_of_le_of_lt (aY _) hk);exact⟨ad,e,hc k _ (by simp[hk,B])⟩
def ii(w:World)(A:Option Addr)(c:Nat)(l:List UInt8):Prop:=w.ownsRow 0 5 1 (.slice A l.length c) l.length (l.map B)
theorem ii.rd{w:World}{A:Option Addr}{c:Nat}{l:List UInt8}(h:ii w A c l):mo w A l:=by
 intro h0;rcases h.2 with hv|⟨g,cap,cur,hv,_⟩
 ·simp at h0;omega
 have hA:A=some ⟨g,0,none⟩:=by injection hv
 subst hA;exact⟨_,rfl,World.ownsRow.cells h (g:=g) rfl⟩
theorem ii.le{w:World}{A:Option Addr}{c:Nat}{l:List UInt8}(h:ii w A c l):l.length<=c:=by
 obtain⟨_,⟨hv,hn⟩|⟨g,cap,cur,hv,_,_,hnc,_⟩⟩:=h
 ·omega
 injection hv with _ _ h3;omega
theorem ii.cap{w:World}{A:Option Addr}{c:Nat}{l:List UInt8}(h:ii w A c l):c<=9223372036854775807:=by
 obtain⟨_,⟨hv,hn⟩|⟨g,cap,cur,hv,_,_,_,hm,_⟩⟩:=h
 ·injection hv with _ _ h3;omega
 injection hv with _ _ h3;unfold maxLen at hm;omega
theorem ii.nil(w:World):ii w none 0 []:=World.ownsRow_nil _ _ _ _
theorem ii.touch{w w':World}{A:Option Addr}{c:Nat}{l:List UInt8}{fp:List Nat}(h:ii w A c l)(ht:Touch fp w w')(hn:∀ b∈ed A,b∉fp):ii w' A c l:=by
 refine⟨h.1, ?_⟩;rcases h.2 with hv|⟨g,cap,cur,hv,hb,hg,rest⟩
 ·exact .inl hv
 have hA:A=some ⟨g,0,none⟩:=by injection hv
 subst hA;exact .inr ⟨g,cap,cur,hv,hb,ht.blk hg (hn g (by simp[ed])),rest⟩
theorem ii.touch0{w w':World}{A:Option Addr}{c:Nat}{l:List UInt8}(h:ii w A c l)(ht:Touch [] w w'):ii w' A c l:=h.touch ht (by simp)
theorem ii.lt{w:World}{A:Option Addr}{c:Nat}{l:List UInt8}(h:ii w A c l):∀b∈ed A,b<w.heap.size:=by
 intro b hb;rcases h.2 with ⟨hv,_⟩|⟨g,cap,cur,hv,_,hg,_⟩
 ·injection hv with hA _ _;subst hA;cases hb
 have hA:A=some ⟨g,0,none⟩:=by injection hv
 subst hA;have:b=g:=by simpa [ed] using hb
 subst this;exact(cp.1 hg).1
theorem ii.head{w:World}{A:Option Addr}{c:Nat}{l:List UInt8}(h:ii w A c l):A=none/\l=[]/\c=0\/∃g,A=some ⟨g,0,none⟩:=by
 rcases h.2 with ⟨hv,h0⟩|⟨g,cap,cur,hv,_⟩
 ·injection hv with hA _ hc;exact .inl ⟨hA,aV h0,hc⟩
 injection hv with hA _ _;exact .inr ⟨g,hA⟩
theorem ii.empty_new(w:World):ii (w.alloc (.cells #[] 5)) (some ⟨w.heap.size,0,none⟩) 0 []:=
 ⟨rfl,.inr ⟨w.heap.size,0,#[],rfl,aY _,ah w _,aL _,aY _,rfl,rfl⟩⟩
theorem ii.new(w:World)(l:List UInt8)(hl:l.length<=maxLen):ii (w.alloc (.cells (l.map B).toArray 5)) (some ⟨w.heap.size,0,none⟩) l.length l:=
 ⟨by simp,.inr ⟨w.heap.size,l.length,(l.map B).toArray,rfl,aY _,ah w _,aL _,hl,by simp,by simp[List.take_of_length_le]⟩⟩
section
variable {P:Program} (w:World)
theorem qy(base:Nat)(t ty e:TypeId)(i:TypeInfo)(size:Nat)(ht:P.underlying t=some (.slice e))(hi:P.info? e=some i) (v:Value) (n:Nat) (xs:List Value) (hown:w.ownsRow base e size v n xs) (c:Nat):(Builtin.append_ #[t,t] ty #[v,.slice none 0 c]).run P w=.ok v w:=by
 rcases hown.2 with ⟨rfl,rfl⟩|⟨g,cap,cur,rfl,_,_,hnc,_⟩
 ·simp[Builtin.append_,run_underlying ht,sizeOf,typeInfo,hi,Builtin.lenOf,Builtin.firstCells]
 simp[Builtin.append_,run_underlying ht,sizeOf,typeInfo,hi,Builtin.lenOf,Builtin.firstCells,hnc,storeCells]
theorem EX(t ty e:TypeId)(i:TypeInfo)(z:Value)(size bytes:Nat)(ht:P.underlying t=some (.slice e))(hi:P.info? e=some i)(hz:i.zero=some z) (hsize:i.size=size) (hby:i.bytes=bytes) (hzs:z.cells.size=size) (hsz:0<size) (A0:Option Addr) (n c0:Nat) (xs:List Value) (hown:w.ownsRow 0 e size (.slice A0 n c0) n xs) (A:Option Addr) (m c:Nat) (news:List Value) (hl:news.length=m*size) (hr:Rd w A news) (h1:∀u∈news,u.oneCell'=true) (h63:n+m<=maxLen) (hbytes:(n+m)*bytes<=140737488355328) : ∃A' c' w',(Builtin.append_ #[t,t] ty #[.slice A0 n c0,.slice A m c]).run P w=.ok (.slice A' (n+m) c') w'/\w'.ownsRow 0 e size (.slice A' (n+m) c') (n+m) (xs++news)/\Touch (ed A0) w w' /\ (∀b∈ed A',b∈ed A0\/b=w.heap.size):=by
 have hfp:∀v:Value,∀A1 n1 c1,v=.slice A1 n1 c1->v.ownBlock.toList=ed A1:=by rintro v A1 n1 c1 rfl;cases A1<;>rfl
 rcases A with _|ad
 ·have hm:m=0:=by
   rcases Nat.eq_zero_or_pos m with h0|h0
   ·exact h0
   obtain⟨ad,h,_⟩:=hr (by rw[hl];exact Nat.mul_pos h0 hsz);cases h
  subst hm;have hn:news=[]:=aV (by simpa using hl);subst hn;exact⟨A0,c0,w,qy w 0 t ty e i size ht hi _ n xs hown c,by simpa using hown,Touch.refl _ _,λb hb=>.inl hb⟩
 have hcells:∀j u,news[j]?=some u->w.cell? (ad.add j)=some u:=by intro j u hu;obtain⟨ad',h,hc⟩:=hr (Nat.lt_of_le_of_lt (aY _) (bS.1 hu).1);injection h with h;subst h;exact hc j u hu
 obtain⟨v',w',hrun,h2,h3,h4,h5⟩:=run_append_own_at (P:=P) w 0 t ty e i z size bytes ht hi hz hsize hby hzs hsz _ n xs hown ad m c news hl hcells h1 h63 hbytes (aY _);have ht':Touch (ed A0) w w':=by have:=Touch.of_grown h3;rwa[hfp _ _ _ _ rfl] at this
 have hv:∃A' c',v'=.slice A' (n+m) c':=by
  rcases h2.2 with ⟨e1,e2⟩|⟨g,cap,cur,e1,_⟩
  ·exact⟨none,0,by rw[e1,e2]⟩
  exact⟨_,_,e1⟩
 obtain⟨A',c',rfl⟩:=hv;refine⟨A',c',w',hrun,h2,ht',λb hb=> ?_⟩;have hb':b∈(Value.slice A' (n+m) c').ownBlock.toList:=by rw[hfp _ _ _ _ rfl];exact hb
 rcases h5 with e5|e5
 ·left;rw[e5,hfp _ _ _ _ rfl] at hb';exact hb'
 right;rw[e5] at hb';simpa using hb'
theorem zO{o:Oper}{a:Act}{K:Act->World->Prop}{Q:Exit->Act->World->Prop}(s x:Operand)(t:TypeId)
  (ho:o.op=.call { callee:=.builtin .append,args:=#[s,x],argTypes:=#[t,t] })
  (e:TypeId) (i:TypeInfo) (z:Value) (size bytes:Nat) (ht:P.underlying t=some (.slice e)) (hi:P.info? e=some i) (hz:i.zero=some z)
  (hsize:i.size=size) (hby:i.bytes=bytes) (hzs:z.cells.size=size) (hsz:0<size)
  (A0:Option Addr) (n c0:Nat) (xs:List Value) (hs:a.eval s=.slice A0 n c0) (hown:w.ownsRow 0 e size (.slice A0 n c0) n xs)
  (A:Option Addr) (m c:Nat) (news:List Value) (hx:a.eval x=.slice A m c) (hl:news.length=m*size) (hr:Rd w A news) (h1:∀u∈news,u.oneCell'=true)
  (h63:n+m<=maxLen) (hbytes:(n+m)*bytes<=140737488355328)
  (h:∀A' c' w',w'.ownsRow 0 e size (.slice A' (n+m) c') (n+m) (xs++news)->Touch (ed A0) w w'->(∀b∈ed A',b∈ed A0\/b=w.heap.size)->K (a.put o.dst (.slice A' (n+m) c')) w'):o.wp P a w K Q:=by
 obtain⟨A',c',w',hrun,h2,h3,h4⟩:=EX (P:=P) w t o.type e i z size bytes ht hi hz hsize hby hzs hsz A0 n c0 xs hown A m c news hl hr h1 h63 hbytes
 unfold Oper.wp execOp
 simp only[ho,resolve,invoke,builtin,Sem.run_bind,Sem.run_pure,Result.andThen_ok,List.map_toArray,List.map_cons,List.map_nil,hs,hx,hrun]
 exact h A' c' w' h2 h3 h4
theorem sf{ops:Array Oper}{rest:List Oper}{o:Oper}{a:Act}{Q:Exit->Act->World->Prop}(hgd:o.guard=none)(s x:Operand)(t:TypeId)
  (ho:o.op=.call { callee:=.builtin .append,args:=#[s,x],argTypes:=#[t,t] })
  (e:TypeId) (i:TypeInfo) (z:Value) (size bytes:Nat) (ht:P.underlying t=some (.slice e)) (hi:P.info? e=some i) (hz:i.zero=some z)
  (hsize:i.size=size) (hby:i.bytes=bytes) (hzs:z.cells.size=size) (hsz:0<size)
  (A0:Option Addr) (n c0:Nat) (xs:List Value) (hs:a.eval s=.slice A0 n c0) (hown:w.ownsRow 0 e size (.slice A0 n c0) n xs)
  (A:Option Addr) (m c:Nat) (news:List Value) (hx:a.eval x=.slice A m c) (hl:news.length=m*size) (hr:Rd w A news) (h1:∀u∈news,u.oneCell'=true)
  (h63:n+m<=maxLen) (hbytes:(n+m)*bytes<=140737488355328)
  (h:∀A' c' w',w'.ownsRow 0 e size (.slice A' (n+m) c') (n+m) (xs++news)->Touch (ed A0) w w'->(∀b∈ed A',b∈ed A0\/b=w.heap.size)->wpList P ops Q rest (a.put o.dst (.slice A' (n+m) c')) w') :
  wpList P ops Q (o:: rest) a w:=
 wpList_plain hgd λ_ hK=>zO w s x t ho e i z size bytes ht hi hz hsize hby hzs hsz A0 n c0 xs hs hown A m c news hx hl hr h1 h63 hbytes λA' c' w' h2 h3 h4=>hK _ _ (h A' c' w' h2 h3 h4)
theorem DI{ops:Array Oper}{o:Oper}{a:Act}{K:Act->World->Prop}{Q:Exit->Act->World->Prop}{E:Prop}(hgd:o.guard=none)(s x:Operand)(t:TypeId)
  (ho:o.op=.call { callee:=.builtin .append,args:=#[s,x],argTypes:=#[t,t] })
  (e:TypeId) (i:TypeInfo) (z:Value) (size bytes:Nat) (ht:P.underlying t=some (.slice e)) (hi:P.info? e=some i) (hz:i.zero=some z)
  (hsize:i.size=size) (hby:i.bytes=bytes) (hzs:z.cells.size=size) (hsz:0<size)
  (A0:Option Addr) (n c0:Nat) (xs:List Value) (hs:a.eval s=.slice A0 n c0) (hown:w.ownsRow 0 e size (.slice A0 n c0) n xs)
  (A:Option Addr) (m c:Nat) (news:List Value) (hx:a.eval x=.slice A m c) (hl:news.length=m*size) (hr:Rd w A news) (h1:∀u∈news,u.oneCell'=true)
  (h63:n+m<=maxLen) (hbytes:(n+m)*bytes<=140737488355328)
  (h:∀A' c' w',w'.ownsRow 0 e size (.slice A' (n+m) c') (n+m) (xs++news)->Touch (ed A0) w w'->(∀b∈ed A',b∈ed A0\/b=w.heap.size)->K (a.put o.dst (.slice A' (n+m) c')) w') :
  if Region.wanted o (yielded ops a.tmps)=true then Oper.wp P o a w K Q else E:=by
 have hw:Region.wanted o (yielded ops a.tmps)=true:=by simp[Region.wanted,hgd]
 rw[ae hw]
 exact zO w s x t ho e i z size bytes ht hi hz hsize hby hzs hsz A0 n c0 xs hs hown A m c news hx hl hr h1 h63 hbytes h
end
theorem Ey:(Tryz.prog.info? 5).map (λi=>(i.zero,i.size,i.bytes))=some (some (.int .u8 0),1,1):=by kernel_rfl
theorem lU{w:World}{ops:Array Oper}{rest:List Oper}{o:Oper}{a:Act}{Q:Exit->Act->World->Prop}(hgd:o.guard=none)(s x:Operand)
  (ho:o.op=.call { callee:=.builtin .append,args:=#[s,x],argTypes:=#[165,165] })
  (A0:Option Addr) (n c0:Nat) (l:List UInt8) (hn:l.length=n) (hs:a.eval s=.slice A0 n c0) (hown:ii w A0 c0 l)
  (A:Option Addr) (k c:Nat) (m:List UInt8) (hk:m.length=k) (hx:a.eval x=.slice A k c) (hr:mo w A m) (hbytes:n+k<=140737488355328)
  (h:∀A' c' w',ii w' A' c' (l++m)->Touch (ed A0) w w'->(∀b∈ed A',b∈ed A0\/b=w.heap.size)->wpList Tryz.prog ops Q rest (a.put o.dst (.slice A' (n+k) c')) w') :
  wpList Tryz.prog ops Q (o:: rest) a w:=by
 obtain⟨i0,hi0,hz0,hz1,hz2⟩:=info_parts Ey
 subst hn hk
 refine sf w hgd s x _ ho 5 i0 _ 1 1 dS hi0 hz0 hz1 hz2 rfl (by omega) A0 l.length c0 _ hs hown A m.length c _ hx (by simp) hr (Bs _) (by simp only[maxLen];omega) (by omega) ?_
 intro A' c' w' h2 h3 h4
 exact h A' c' w' (by unfold ii;rw[aT,az];exact h2) h3 h4
theorem mo.one(w:World)(x:UInt8):mo (w.alloc (.cells #[B x] 5)) (some ⟨w.heap.size,0,none⟩) [x]:=
 (ii.new w [x] (by simp[maxLen])).rd
theorem mo.one'(w:World)(x:UInt8){z:Int}(h:z=x.toNat):mo (w.alloc (.cells #[.int .u8 z] 5)) (some ⟨w.heap.size,0,none⟩) [x]:=by subst h;exact mo.one w x
def S(l:List UInt8):ByteArray:=⟨l.toArray⟩
theorem yS{w:World}{A:Option Addr}{n:Nat}(c:Nat){l:List UInt8}(hn:l.length=n)(hr:mo w A l):(convert 165 9 (.slice A n c)).run Tryz.prog w=.ok (.string (S l)) w:=by
 subst hn;rcases Nat.eq_zero_or_pos l.length with h0|h0
 ·obtain rfl:=aV h0;cases A with
  |none=>exact run_convert_bytes_nil (P:=Tryz.prog) w 165 5 dS dz _ _ _ cg
  |some ad =>
   have hl:(loadCells ad 0).run Tryz.prog w=.ok (([]:List Int).map (Value.int .u8)).toArray w:=run_loadCells_list (P:=Tryz.prog) w ad [] (by simp)
   rw[run_convert_bytes_string w _ _ _ _ _ c dS dz cg]
   exact run_bytesToString w ad 0 c [] hl
 obtain⟨ad,rfl,hc⟩:=hr (by simpa using h0);have hl:(loadCells ad l.length).run Tryz.prog w=.ok ((l.map (λb=>(b.toNat:Int))).map (Value.int .u8)).toArray w:=by have:=run_loadCells_list (P:=Tryz.prog) w ad (l.map B) hc;rw[ay] at this;rw[this,cC];rfl
 rw[run_convert_bytes_string w _ _ _ _ _ c dS dz cg,run_bytesToString w ad _ c _ hl,foldl_push_bytes];simp[S,ByteArray.empty,ByteArray.emptyWithCapacity,Function.comp_def];rfl
theorem pj(v:Value)(n:Nat):madeCells #[v] n=(List.replicate n v).toArray:=by
 apply Array.ext
 ·simp[madeCells]
 intro i h1 h2;simp[madeCells,Nat.mod_one]
end
section
open Go.RowKit
theorem uL{a b:List UInt8}(h:S a=S b):a=b:=by have:=bf (fun x:ByteArray=>x.data.toList) h;simpa [S] using this
theorem yv(a b:List UInt8):(S a=S b)=(a=b):=propext ⟨uL,λh=>by rw[h]⟩
theorem pp(a:List UInt8):(S a).toList=a:=by rw[ByteArray.toList_eq];simp[S]
theorem ji(s:List UInt8):(S s).size=s.length:=by simp[S,ByteArray.size]
theorem wC(s:List UInt8):(S s).data.toList=s:=by simp[S]
theorem mP(s:List UInt8)(W:World):(convert 9 165 (.string (S s))).run Tryz.prog W=.ok (.slice (some ⟨W.heap.size,0,none⟩) s.length (grownCap W s.length 0 5)) (Lib.bytesWorld W 5 (S s)):=by have:=Lib.run_convert_string_bytes (P:=Tryz.prog) W 9 165 5 (S s) cg dS dz;rw[ji] at this;exact this
theorem nP(W:World)(s:List UInt8):Touch [] W (Lib.bytesWorld W 5 (S s)):=
 ⟨rfl,rfl,rfl,by rw[Lib.bytesWorld_size];omega,λk hk _=>Lib.bytesWorld_at_old W _ _ k hk⟩
theorem rr(W:World)(s:List UInt8):mo (Lib.bytesWorld W 5 (S s)) (some ⟨W.heap.size,0,none⟩) s:=λ_=>
 ⟨_,rfl,λj u hu=>by
  have hadd:(⟨W.heap.size,0,none⟩:Addr).add j=⟨W.heap.size,j,none⟩:=by unfold Addr.add;split<;>simp_all
  have hj:j<s.length:=by have:=(bS.1 hu).1;simpa using this
  rw[hadd,Lib.bytesWorld_cell _ _ _ j (by rw[ji];exact hj),wC];simp only[List.getElem?_map,List.getElem?_eq_getElem hj,Option.map_some,Option.some.injEq] at hu;rw[<- hu];simp[List.getD,hj,B]⟩
theorem j3(s:ByteArray):s.data.toList.length=s.size:=by rw[Array.length_toList];rfl
structure VD where
 kind:Int
 num:Int
 text:ByteArray
def VD.val(v:VD):Value:=.agg #[.int .i64 v.kind,.int .i64 v.num,.string v.text]
structure VD.Ok (v:VD) (m:Nat):Prop where
 k : -9223372036854775808<=v.kind/\v.kind<=9223372036854775807
 n : -9223372036854775808<=v.num/\v.num<=9223372036854775807
 t:v.text.size<=m
theorem d_{w:World}{g i:Nat}{cs:Array Value}{t:TypeId}{v:Value}(h:w.heap[g]?=some (.cells cs t (0,0)))(hv:cs[i]?=some v):w.cell? ⟨g,i,none⟩=some v:=by rw[cell_of_row w g i cs t (0,0) h];exact hv
theorem fD{w:World}{g:Nat}{cs:Array Value}{t:TypeId}(h:w.heap[g]?=some (.cells cs t (0,0)))(i:Nat)(u:Value): (w.setCell ⟨g,i,none⟩ u).heap[g]?=some (.cells (cs.setIfInBounds i u) t (0,0)):=by simp[World.setCell,Array.getElem?_modify,h]
theorem m9(s:ByteArray):S s.data.toList=s:=by cases s;simp[S]
theorem jW(x:ByteArray):x.toList=x.data.toList:=ByteArray.toList_eq x
theorem uJ{x y:ByteArray}(h:x.data.toList=y.data.toList):x=y:=by rw[<- m9 x,<- m9 y,h]
theorem jZ(x y:ByteArray):(x.toList==y.toList)=decide (x=y):=by rw[jW,jW,cD];simp only[beq_iff_eq,decide_eq_true_eq];exact⟨uJ,λh=>by rw[h]⟩
def ms(c:UInt8):Bool:=decide (32<=c.toNat)&&decide (c.toNat<=126)
def ij(t:List UInt8):Bool:=t.all ms&&decide (t.length<=64)
theorem AP(t:List UInt8)(hs:t.length<=140737000000000)(w:World): Calls Tryz.prog 182 #[.string (S t)] w λe w'=>e=.returned (.bool (ij t))/\Touch [] w w':=by
 go_enter Tryz.func182,Tryz.ntmps182;have hconv:=mP t w;have hsz:=ji t;have hr:=rr w t;have ht:=nP w t;obtain⟨W,hW⟩:∃W,W=Lib.bytesWorld w 5 (S t):=⟨_,rfl⟩;rw[<- hW] at hconv hr ht;clear hW;go_wp2_with fail;clear hconv;go_loop [8] (λi=>∃k:Nat,k<=t.length/\i=.int .i64 k/\Ga ((t.take k).all ms=true)) (λi=>t.length-(intOf i).toNat)
 case atStart=>exact⟨0,by omega,rfl,lh rfl⟩
 case round =>
 obtain⟨k,hk,rfl,hall⟩:=hrel;by_cases hlt:k<t.length
 ·obtain⟨ad,e1,hcell⟩:=hr.at_ k hlt;obtain rfl:⟨w.heap.size,0,none⟩=ad:=by injection e1
  obtain⟨x,hx⟩:∃x,x=t[k]:=⟨_,rfl⟩;have hadd:(⟨w.heap.size,0,none⟩:Addr).add k=⟨w.heap.size,k,none⟩:=by unfold Addr.add;split<;>simp_all
  rw[<- hx,hadd] at hcell;have hxl:=x.toNat_lt;have hbad:ms x=false->ij t=false:=λh=>by
   unfold ij;have:t.all ms=false:=by rw[List.all_eq_false];exact⟨t[k],am hlt,by rw[<- hx,h];simp⟩
   rw[this];rfl
  have hgood:ms x=true->(t.take (k+1)).all ms=true:=λh=>by rw[au hlt,List.all_append,hall.o,<- hx];simp[h]
  have Hb:=lh hbad;have Hg:=lh hgood;clear hbad hgood hx hall e1 hadd;by_cases h1:x.toNat<32
  ·have hz:((x.toNat:Int)<32)=True:=cQ (by omega);go_wp2;go_ret;exact⟨by rw[Hb.o (by simp[ms];omega)];rfl,ht⟩
  have hz:((x.toNat:Int)<32)=False:=bi (by omega);by_cases h2:126<x.toNat
  ·have hy:(126<(x.toNat:Int))=True:=cQ (by omega);go_wp2;go_ret;exact⟨by rw[Hb.o (by simp[ms];omega)];rfl,ht⟩
  have hy:(126<(x.toNat:Int))=False:=bi (by omega);go_wp2;go_round
  case rel=>exact⟨k+1,by omega,by go_num,lh (Hg.o (by simp[ms];omega))⟩
  case measure=>simp[intOf];omega
 obtain rfl:k=t.length:=by omega
 have hfin:ij t=decide ((t.length:Int)<=64):=by have h:=hall.o;rw[aH] at h;unfold ij;rw[h,cM];exact decide_eq_decide.2 (by omega)
 have Hf:=lh hfin;clear hfin hall;go_wp2;go_ret;exact⟨by rw[Hf.o];rfl,ht⟩
def VD.right(v:VD):Bool:=
 if v.kind=0 then decide (v.num=0)&&v.text.toList.isEmpty else if v.kind=1 then v.text.toList.isEmpty else if v.kind=2 then decide (v.num=0)&&ij v.text.data.toList else false
theorem pM(v:VD)(hs:v.text.size<=140737000000000)(w:World): Calls Tryz.prog 147 #[v.val] w λe w'=>e=.returned (.bool v.right)/\Touch [] w w':=by
 obtain⟨k,n,s⟩:=v;dsimp only[VD.val] at *;go_enter Tryz.func147,Tryz.ntmps147;have t0:=(Touch.refl [] w).alloc (.cells #[.int .i64 k,.int .i64 n,.string s] 31);have hp:=AP s.data.toList (by rw[j3];exact hs) (w.alloc (.cells #[.int .i64 2,.int .i64 0,.string s] 31));rw[m9] at hp;have Hp:=lh hp;clear hp;by_cases h0:k=0
 ·subst h0;by_cases hn:n=0
  ·subst hn;go_wp2_with fail;go_ret;exact⟨rfl,t0⟩
  have hne:(n==0)=false:=by simpa using hn
  have hr:VD.right ⟨0,n,s⟩=false:=by simp[VD.right,hn]
  have Hr:=lh hr;clear hr;go_wp2_with fail;go_ret;exact⟨by rw[Hr.o];rfl,t0⟩
 by_cases h1:k=1
 ·subst h1;go_wp2_with fail;go_ret;exact⟨rfl,t0⟩
 by_cases h2:k=2
 ·subst h2;by_cases hn:n=0
  ·subst hn;go_wp2_with fail;refine Hp.o.mono ?_;rintro e w1 ⟨rfl,t1⟩;go_wp2_with fail;go_ret;exact⟨rfl,t0.trans0 t1⟩
  have hne:(n==0)=false:=by simpa using hn
  have hr:VD.right ⟨2,n,s⟩=false:=by simp[VD.right,hn]
  have Hr:=lh hr;clear hr;go_wp2_with fail;go_ret;exact⟨by rw[Hr.o];rfl,t0⟩
 have hr:VD.right ⟨k,n,s⟩=false:=by simp[VD.right,h0,h1,h2]
 have Hr:=lh hr;clear hr;go_wp2_with fail;go_ret;exact⟨by rw[Hr.o];rfl,t0⟩
end
section
open Go.RowKit
theorem iW{α β:Type}(enc:α->List β)(k:Nat)(hk:∀ x,(enc x).length=k)(xs:List α):(xs.flatMap enc).length=xs.length*k:=by
 induction xs with
 |nil=>simp
 |cons x xs ih=>rw[bB,az,hk,ih,bK,dD];omega
theorem oJ{α β:Type}(enc:α->List β)(k:Nat)(hk:∀ x,(enc x).length=k)(xs:List α)(i j:Nat)(hi:i<xs.length)(hj:j<k):(xs.flatMap enc)[i*k+j]?=(enc xs[i])[j]?:=by
 induction xs generalizing i with
 |nil=>simp at hi
 |cons x xs ih =>
  rw[bB]
  rcases i with _|i
  ·rw[bQ,Nat.zero_add,List.getElem?_append_left (by rw[hk];exact hj)];rfl
  ·have h1:(i+1)*k+j=(enc x).length+(i*k+j):=by rw[hk,dD];omega
   rw[h1,List.getElem?_append_right (Nat.le_add_right _ _),Nat.add_sub_cancel_left];exact ih i (by simpa using hi)
def d9{α:Type}(enc:α->List Value)(w:World)(A:Option Addr)(xs:List α):Prop:=Rd w A (xs.flatMap enc)
theorem d9.touch0{α:Type}{enc:α->List Value}{w w':World}{A:Option Addr}{xs:List α}(h:d9 enc w A xs)(ht:Touch [] w w'):d9 enc w' A xs:=Rd.touch0 h ht
theorem d9.touch{α:Type}{enc:α->List Value}{w w':World}{A:Option Addr}{xs:List α}{fp:List Nat}(h:d9 enc w A xs)(ht:Touch fp w w')(hn:∀ b∈ed A,b∉fp):d9 enc w' A xs:=Rd.touch h ht hn
theorem d9.nil{α:Type}(enc:α->List Value)(w:World)(A:Option Addr):d9 enc w A []:=Rd.nil w A
theorem d9.at_{α:Type}{enc:α->List Value}{w:World}{A:Option Addr}{xs:List α}(h:d9 enc w A xs)(k:Nat)(hk:∀ x,(enc x).length=k)(h0:0<k)(i:Nat)(hi:i<xs.length): ∃ad b off,A=some ad/\ad.add (i*k)=⟨b,off,none⟩/\b=ad.block/\∀j u,(enc xs[i])[j]?=some u->w.cell? ⟨b,off+j,none⟩=some u:=by
 have hpos:0<(xs.flatMap enc).length:=by rw[iW enc k hk];exact Nat.mul_pos (by omega) h0
 obtain⟨ad,rfl,hc⟩:=h hpos;have hall:∀j u,(enc xs[i])[j]?=some u->w.cell? ((ad.add (i*k)).add j)=some u:=λj u hu=>by
  have hj:j<k:=by have:=(bS.1 hu).1;rwa[hk] at this
  rw[yW];exact hc _ u (by rw[oJ enc k hk xs i j hi hj];exact hu)
 have hfirst:(enc xs[i])[0]?=some ((enc xs[i])[0]'(by rw[hk];exact h0)):=aX _;have h1:=hall 0 _ hfirst;have hb:=mU ad (i*k);rcases hp:ad.add (i*k) with ⟨b,off,spot⟩;rw[hp] at h1 hall hb;have e0:(⟨b,off,spot⟩:Addr).add 0=⟨b,off,spot⟩:=by simp[Addr.add]
 rw[e0] at h1;obtain rfl:spot=none:=by simpa using World.cell?_spot h1
 refine⟨ad,b,off,rfl,hp,hb,λj u hu=> ?_⟩;have:=hall j u hu;have e1:(⟨b,off,none⟩:Addr).add j=⟨b,off+j,none⟩:=by unfold Addr.add;split<;>simp_all
 rwa[e1] at this
def ep{α:Type}(t k:Nat)(enc:α->List Value)(w:World)(A:Option Addr)(c:Nat)(xs:List α):Prop:=w.ownsRow 0 t k (.slice A xs.length c) xs.length (xs.flatMap enc)
theorem ep.nil{α:Type}(t k:Nat)(enc:α->List Value)(w:World):ep t k enc w none 0 []:=World.ownsRow_nil _ _ _ _
theorem ep.head{α:Type}{t k:Nat}{enc:α->List Value}{w:World}{A:Option Addr}{c:Nat}{xs:List α}(h:ep t k enc w A c xs):A=none/\xs=[]/\c=0\/∃g,A=some ⟨g,0,none⟩:=by
 rcases h.2 with ⟨hv,h0⟩|⟨g,cap,cur,hv,_⟩
 ·injection hv with hA _ hc;exact .inl ⟨hA,aV h0,hc⟩
 injection hv with hA _ _;exact .inr ⟨g,hA⟩
theorem ep.rd{α:Type}{t k:Nat}{enc:α->List Value}{w:World}{A:Option Addr}{c:Nat}{xs:List α}(h:ep t k enc w A c xs):d9 enc w A xs:=by
 intro h0;rcases h.2 with hv|⟨g,cap,cur,hv,_⟩
 ·obtain rfl:=aV hv.2;simp at h0
 have hA:A=some ⟨g,0,none⟩:=by injection hv
 subst hA;exact⟨_,rfl,World.ownsRow.cells h (g:=g) rfl⟩
theorem ep.le{α:Type}{t k:Nat}{enc:α->List Value}{w:World}{A:Option Addr}{c:Nat}{xs:List α}(h:ep t k enc w A c xs):xs.length<=c:=by
 obtain⟨_,⟨hv,hn⟩|⟨g,cap,cur,hv,_,_,hnc,_⟩⟩:=h
 ·omega
 injection hv with _ _ h3;omega
theorem ep.touch{α:Type}{t k:Nat}{enc:α->List Value}{w w':World}{A:Option Addr}{c:Nat}{xs:List α}{fp:List Nat}(h:ep t k enc w A c xs)(ht:Touch fp w w')(hn:∀ b∈ed A,b∉fp):ep t k enc w' A c xs:=by
 refine⟨h.1, ?_⟩;rcases h.2 with hv|⟨g,cap,cur,hv,hb,hg,rest⟩
 ·exact .inl hv
 have hA:A=some ⟨g,0,none⟩:=by injection hv
 subst hA;exact .inr ⟨g,cap,cur,hv,hb,ht.blk hg (hn g (by simp[ed])),rest⟩
theorem ep.touch0{α:Type}{t k:Nat}{enc:α->List Value}{w w':World}{A:Option Addr}{c:Nat}{xs:List α}(h:ep t k enc w A c xs)(ht:Touch [] w w'):ep t k enc w' A c xs:=h.touch ht (by simp)
theorem ep.lt{α:Type}{t k:Nat}{enc:α->List Value}{w:World}{A:Option Addr}{c:Nat}{xs:List α}(h:ep t k enc w A c xs):∀b∈ed A,b<w.heap.size:=by
 intro b hb;rcases h.2 with ⟨hv,_⟩|⟨g,cap,cur,hv,_,hg,_⟩
 ·injection hv with hA _ _;subst hA;cases hb
 have hA:A=some ⟨g,0,none⟩:=by injection hv
 subst hA;have:b=g:=by simpa [ed] using hb
 subst this;exact(cp.1 hg).1
theorem ep.empty_new{α:Type}(t k:Nat)(enc:α->List Value)(w:World):ep t k enc (w.alloc (.cells #[] t)) (some ⟨w.heap.size,0,none⟩) 0 []:=
 ⟨by simp,.inr ⟨w.heap.size,0,#[],rfl,aY _,ah w _,aL _,aY _,by simp,by simp⟩⟩
theorem eb{α:Type}{enc:α->List Value}{w:World}{ops:Array Oper}{rest:List Oper}{o:Oper}{a:Act}{Q:Exit->Act->World->Prop}(hgd:o.guard=none)(s x:Operand)(t:TypeId)
  (ho:o.op=.call { callee:=.builtin .append,args:=#[s,x],argTypes:=#[t,t] })
  (e:TypeId) (z:Value) (k bytes:Nat) (hinfo:(Tryz.prog.info? e).map (λi=>(i.zero,i.size,i.bytes))=some (some z,k,bytes)) (ht:Tryz.prog.underlying t=some (.slice e))
  (hzs:z.cells.size=k) (hsz:0<k) (hk:∀x,(enc x).length=k) (hone:∀x,∀u∈enc x,u.oneCell'=true)
  (A0:Option Addr) (n c0:Nat) (xs:List α) (hn:xs.length=n) (hs:a.eval s=.slice A0 n c0) (hown:ep e k enc w A0 c0 xs)
  (A:Option Addr) (m c:Nat) (news:List α) (hm:news.length=m) (hx:a.eval x=.slice A m c) (hr:d9 enc w A news) (h63:n+m<=1000000000) (hby:bytes<=1000)
  (h:∀A' c' w',ep e k enc w' A' c' (xs++news)->Touch (ed A0) w w'->(∀b∈ed A',b∈ed A0\/b=w.heap.size)->wpList Tryz.prog ops Q rest (a.put o.dst (.slice A' (n+m) c')) w') :
  wpList Tryz.prog ops Q (o:: rest) a w:=by
 obtain⟨i0,hi0,hz0,hz1,hz2⟩:=info_parts hinfo
 subst hn hm
 have hb:(xs.length+news.length)*bytes<=1000000000*1000:=Nat.mul_le_mul h63 hby
 refine sf w hgd s x t ho e i0 z k bytes ht hi0 hz0 hz1 hz2 hzs hsz A0 xs.length c0 _ hs hown A news.length c (news.flatMap enc) hx (iW enc k hk news) hr
  (λu hu=>by obtain⟨y,_,hy⟩:=List.mem_flatMap.1 hu;exact hone y u hy) (by simp only[maxLen];omega) (by omega) ?_
 intro A' c' w' h2 h3 h4
 exact h A' c' w' (by unfold ep;rw[du,az];exact h2) h3 h4
theorem ue{α:Type}{enc:α->List Value}{w:World}{ops:Array Oper}{o:Oper}{a:Act}{K:Act->World->Prop}{Q:Exit->Act->World->Prop}{E:Prop}(hgd:o.guard=none)(s x:Operand)(t:TypeId)
  (ho:o.op=.call { callee:=.builtin .append,args:=#[s,x],argTypes:=#[t,t] })
  (e:TypeId) (z:Value) (k bytes:Nat) (hinfo:(Tryz.prog.info? e).map (λi=>(i.zero,i.size,i.bytes))=some (some z,k,bytes)) (ht:Tryz.prog.underlying t=some (.slice e))
  (hzs:z.cells.size=k) (hsz:0<k) (hk:∀x,(enc x).length=k) (hone:∀x,∀u∈enc x,u.oneCell'=true)
  (A0:Option Addr) (n c0:Nat) (xs:List α) (hn:xs.length=n) (hs:a.eval s=.slice A0 n c0) (hown:ep e k enc w A0 c0 xs)
  (A:Option Addr) (m c:Nat) (news:List α) (hm:news.length=m) (hx:a.eval x=.slice A m c) (hr:d9 enc w A news) (h63:n+m<=1000000000) (hby:bytes<=1000)
  (h:∀A' c' w',ep e k enc w' A' c' (xs++news)->Touch (ed A0) w w'->(∀b∈ed A',b∈ed A0\/b=w.heap.size)->K (a.put o.dst (.slice A' (n+m) c')) w') :
  if Region.wanted o (yielded ops a.tmps)=true then Oper.wp Tryz.prog o a w K Q else E:=by
 obtain⟨i0,hi0,hz0,hz1,hz2⟩:=info_parts hinfo
 subst hn hm
 have hb:(xs.length+news.length)*bytes<=1000000000*1000:=Nat.mul_le_mul h63 hby
 refine DI w hgd s x t ho e i0 z k bytes ht hi0 hz0 hz1 hz2 hzs hsz A0 xs.length c0 _ hs hown A news.length c (news.flatMap enc) hx (iW enc k hk news) hr
  (λu hu=>by obtain⟨y,_,hy⟩:=List.mem_flatMap.1 hu;exact hone y u hy) (by simp only[maxLen];omega) (by omega) ?_
 intro A' c' w' h2 h3 h4
 exact h A' c' w' (by unfold ep;rw[du,az];exact h2) h3 h4
theorem d9.one{α:Type}{enc:α->List Value}(w:World)(t:TypeId)(x:α)(cs:Array Value)(h:cs.toList=enc x):d9 enc (w.alloc (.cells cs t)) (some ⟨w.heap.size,0,none⟩) [x]:=λ_=>
 ⟨_,rfl,λj u hu=>by
  have hadd:(⟨w.heap.size,0,none⟩:Addr).add j=⟨w.heap.size,j,none⟩:=by unfold Addr.add;split<;>simp_all
  rw[hadd,cell_of_row _ w.heap.size j cs t (0,0) (ah w _)];simpa [<- h] using hu⟩
theorem d9.row{α:Type}{enc:α->List Value}(w:World)(t:TypeId)(l:List α)(cs:Array Value)(h:cs.toList=l.flatMap enc):d9 enc (w.alloc (.cells cs t)) (some ⟨w.heap.size,0,none⟩) l:=λ_=>
 ⟨_,rfl,λj u hu=>by
  have hadd:(⟨w.heap.size,0,none⟩:Addr).add j=⟨w.heap.size,j,none⟩:=by unfold Addr.add;split<;>simp_all
  rw[hadd,cell_of_row _ w.heap.size j cs t (0,0) (ah w _)];rw[<- h] at hu;simpa using hu⟩
end
section
open Go.RowKit
structure ND where
 kind:Int
 name:ByteArray
 v:VD
 op:ByteArray
structure ND.Ok (d:ND) (m:Nat):Prop where
 k : -9223372036854775808<=d.kind/\d.kind<=9223372036854775807
 n:d.name.size<=m
 v:d.v.Ok m
 o:d.op.size<=m
def TX:Nat->Type
 | 0=>PEmpty
 |n+1=>ND × List (TX n)
structure XC where
 nd:ND
 A:Option Addr
 n:Nat
 c:Nat
def iX(x:XC):List Value:=[.int .i64 x.nd.kind,.string x.nd.name,.int .i64 x.nd.v.kind,.int .i64 x.nd.v.num,.string x.nd.v.text,.string x.nd.op,.slice x.A x.n x.c]
theorem gW(x:XC):(iX x).length=7:=rfl
def iJ(enc:XC->List Value)(p:Nat->Prop):(n:Nat)->World->XC->TX n->Prop
 | 0,_,_,_=>False
 |n+1,w,x,e=>x.nd=e.1/\x.n=e.2.length/\(∀b∈ed x.A,p b)/\∃xs:List XC,xs.length=e.2.length/\d9 enc w x.A xs/\∀i(h1:i<xs.length)(h2:i<e.2.length),iJ enc p n w xs[i] e.2[i]
def jf:Nat->Prop:=λ_=>True
theorem iJ.mono{enc:XC->List Value}{p q:Nat->Prop}(hpq:∀ b,p b->q b):∀{n:Nat}{w:World}{x:XC}{e:TX n},iJ enc p n w x e->iJ enc q n w x e
 | 0,_,_,_,h=>h.elim
 | _+1,_,_,_,⟨h1,h2,h3,xs,h4,h5,h6⟩=>⟨h1,h2,λb hb=>hpq b (h3 b hb),xs,h4,h5,λi a b=>iJ.mono hpq (h6 i a b)⟩
theorem iJ.any{enc:XC->List Value}{p:Nat->Prop}{n:Nat}{w:World}{x:XC}{e:TX n}(h:iJ enc p n w x e):iJ enc jf n w x e:=h.mono λ_ _=>trivial
theorem iJ.touch{enc:XC->List Value}{p:Nat->Prop}{fp:List Nat}:∀{n:Nat}{w w':World}{x:XC}{e:TX n},iJ enc p n w x e->Touch fp w w'->(∀b∈fp,¬p b)->iJ enc p n w' x e
 | 0,_,_,_,_,h,_,_=>h.elim
 | _+1,_,_,_,_,⟨h1,h2,h3,xs,h4,h5,h6⟩,ht,hp=>⟨h1,h2,h3,xs,h4,d9.touch h5 ht (λb hb hm=>hp b hm (h3 b hb)),λi a b=>iJ.touch (h6 i a b) ht hp⟩
theorem iJ.touch0{enc:XC->List Value}{p:Nat->Prop}{n:Nat}{w w':World}{x:XC}{e:TX n}(h:iJ enc p n w x e)(ht:Touch [] w w'):iJ enc p n w' x e:=h.touch ht (by simp)
def ki(enc:XC->List Value)(p:Nat->Prop)(n:Nat)(w:World)(A:Option Addr)(args:List (TX n)):Prop:=
 ∃xs:List XC,xs.length=args.length/\d9 enc w A xs/\∀i(h1:i<xs.length)(h2:i<args.length),iJ enc p n w xs[i] args[i]
theorem ki.touch0{enc:XC->List Value}{p:Nat->Prop}{n:Nat}{w w':World}{A:Option Addr}{args:List (TX n)}(h:ki enc p n w A args)(ht:Touch [] w w'):ki enc p n w' A args:=by obtain⟨xs,h1,h2,h3⟩:=h;exact⟨xs,h1,d9.touch0 h2 ht,λi a b=>(h3 i a b).touch0 ht⟩
theorem ki.nil(enc:XC->List Value)(p:Nat->Prop)(n:Nat)(w:World)(A:Option Addr):ki enc p n w A []:=⟨[],rfl,d9.nil _ _ _,λi h=>absurd h (by simp)⟩
theorem ki.at_{enc:XC->List Value}(hE:∀ x,(enc x).length=7){p:Nat->Prop}{n:Nat}{w:World}{A:Option Addr}{args:List (TX n)}(h:ki enc p n w A args)(i:Nat)(hi:i<args.length): ∃ad b off x,A=some ad/\ad.add (i*7)=⟨b,off,none⟩/\iJ enc p n w x args[i]/\∀j u,(enc x)[j]?=some u->w.cell? ⟨b,off+j,none⟩=some u:=by obtain⟨xs,h1,h2,h3⟩:=h;obtain⟨ad,b,off,e1,e2,_,e3⟩:=d9.at_ h2 7 hE (by omega) i (by omega);exact⟨ad,b,off,xs[i],e1,e2,h3 i (by omega) hi,e3⟩
theorem iJ.args{enc:XC->List Value}{p:Nat->Prop}{n:Nat}{w:World}{x:XC}{e:TX (n+1)}(h:iJ enc p (n+1) w x e):x.nd=e.1/\x.n=e.2.length/\ki enc p n w x.A e.2:=⟨h.1,h.2.1,h.2.2.2⟩
def gj(q:ND->Prop):(n:Nat)->TX n->Prop
 | 0,_=>True
 |n+1,e=>q e.1/\∀a∈e.2,gj q n a
def fj:(n:Nat)->TX n->Nat
 | 0,_=>0
 |n+1,e=>1+(e.2.map (fj n)).sum
def j7(n:Nat)(l:List (TX n)):Nat:=(l.map (fj n)).sum
theorem AR(n:Nat)(l:List (TX n))(k:Nat)(h:k<l.length):j7 n (l.take (k+1))=j7 n (l.take k)+fj n l[k]:=by unfold j7;rw[au h,aT,List.sum_append];simp
theorem BK:∀(n:Nat)(e:TX n),1<=fj n e
 | 0,e=>e.elim
 |n+1,e=>by unfold fj;omega
theorem oY(n:Nat)(l:List (TX n)):l.length<=j7 n l:=by
 unfold j7;induction l with
 |nil=>simp
 |cons a l ih=>have:=BK n a;simp;omega
theorem wZ(n:Nat)(l:List (TX n))(k:Nat):j7 n (l.take k)<=j7 n l:=by
 unfold j7;induction l generalizing k with
 |nil=>simp
 |cons a l ih=>cases k with
  |zero=>simp
  |succ k=>have:=ih k;rw[List.take_succ_cons,cx,cx,cT,cT];omega
theorem rF{n:Nat}{l:List (TX n)}{a:TX n}(h:a∈l):fj n a<=j7 n l:=by
 unfold j7;induction l with
 |nil=>cases h
 |cons b l ih =>
  rcases aR.1 h with rfl|h
  ·simp
  ·have:=ih h;simp;omega
def XC.val(x:XC):Value:=.agg #[.int .i64 x.nd.kind,.string x.nd.name,.int .i64 x.nd.v.kind,.int .i64 x.nd.v.num,.string x.nd.v.text,.string x.nd.op,.slice x.A x.n x.c]
end
section
open Go.RowKit
def inE(n:Int):List Value:=[.int .i64 n]
theorem oH(n:Int):(inE n).length=1:=rfl
theorem El(n:Int):∀u∈inE n,u.oneCell'=true:=by
 intro u hu;obtain rfl:u=.int .i64 n:=by simpa [inE] using hu
 rfl
theorem RdKI.at_{w:World}{A:Option Addr}{l:List Int}(h:d9 inE w A l)(i:Nat)(hi:i<l.length):∃ad,A=some ad/\w.cell? (ad.add i)=some (.int .i64 l[i]):=by obtain⟨ad,b,off,h1,h2,_,h3⟩:=d9.at_ h 1 oH (by omega) i hi;rw[bO] at h2;exact⟨ad,h1,by rw[h2];exact h3 0 _ rfl⟩
end
end Go.Proofs.YtafoklilkdnepaaGreatDoor
namespace Go.Proofs
open Go.Shelf
def Tryz.lays106_ren : Go.Shelf.Ren := ⟨fun | 106 => 157 | 213 => 190 | 265 => 206 | n => n, fun | 9 => 9 | 3 => 3 | n => n, fun | n => n⟩
theorem Tryz.lays106 : Go.Proofs.Lays.n106 Tryz.prog Tryz.lays106_ren := {
 mixed := by kernel_rfl
 f106 := Tryz.func157.trans (congrArg some (by kernel_rfl))
 f213 := Tryz.func190.trans (congrArg some (by kernel_rfl))
 f265 := Tryz.func206.trans (congrArg some (by kernel_rfl))
 t3 := Tryz.underlying3
 a3 := Tryz.isAgg3
 z3 := Tryz.sizeOf3
 v3 := Tryz.zeroValue3
 t9 := Tryz.underlying9
 a9 := Tryz.isAgg9
 z9 := Tryz.sizeOf9
 v9 := Tryz.zeroValue9 }
open Go.RowKit in
theorem Tryz.strings_Compare (a b : ByteArray) (w : World) :
  Calls Tryz.prog 157 #[.string a, .string b] w fun e w' => e = .returned (.int .i64 (Lib.compareBytes a.data.toList b.data.toList)) ∧ w' = w := Any.strings_Compare Tryz.lays106 a b w
def Tryz.lays122_ren : Go.Shelf.Ren := ⟨fun | 122 => 156 | 215 => 189 | n => n, fun | 3 => 3 | 4 => 4 | n => n, fun | n => n⟩
theorem Tryz.lays122 : Go.Proofs.Lays.n122 Tryz.prog Tryz.lays122_ren := {
 mixed := by kernel_rfl
 f122 := Tryz.func156.trans (congrArg some (by kernel_rfl))
 f215 := Tryz.func189.trans (congrArg some (by kernel_rfl))
 t3 := Tryz.underlying3
 a3 := Tryz.isAgg3
 z3 := Tryz.sizeOf3
 v3 := Tryz.zeroValue3
 t4 := Tryz.underlying4
 a4 := Tryz.isAgg4
 z4 := Tryz.sizeOf4
 v4 := Tryz.zeroValue4 }
open Go.RowKit in
theorem Tryz.cmp_Compare_int (x y : Int) (w : World) :
  Calls Tryz.prog 156 #[.int .i64 x, .int .i64 y] w fun e w' => e = .returned (.int .i64 (Lib.compareInt x y)) ∧ w' = w := Any.cmp_Compare_int Tryz.lays122 x y w
end Go.Proofs
namespace Go.Proofs.YtafoklilkdnepaaGreatDoor
section
open Go.RowKit
def jR:List Int->Int
 | []=>0
 |x:: r=>if x=0 then jR r else x
def eU(a b:VD):Int:=jR [Lib.compareInt a.kind b.kind,Lib.compareInt a.num b.num,Lib.compareBytes a.text.data.toList b.text.data.toList]
def ej:List VD->List VD->Int
 | [],[]=>0
 | [],_:: _ => -1
 | _:: _,[]=>1
 |a:: l,b:: r=>if eU a b=0 then ej l r else eU a b
theorem n_(x y:Int):Lib.compareInt y x = -Lib.compareInt x y:=by unfold Lib.compareInt;split<;>split<;>(try split)<;>omega
theorem pR(x y:Int): -1<=Lib.compareInt x y/\Lib.compareInt x y<=1:=by unfold Lib.compareInt;split<;>(try split)<;>omega
theorem mT:∀(x y:List UInt8),Lib.compareBytes y x = -Lib.compareBytes x y
 | [],[]=>rfl
 | [],_:: _=>rfl
 | _:: _,[]=>rfl
 |a:: l,b:: r=>by
  unfold Lib.compareBytes;by_cases h1:a<b
  ·have h2:¬b<a:=by rw[cY] at h1 ⊢;omega
   rw[ab h2,ae h1,ae h1];rfl
  by_cases h2:b<a
  ·rw[ae h2,ab h1,ae h2]
  rw[ab h2,ab h1,ab h1,ab h2];exact mT l r
theorem oe:∀(x y:List UInt8), -1<=Lib.compareBytes x y/\Lib.compareBytes x y<=1
 | [],[]=>⟨by decide,by decide⟩
 | [],_:: _=>⟨Int.le_refl (-1),show (-1:Int)<=1 by decide⟩
 | _:: _,[]=>⟨show (-1:Int)<=1 by decide,Int.le_refl 1⟩
 |a:: l,b:: r=>by
  unfold Lib.compareBytes;split
  ·omega
  split
  ·omega
  exact oe l r
theorem lY(a b:VD):eU b a = -eU a b:=by unfold eU;rw[n_ a.kind,n_ a.num,mT a.text.data.toList];generalize Lib.compareInt a.kind b.kind=x;generalize Lib.compareInt a.num b.num=y;generalize Lib.compareBytes a.text.data.toList b.text.data.toList=z;simp only[jR];by_cases h1:x=0<;>by_cases h2:y=0<;>by_cases h3:z=0<;>simp[h1,h2,h3]
theorem sP(a b:VD): -1<=eU a b/\eU a b<=1:=by
 have h1:=pR a.kind b.kind;have h2:=pR a.num b.num;have h3:=oe a.text.data.toList b.text.data.toList;unfold eU;simp only[jR];split
 ·split
  ·split<;>omega
  omega
 omega
theorem fL:∀(l r:List VD),ej r l = -ej l r
 | [],[]=>rfl
 | [],_:: _=>rfl
 | _:: _,[]=>rfl
 |a:: l,b:: r=>by
  unfold ej;rw[lY a b];by_cases h:eU a b=0
  ·rw[ae (by omega),ae h];exact fL l r
  rw[ab (by omega),ab h]
theorem s_:∀(l r:List VD), -1<=ej l r/\ej l r<=1
 | [],[]=>⟨by decide,by decide⟩
 | [],_:: _=>⟨Int.le_refl (-1),show (-1:Int)<=1 by decide⟩
 | _:: _,[]=>⟨show (-1:Int)<=1 by decide,Int.le_refl 1⟩
 |a:: l,b:: r=>by
  unfold ej;split
  ·exact s_ l r
  exact sP a b
theorem BF(A:Option Addr)(cap n:Nat)(l:List Int)(hn:l.length=n)(w:World)(h:d9 inE w A l)(hl:n<=140737000000000): Calls Tryz.prog 155 #[.slice A n cap] w λe w'=>e=.returned (.int .i64 (jR l))/\w'=w:=by
 subst hn;go_enter Tryz.func155,Tryz.ntmps155;go_wp2;go_loopw [8] (λi wr=>∃k:Nat,k<=l.length/\i=.int .i64 k/\Ga (jR l=jR (l.drop k))/\wr=w) (λi _=>l.length-(intOf i).toNat)
 case atStart=>exact⟨0,by omega,rfl,lh rfl,rfl⟩
 case round =>
 obtain⟨k,hk,rfl,Ho,rfl⟩:=hrel;by_cases hlt:k<l.length
 ·obtain⟨ad,rfl,c0⟩:=RdKI.at_ h k hlt;have hst:jR (l.drop k)=if l[k]=0 then jR (l.drop (k+1)) else l[k]:=by rw[bj hlt];rfl
  obtain⟨x,hx⟩:∃x,x=l[k]:=⟨_,rfl⟩;rw[<- hx] at hst c0;have Hst:=lh hst;clear hst hx;by_cases h0:x=0
  ·subst h0;have Hq:=lh (show jR l=jR (l.drop (k+1)) by rw[Ho.o,Hst.o,ae rfl]);go_wp2;go_roundw
   case rel=>exact⟨k+1,by omega,by go_num,Hq,trivial⟩
   case measure=>simp[intOf];omega
  have Hq:=lh (show jR l=x by rw[Ho.o,Hst.o,ab h0]);have hq:(x==0)=false:=by rw[aw];exact h0
  have hq':(x != 0)=true:=by rw[bne,hq];rfl
  go_wp2;go_ret;exact⟨ew Hq.o.symm,rfl⟩
 obtain rfl:k=l.length:=by omega
 have Hq:=lh (show jR l=0 by rw[Ho.o,bY];rfl);go_wp2;go_ret;exact⟨ew Hq.o.symm,rfl⟩
theorem nV{P:Program}{id:Nat}{Q:Exit->Act->World->Prop}{a:Act}{w:World}{l:List Oper}(n:Nat)(hm:P.follows .mixedOrders=true)(hB:Region.lexTailB .any l.toArray n=true)
  (h:∀w2,w2=w.drew->wpStill P l.toArray w2 (λa'=>wpList P l.toArray Q (l.drop n) a' w2) (l.take n) a):(Code.region id l.toArray true).wp P Q a w:=
 wp_region_still_tail n hm hB (h _ rfl)
theorem lD(a b:VD)(w:World): Calls Tryz.prog 112 #[a.val,b.val] w λe w'=>e=.returned (.int .i64 (eU a b))/\Touch [] w w':=by
 obtain⟨k1,n1,s1⟩:=a;obtain⟨k2,n2,s2⟩:=b;have h1:=λw'=>Tryz.cmp_Compare_int k1 k2 w';have h2:=λw'=>Tryz.cmp_Compare_int n1 n2 w';have h3:=λw'=>Tryz.strings_Compare s1 s2 w';have hc:eU ⟨k1,n1,s1⟩ ⟨k2,n2,s2⟩=jR [Lib.compareInt k1 k2,Lib.compareInt n1 n2,Lib.compareBytes s1.data.toList s2.data.toList]:=rfl;rw[hc];obtain⟨x,hx⟩:∃x,x=Lib.compareInt k1 k2:=⟨_,rfl⟩;obtain⟨y,hy⟩:∃y,y=Lib.compareInt n1 n2:=⟨_,rfl⟩;obtain⟨z,hz⟩:∃z,z=Lib.compareBytes s1.data.toList s2.data.toList:=⟨_,rfl⟩;rw[<- hx,<- hy,<- hz];rw[<- hx] at h1;rw[<- hy] at h2;rw[<- hz] at h3;have H1:=lh h1;have H2:=lh h2;have H3:=lh h3;have t0:=(((Touch.refl [] w).alloc (.cells #[.int .i64 k1,.int .i64 n1,.string s1] 31)).alloc (.cells #[.int .i64 k2,.int .i64 n2,.string s2] 31));clear h1 h2 h3 hx hy hz hc;dsimp only[VD.val];go_enter Tryz.func112,Tryz.ntmps112;go_wp2_with fail;refine nV 15 (by kernel_rfl) (by kernel_rfl) ?_;intro w2 hw2;have ta:=(((Touch.refl [] (w.alloc (.cells #[.int .i64 k1,.int .i64 n1,.string s1] 31))).alloc (.cells #[.int .i64 k2,.int .i64 n2,.string s2] 31))).drew;have tb:=((Touch.refl [] ((w.alloc (.cells #[.int .i64 k1,.int .i64 n1,.string s1] 31)).alloc (.cells #[.int .i64 k2,.int .i64 n2,.string s2] 31)))).drew;have t2:=t0.drew;rw[<- hw2] at ta tb t2;have hb1:=ah w (.cells #[.int .i64 k1,.int .i64 n1,.string s1] 31);have hb2:=ah (w.alloc (.cells #[.int .i64 k1,.int .i64 n1,.string s1] 31)) (.cells #[.int .i64 k2,.int .i64 n2,.string s2] 31)
 rw[ao] at hb2;have e0:=ta.cell (d_ hb1 (i:=0) rfl) (by simp);have e1:=ta.cell (d_ hb1 (i:=1) rfl) (by simp);have e2:=ta.cell (d_ hb1 (i:=2) rfl) (by simp);have f0:=tb.cell (d_ hb2 (i:=0) rfl) (by simp);have f1:=tb.cell (d_ hb2 (i:=1) rfl) (by simp);have f2:=tb.cell (d_ hb2 (i:=2) rfl) (by simp);clear hb1 hb2 ta tb t0 hw2;simp only[List.take_succ_cons,List.take_zero,List.drop_succ_cons,List.drop_zero];repeat still_step
 still_call (H1.o _)
 repeat still_step
 still_call (H2.o _)
 repeat still_step
 still_call (H3.o _)
 refine wpStill_nil ?_;have r3:d9 inE (w2.alloc (.cells #[.int .i64 x,.int .i64 y,.int .i64 z] 3)) (some ⟨w2.heap.size,0,none⟩) [x,y,z]:=d9.row w2 3 [x,y,z] _ rfl;go_wp2_with fail;refine(BF _ 3 3 [x,y,z] rfl _ r3 (by omega)).mono ?_;rintro e w3 ⟨rfl,rfl⟩;go_wp2;go_ret;exact⟨rfl,t2.alloc _⟩
end
end Go.Proofs.YtafoklilkdnepaaGreatDoor
