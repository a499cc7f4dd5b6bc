/- Part 32 of the texts of this proof, one behind the other. No condition beyond those that its theorems state. -/
import Derived.Test.YtafoklilkdnepaaGreatDoorRi31
import Derived.Deep.RegionHeld3
import Derived.Deep.MidRow
set_option maxRecDepth 40000
set_option maxHeartbeats 25600000
namespace Go.Proofs.YtafoklilkdnepaaGreatDoor
section
open Go.RowKit
section
variable {P:Program} {ops:Array Oper} {Q:Exit->Act->World->Prop} {md:Region.Mode} {S:World->Prop} {m:Nat}
def wpAnyU (P:Program) (md:Region.Mode) (ops:Array Oper) (Q:Exit->Act->World->Prop) (S:World->Prop) (m:Nat):Nat->Array Bool->Act->World->Prop
 | 0,listed,a,w=>Region.ready md ops listed=[]/\Q .normal a w
 | fuel+1,listed,a,w =>
  (Region.ready md ops listed=[]->Q .normal a w) /\
  ∀ i∈Region.ready md ops listed,wpOp P ops Q i (fun a' w'=>((listed.setIfInBounds i true).getD m true=false->S w')/\wpAnyU P md ops Q S m fuel (listed.setIfInBounds i true) a' w') a w
theorem wpAny_of_until:∀ (fuel:Nat) (listed:Array Bool) (a:Act) (w:World),wpAnyU P md ops Q S m fuel listed a w->wpAny P md ops Q fuel listed a w
 | 0,_,_,_,h=>h
 | fuel+1,_,_,_,h=>⟨h.1,fun i hi=>wpOp_mono (fun a' w' h'=>wpAny_of_until fuel _ a' w' h'.2) (h.2 i hi)⟩
theorem wpAnyU_first {i:Nat} {oi om:Oper} {v:Value} (hi:ops[i]?=some oi) (hsel:∀ (j:Nat) (o:Oper) cs b,ops[j]?=some o->o.op≠.select cs b)
  (hQ:∀ c a w,Q (.panic c) (a.put oi.dst v) w->Q (.panic c) a w) (hmi:m≠i) (hom:ops[m]?=some om) (hwait:∃ e∈om.after,Region.binds md e=true/\e.on=i) :
  ∀ (fuel:Nat) (listed:Array Bool) (a:Act) (w:World),listed.getD m true=false ->
   (∀ j oj,ops[j]?=some oj->j≠i->listed.getD j true=false->(∀ e∈oj.after,Region.binds md e=true->e.on≠i)->oi.apart ops oj=true) ->
   i∈Region.ready md ops listed->YieldsIf P ops S oi v a->S w ->
   wpAnyU P md ops Q S m fuel (listed.setIfInBounds i true) (a.put oi.dst v) w->wpAnyU P md ops Q S m (fuel+1) listed a w:=by
 intro fuel
 induction fuel with
 | zero =>
  intro listed a w _ _ hr hy hS H
  refine ⟨fun h=>(by rw [h] at hr;cases hr),fun j hj => ?_⟩
  by_cases hji:j=i
  ·subst hji;exact hy.wpOp hi hS ⟨fun _=>hS,H⟩
  ·have:=ready_mono hj hji
   rw [H.1] at this
   cases this
 | succ fuel ih =>
  intro listed a w hml hfree hr hy hS H
  refine ⟨fun h=>(by rw [h] at hr;cases hr),fun j hj => ?_⟩
  by_cases hji:j=i
  ·subst hji;exact hy.wpOp hi hS ⟨fun _=>hS,H⟩
  ·have h1:=H.2 j (ready_mono hj hji)
   obtain ⟨hjun,oj,hoj,hall⟩:=mem_ready.1 hj
   have hnot:∀ e∈oj.after,Region.binds md e=true->e.on≠i:=fun e he hb heq=>by
    have h1:=hall e he hb
    have h0:=(mem_ready.1 hr).1
    rw [heq] at h1
    rcases Nat.lt_or_ge i listed.size with h' | h'
    ·simp [h'] at h0 h1;rw [h0] at h1;cases h1
    ·simp [Array.getElem?_eq_none h'] at h1
   have hjm:j≠m:=fun e=>by
    subst e
    rw [hoj] at hom
    injection hom with hom
    subst hom
    obtain ⟨e,he,hb,heq⟩:=hwait
    exact hnot e he hb heq
   have hml':(listed.setIfInBounds j true).getD m true=false:=by rw [getD_set_ne true hjm];exact hml
   have hml2:((listed.setIfInBounds i true).setIfInBounds j true).getD m true=false:=by rw [getD_set_ne true hjm,getD_set_ne true (Ne.symm hmi)];exact hml
   have h2:=wpOp_putIf hoj (hfree j oj hoj hji hjun hnot) (fun cs b=>hsel i oi cs b hi) (fun cs b=>hsel j oj cs b hoj) hQ hy h1
   have hfree':∀ k ok,ops[k]?=some ok->k≠i->(listed.setIfInBounds j true).getD k true=false ->
     (∀ e∈ok.after,Region.binds md e=true->e.on≠i)->oi.apart ops ok=true:=fun k ok hk hki hun hno=>by
    refine hfree k ok hk hki ?_ hno
    by_cases hjk:j=k
    ·subst hjk;exact hjun
    ·rw [getD_set_ne true hjk] at hun;exact hun
   refine wpOp_mono (fun a' w' h3=>⟨fun _=>h3.2.1 hml2,ih (listed.setIfInBounds j true) a' w' hml' hfree' (ready_mono hr (Ne.symm hji)) h3.1 (h3.2.1 hml2) ?_⟩) h2
   rw [Array.setIfInBounds_comm _ _ hji]
   exact h3.2.2
theorem takeU {i d:Nat} {oi om:Oper} {v:Value} {fuel:Nat} {listed:Array Bool} {a:Act} {w:World} (hi:ops[i]?=some oi) (hd:oi.dst=some d)
  (hs:Region.noSelect ops=true) (hf:Region.free md ops listed i=true) (hr:(Region.ready md ops listed).contains i=true)
  (hQ:∀ c a w,Q (.panic c) (a.put oi.dst v) w->Q (.panic c) a w) (hmi:m≠i) (hom:ops[m]?=some om) (hwait:(om.after.any fun e=>Region.binds md e&&e.on==i)=true) (hml:listed.getD m true=false) (hy:YieldsIf P ops S oi v a) (hS:S w)
  (h:wpAnyU P md ops Q S m fuel (listed.setIfInBounds i true) (a.put (some d) v) w):wpAnyU P md ops Q S m (fuel+1) listed a w:=by
 refine wpAnyU_first hi (Region.noSelect_spec hs) hQ hmi hom ?_ fuel listed a w hml (Region.free_spec hi hf) (by simpa using hr) hy hS (by rw [hd];exact h)
 obtain ⟨k,hk,hb⟩:=Array.any_eq_true.1 hwait
 simp only [Bool.and_eq_true,beq_iff_eq] at hb
 exact ⟨_,Array.getElem_mem _,hb.1,hb.2⟩
theorem oneU {i:Nat} {oi:Oper} {fuel:Nat} {listed:Array Bool} {a:Act} {w:World} (hr:Region.ready md ops listed=[i]) (hi:ops[i]?=some oi)
  (h:∀ K:Act->World->Prop,(∀ a' w',((listed.setIfInBounds i true).getD m true=false->S w')->wpAnyU P md ops Q S m fuel (listed.setIfInBounds i true) a' w'->K a' w')->if Region.wanted oi (yielded ops a.tmps)=true then Oper.wp P oi a w K Q else K (a.put oi.dst undef) w):wpAnyU P md ops Q S m (fuel+1) listed a w:=by
 refine ⟨fun h0=>absurd (hr ▸ h0) (by simp),fun j hj => ?_⟩
 rw [hr] at hj
 obtain rfl:j=i:=by simpa using hj
 have h1:=h (fun a' w'=>((listed.setIfInBounds j true).getD m true=false->S w')/\wpAnyU P md ops Q S m fuel (listed.setIfInBounds j true) a' w') (fun a' w' h1 h2=>⟨h1,h2⟩)
 unfold wpOp
 simp only [hi]
 split
 ·rename_i hw
  rw [if_pos hw] at h1
  exact .inl h1
 ·rename_i hw
  rw [if_neg hw] at h1
  exact h1
theorem doneU {listed:Array Bool} {a:Act} {w:World} (hr:Region.ready md ops listed=[]) (h:Q .normal a w):∀ fuel,wpAnyU P md ops Q S m fuel listed a w
 | 0=>⟨hr,h⟩
 | _+1=>⟨fun _=>h,by rw [hr];simp⟩
theorem wp_region_until (m:Nat) (S:World->Prop) {id:Nat} {a:Act} {w:World} (hm:P.follows .mixedOrders=true)
  (h:wpAnyU P .any ops Q S m ops.size (Array.replicate ops.size false) a w.drew):(Code.region id ops true).wp P Q a w :=
 wp_region_any hm (wpAny_of_until _ _ _ _ h)
end
end
section
open Go.RowKit
theorem needI_le (k:Int):needI k=0\/needI k=1\/needI k=2:=by
 unfold needI
 split
 ·exact .inr (.inl rfl)
 ·split
  ·exact .inr (.inr rfl)
  ·exact .inl rfl
def stVal (x:PC) (sx rx sy ry:SL):Value:=.agg #[.int .i64 x.kind,.string x.name,.slice x.args.A x.args.n x.args.c,.int .i64 x.cond.nd.kind,.string x.cond.nd.name,.int .i64 x.cond.nd.v.kind,.int .i64 x.cond.nd.v.num,.string x.cond.nd.v.text,.string x.cond.nd.op,.slice x.cond.A x.cond.n x.cond.c,
 .slice x.names.A x.names.n x.names.c,.slice x.exprs.A x.exprs.n x.exprs.c,.slice x.on.A x.on.n x.on.c,.slice x.aggs.A x.aggs.n x.aggs.c,.slice x.by_.A x.by_.n x.by_.c,.int .i64 x.count,.slice sx.A sx.n sx.c,.slice rx.A rx.n rx.c,.slice sy.A sy.n sy.c,.slice ry.A ry.n ry.c]
theorem info_p5:(Tryz.prog.info? 49).map (fun i=>(i.zero,i.size,i.bytes))=some (some (.agg #[.int .i64 0,.string ⟨#[]⟩,.slice none 0 0,.int .i64 0,.string ⟨#[]⟩,.int .i64 0,.int .i64 0,.string ⟨#[]⟩,.string ⟨#[]⟩,.slice none 0 0,.slice none 0 0,.slice none 0 0,.slice none 0 0,.slice none 0 0,.slice none 0 0,.int .i64 0]),16,272):=by kernel_rfl
def nmE:List ByteArray:=[⟨#[120]⟩,⟨#[121]⟩]
theorem set16 {w:World} {g:Nat} {cs:Array Value} {t:TypeId} (h:w.heap[g]?=some (.cells cs t (0,0))) (hs:cs.size=16) (v0 v1 v2 v3 v4 v5 v6 v7 v8 v9 v10 v11 v12 v13 v14 v15:Value) :
  ((((((((((((((((w.setCell ⟨g,0,none⟩ v0).setCell ⟨g,1,none⟩ v1).setCell ⟨g,2,none⟩ v2).setCell ⟨g,3,none⟩ v3).setCell ⟨g,4,none⟩ v4).setCell ⟨g,5,none⟩ v5).setCell ⟨g,6,none⟩ v6).setCell ⟨g,7,none⟩ v7).setCell ⟨g,8,none⟩ v8).setCell ⟨g,9,none⟩ v9).setCell ⟨g,10,none⟩ v10).setCell ⟨g,11,none⟩ v11).setCell ⟨g,12,none⟩ v12).setCell ⟨g,13,none⟩ v13).setCell ⟨g,14,none⟩ v14).setCell ⟨g,15,none⟩ v15).heap[g]?=some (.cells #[v0,v1,v2,v3,v4,v5,v6,v7,v8,v9,v10,v11,v12,v13,v14,v15] t (0,0)):=by
 rw [set_blk (set_blk (set_blk (set_blk (set_blk (set_blk (set_blk (set_blk (set_blk (set_blk (set_blk (set_blk (set_blk (set_blk (set_blk (set_blk h 0 v0) 1 v1) 2 v2) 3 v3) 4 v4) 5 v5) 6 v6) 7 v7) 8 v8) 9 v9) 10 v10) 11 v11) 12 v12) 13 v13) 14 v14) 15 v15]
 obtain ⟨l⟩:=cs
 match l,hs with
 | [x0,x1,x2,x3,x4,x5,x6,x7,x8,x9,x10,x11,x12,x13,x14,x15],_=>simp only [List.setIfInBounds_toArray,List.set_cons_zero,List.set_cons_succ]
theorem there16 {w:World} {g:Nat} {v0 v1 v2 v3 v4 v5 v6 v7 v8 v9 v10 v11 v12 v13 v14 v15:Value} {t:TypeId} (h:w.heap[g]?=some (.cells #[v0,v1,v2,v3,v4,v5,v6,v7,v8,v9,v10,v11,v12,v13,v14,v15] t (0,0))):w.there g 0 16:=fun j hj=>by
 rw [Nat.zero_add]
 refine ⟨?_,free_blk h j⟩
 have hl:j < #[v0,v1,v2,v3,v4,v5,v6,v7,v8,v9,v10,v11,v12,v13,v14,v15].size:=hj
 rw [cell_blk (v:=#[v0,v1,v2,v3,v4,v5,v6,v7,v8,v9,v10,v11,v12,v13,v14,v15][j]) h (Array.getElem?_eq_getElem hl)]
 rfl
theorem setAll16 {w:World} {g:Nat} {cs:Array Value} {t:TypeId} (h:w.heap[g]?=some (.cells cs t (0,0))) (hs:cs.size=16) (v0 v1 v2 v3 v4 v5 v6 v7 v8 v9 v10 v11 v12 v13 v14 v15:Value) :
  (w.setCells g 0 [v0,v1,v2,v3,v4,v5,v6,v7,v8,v9,v10,v11,v12,v13,v14,v15]).heap[g]?=some (.cells #[v0,v1,v2,v3,v4,v5,v6,v7,v8,v9,v10,v11,v12,v13,v14,v15] t (0,0)):=set16 h hs v0 v1 v2 v3 v4 v5 v6 v7 v8 v9 v10 v11 v12 v13 v14 v15
theorem touchAll (g:Nat):∀ (vs:List Value) (w:World) (o:Nat),Touch [g] w (w.setCells g o vs)
 | [],w,_=>Touch.refl _ _
 | v :: vs,w,o=>((Touch.refl [g] w).setCell (p:=⟨g,o,none⟩) (.inl (by simp)) v).trans (touchAll g vs _ _) (fun b hb=>.inl hb)
end
section
open Go.RowKit
theorem scansO_any (x:PC) (sx rx sy ry:SL) (w:World):Calls Tryz.prog 15 #[stVal x sx rx sy ry] w fun e w'=>∃ (A:Option Addr) (n c:Nat) (I:Option Addr),e=.returned (.tuple #[PC.val { x with args:=⟨A,n,c⟩ },.slice I 3 3])/\(n:Int)=needI x.kind /\
  OwnK 49 16 pcE w' A c ([scanC ⟨#[120]⟩,scanC ⟨#[121]⟩].take n)/\RdK srE w' I [⟨⟨#[120]⟩,sx,rx⟩,⟨⟨#[121]⟩,sy,ry⟩,⟨⟨#[120]⟩,noS,noS⟩]/\Touch [] w w'/\(∀ b∈fpo A,w.heap.size<=b)/\(∀ b∈fpo I,w.heap.size<=b)/\(∀ b∈fpo A,b∉fpo I):=by
 obtain ⟨k0,k1,⟨A2,n2,c2'⟩,⟨⟨ck,cn,⟨cvk,cvn,cvt⟩,cop⟩,CA,cnn,cc⟩,⟨NA,nn,nc⟩,⟨EA,en,ec⟩,⟨OA,ol,oc⟩,⟨GA,gn,gc⟩,⟨BA,bn,bc⟩,count⟩:=x
 obtain ⟨sxA,sxn,sxc⟩:=sx
 obtain ⟨rxA,rxn,rxc⟩:=rx
 obtain ⟨syA,syn,syc⟩:=sy
 obtain ⟨ryA,ryn,ryc⟩:=ry
 simp only [stVal,PC.val]
 have Hnd:=lh fun w'=>need5_any k0 w'
 obtain ⟨z,hz,hz2⟩:∃ z:Nat,(z:Int)=needI k0/\z<=2:=by
  rcases needI_le k0 with h | h | h
  ·exact ⟨0,h.symm,by omega⟩
  ·exact ⟨1,h.symm,by omega⟩
  ·exact ⟨2,h.symm,by omega⟩
 rw [<- hz] at Hnd ⊢
 clear hz
 obtain ⟨W,hW⟩:∃ W,W=((w.alloc (.cells #[.int .i64 k0,.string k1,.slice A2 n2 c2',.int .i64 ck,.string cn,.int .i64 cvk,.int .i64 cvn,.string cvt,.string cop,.slice CA cnn cc,.slice NA nn nc,.slice EA en ec,.slice OA ol oc,.slice GA gn gc,.slice BA bn bc,.int .i64 count,.slice sxA sxn sxc,.slice rxA rxn rxc,.slice syA syn syc,.slice ryA ryn ryc] 55)).alloc (.cells #[.int .i64 0,.string ⟨#[]⟩,.slice none 0 0,.int .i64 0,.string ⟨#[]⟩,.int .i64 0,.int .i64 0,.string ⟨#[]⟩,.string ⟨#[]⟩,.slice none 0 0,.slice none 0 0,.slice none 0 0,.slice none 0 0,.slice none 0 0,.slice none 0 0,.int .i64 0] 49)).alloc (.cells #[.int .i64 k0,.string k1,.slice none 0 0,.int .i64 ck,.string cn,.int .i64 cvk,.int .i64 cvn,.string cvt,.string cop,.slice CA cnn cc,.slice NA nn nc,.slice EA en ec,.slice OA ol oc,.slice GA gn gc,.slice BA bn bc,.int .i64 count] 49):=⟨_,rfl⟩
 have t0:Touch [] w W:=hW ▸ (((Touch.refl [] w).alloc _).alloc _).alloc _
 have hb0:W.heap[w.heap.size]?=some (.cells #[.int .i64 k0,.string k1,.slice A2 n2 c2',.int .i64 ck,.string cn,.int .i64 cvk,.int .i64 cvn,.string cvt,.string cop,.slice CA cnn cc,.slice NA nn nc,.slice EA en ec,.slice OA ol oc,.slice GA gn gc,.slice BA bn bc,.int .i64 count,.slice sxA sxn sxc,.slice rxA rxn rxc,.slice syA syn syc,.slice ryA ryn ryc] 55 (0,0)):=hW ▸ (((Touch.refl [] (w.alloc (.cells #[.int .i64 k0,.string k1,.slice A2 n2 c2',.int .i64 ck,.string cn,.int .i64 cvk,.int .i64 cvn,.string cvt,.string cop,.slice CA cnn cc,.slice NA nn nc,.slice EA en ec,.slice OA ol oc,.slice GA gn gc,.slice BA bn bc,.int .i64 count,.slice sxA sxn sxc,.slice rxA rxn rxc,.slice syA syn syc,.slice ryA ryn ryc] 55))).alloc (.cells #[.int .i64 0,.string ⟨#[]⟩,.slice none 0 0,.int .i64 0,.string ⟨#[]⟩,.int .i64 0,.int .i64 0,.string ⟨#[]⟩,.string ⟨#[]⟩,.slice none 0 0,.slice none 0 0,.slice none 0 0,.slice none 0 0,.slice none 0 0,.slice none 0 0,.int .i64 0] 49)).alloc (.cells #[.int .i64 k0,.string k1,.slice none 0 0,.int .i64 ck,.string cn,.int .i64 cvk,.int .i64 cvn,.string cvt,.string cop,.slice CA cnn cc,.slice NA nn nc,.slice EA en ec,.slice OA ol oc,.slice GA gn gc,.slice BA bn bc,.int .i64 count] 49)).blk (heap_alloc_new w _) (by simp)
 have hb1:W.heap[w.heap.size+1]?=some (.cells #[.int .i64 0,.string ⟨#[]⟩,.slice none 0 0,.int .i64 0,.string ⟨#[]⟩,.int .i64 0,.int .i64 0,.string ⟨#[]⟩,.string ⟨#[]⟩,.slice none 0 0,.slice none 0 0,.slice none 0 0,.slice none 0 0,.slice none 0 0,.slice none 0 0,.int .i64 0] 49 (0,0)):=by
  have h1:=heap_alloc_new (w.alloc (.cells #[.int .i64 k0,.string k1,.slice A2 n2 c2',.int .i64 ck,.string cn,.int .i64 cvk,.int .i64 cvn,.string cvt,.string cop,.slice CA cnn cc,.slice NA nn nc,.slice EA en ec,.slice OA ol oc,.slice GA gn gc,.slice BA bn bc,.int .i64 count,.slice sxA sxn sxc,.slice rxA rxn rxc,.slice syA syn syc,.slice ryA ryn ryc] 55)) (.cells #[.int .i64 0,.string ⟨#[]⟩,.slice none 0 0,.int .i64 0,.string ⟨#[]⟩,.int .i64 0,.int .i64 0,.string ⟨#[]⟩,.string ⟨#[]⟩,.slice none 0 0,.slice none 0 0,.slice none 0 0,.slice none 0 0,.slice none 0 0,.slice none 0 0,.int .i64 0] 49)
  rw [World.size_alloc] at h1
  exact hW ▸ ((Touch.refl [] _).alloc (.cells #[.int .i64 k0,.string k1,.slice none 0 0,.int .i64 ck,.string cn,.int .i64 cvk,.int .i64 cvn,.string cvt,.string cop,.slice CA cnn cc,.slice NA nn nc,.slice EA en ec,.slice OA ol oc,.slice GA gn gc,.slice BA bn bc,.int .i64 count] 49)).blk h1 (by simp)
 have hb2:W.heap[w.heap.size+1+1]?=some (.cells #[.int .i64 k0,.string k1,.slice none 0 0,.int .i64 ck,.string cn,.int .i64 cvk,.int .i64 cvn,.string cvt,.string cop,.slice CA cnn cc,.slice NA nn nc,.slice EA en ec,.slice OA ol oc,.slice GA gn gc,.slice BA bn bc,.int .i64 count] 49 (0,0)):=by
  have h1:=heap_alloc_new ((w.alloc (.cells #[.int .i64 k0,.string k1,.slice A2 n2 c2',.int .i64 ck,.string cn,.int .i64 cvk,.int .i64 cvn,.string cvt,.string cop,.slice CA cnn cc,.slice NA nn nc,.slice EA en ec,.slice OA ol oc,.slice GA gn gc,.slice BA bn bc,.int .i64 count,.slice sxA sxn sxc,.slice rxA rxn rxc,.slice syA syn syc,.slice ryA ryn ryc] 55)).alloc (.cells #[.int .i64 0,.string ⟨#[]⟩,.slice none 0 0,.int .i64 0,.string ⟨#[]⟩,.int .i64 0,.int .i64 0,.string ⟨#[]⟩,.string ⟨#[]⟩,.slice none 0 0,.slice none 0 0,.slice none 0 0,.slice none 0 0,.slice none 0 0,.slice none 0 0,.int .i64 0] 49)) (.cells #[.int .i64 k0,.string k1,.slice none 0 0,.int .i64 ck,.string cn,.int .i64 cvk,.int .i64 cvn,.string cvt,.string cop,.slice CA cnn cc,.slice NA nn nc,.slice EA en ec,.slice OA ol oc,.slice GA gn gc,.slice BA bn bc,.int .i64 count] 49)
  rw [World.size_alloc,World.size_alloc] at h1
  exact hW ▸ h1
 have hWs:W.heap.size=w.heap.size+3:=by rw [hW];simp
 have HW:=lh hW
 have HT0:=lh (And.intro t0 (And.intro hb0 (And.intro hb1 hWs)))
 have HB2:=lh hb2
 clear hW t0 hb0 hb1 hb2 hWs
 go_enter Tryz.func15,Tryz.ntmps15
 go_wp2_with fail
 rw [<- HW.out]
 refine (Hnd.out _).mono ?_
 rintro e w1 ⟨rfl,t1⟩
 have T1:=lh t1
 clear t1
 go_wp2_with fail
 go_loopw [12] (fun i wr=>∃ (j:Nat) (A:Option Addr) (c:Nat),j<=z/\i=.int .i64 j/\Hid (OwnK 49 16 pcE wr A c ([scanC ⟨#[120]⟩,scanC ⟨#[121]⟩].take j))/\Hid (∀ b∈fpo A,W.heap.size<=b)/\Hid (wr.heap[w.heap.size+1+1]?=some (.cells #[.int .i64 k0,.string k1,.slice A j c,.int .i64 ck,.string cn,.int .i64 cvk,.int .i64 cvn,.string cvt,.string cop,.slice CA cnn cc,.slice NA nn nc,.slice EA en ec,.slice OA ol oc,.slice GA gn gc,.slice BA bn bc,.int .i64 count] 49 (0,0)))/\Hid (Touch [w.heap.size+1+1] W wr)) (fun i _=>z-(intOf i).toNat)
 case atStart=>exact ⟨0,none,0,by omega,rfl,lh (OwnK.nil _ _ _ _),lh (by simp [fpo]),lh (T1.out.blk HB2.out (by simp)),lh ((Touch.refl _ _).trans T1.out (by simp))⟩
 case round =>
  obtain ⟨j,A,c,hj,rfl,HO,HF,HB,HT⟩:=hrel
  have HWs:=lh HT0.out.2.2.2
  by_cases hlt:j < z
  ·have td:=(Touch.refl [] wr).drew
   obtain ⟨p0,p1,p2,p3,p4,p5,p6,p7,p8,p9,p10,p11,p12,p13,p14,p15⟩:=blk16 (td.blk HB.out (by simp))
   have HD:=lh (And.intro td (td.blk HB.out (by simp)))
   have hjn:(j:Int) < (z:Int):=by omega
   have hj2:j < 2:=by omega
   have hjI:(j:Int) < 2:=by omega
   have hnm:∃ NM,nmE[j]?=some NM/\[scanC ⟨#[120]⟩,scanC ⟨#[121]⟩].take (j+1)=[scanC ⟨#[120]⟩,scanC ⟨#[121]⟩].take j++[scanC NM]:=by
    have:j=0\/j=1:=by omega
    rcases this with rfl | rfl
    ·exact ⟨_,rfl,rfl⟩
    ·exact ⟨_,rfl,rfl⟩
   obtain ⟨NM,hNM,hTK⟩:=hnm
   have HTK:=lh hTK
   have HNM:=lh hNM
   clear td p0 p1 p3 p4 p5 p6 p7 p8 p9 p10 p11 p12 p13 p14 p15 hTK hNM hj2
   go_wp2_with fail
   obtain ⟨wd,hwd⟩:∃ wd,wd=wr.drew:=⟨_,rfl⟩
   rw [<- hwd] at HD p2
   refine wp_region_until 10 (fun w':World=>w'.cell? ⟨w.heap.size+1+1,2,none⟩=some (.slice A j c)) (by kernel_rfl) ?_
   rw [<- hwd]
   clear hwd
   have hH0:(fun w':World=>w'.cell? ⟨w.heap.size+1+1,2,none⟩=some (.slice A j c)) wd:=p2
   refine takeU (i:=0) (d:=15) (v := ?_) rfl rfl (by kernel_rfl) (by kernel_rfl) (by kernel_rfl) (fun _ _ _ h=>h) (by decide) rfl (by kernel_rfl) (by kernel_rfl) (Or.inl ⟨by rfl, ?_⟩) hH0 ?_
   rotate_left
   ·intro w hSw;(try dsimp only at hSw);go_simp;(try with_reducible rfl)
   try simp only [Act.put,List.setIfInBounds_toArray,List.set_cons_zero,List.set_cons_succ]
   refine takeU (i:=1) (d:=16) (v := ?_) rfl rfl (by kernel_rfl) (by kernel_rfl) (by kernel_rfl) (fun _ _ _ h=>h) (by decide) rfl (by kernel_rfl) (by kernel_rfl) (Or.inl ⟨by rfl, ?_⟩) hH0 ?_
   rotate_left
   ·intro w hSw;(try dsimp only at hSw);go_simp;(try with_reducible rfl)
   try simp only [Act.put,List.setIfInBounds_toArray,List.set_cons_zero,List.set_cons_succ]
   refine takeU (i:=3) (d:=18) (v := ?_) rfl rfl (by kernel_rfl) (by kernel_rfl) (by kernel_rfl) (fun _ _ _ h=>h) (by decide) rfl (by kernel_rfl) (by kernel_rfl) (Or.inl ⟨by rfl, ?_⟩) hH0 ?_
   rotate_left
   ·intro w hSw;(try dsimp only at hSw);go_simp;(try with_reducible rfl)
   try simp only [Act.put,List.setIfInBounds_toArray,List.set_cons_zero,List.set_cons_succ]
   refine oneU (i:=2) (by kernel_rfl) rfl (fun K hK => ?_)
   go_simp
   have tn:=(Touch.refl [] wd).alloc (.cells #[.string ⟨#[120]⟩,.string ⟨#[121]⟩] 9)
   have hH1:(fun w':World=>w'.cell? ⟨w.heap.size+1+1,2,none⟩=some (.slice A j c)) (wd.alloc (.cells #[.string ⟨#[120]⟩,.string ⟨#[121]⟩] 9)):=tn.cell hH0 (by simp)
   have hnc:(wd.alloc (.cells #[.string ⟨#[120]⟩,.string ⟨#[121]⟩] 9)).cell? ⟨wd.heap.size,j,none⟩=some (.string NM):=by
    have h:=cell_blk (i:=j) (v:=.string NM) (heap_alloc_new wd (.cells #[.string ⟨#[120]⟩,.string ⟨#[121]⟩] 9)) (by
     have hn:=HNM.out
     have:j=0\/j=1:=by omega
     rcases this with rfl | rfl <;> (cases hn;rfl))
    exact h
   have hadd:(⟨wd.heap.size,0,none⟩:Addr).add j=⟨wd.heap.size,j,none⟩:=add_blk _ _
   refine hK _ _ (fun _=>hH1) ?_
   clear hK K
   try simp only [Act.put,List.setIfInBounds_toArray,List.set_cons_zero,List.set_cons_succ]
   refine oneU (i:=4) (by kernel_rfl) rfl (fun K hK => ?_)
   go_simp
   refine hK _ _ (fun _=>hH1) ?_
   clear hK K
   try simp only [Act.put,List.setIfInBounds_toArray,List.set_cons_zero,List.set_cons_succ]
   refine oneU (i:=5) (by kernel_rfl) rfl (fun K hK => ?_)
   go_simp
   refine hK _ _ (fun _=>hH1) ?_
   clear hK K
   try simp only [Act.put,List.setIfInBounds_toArray,List.set_cons_zero,List.set_cons_succ]
   refine oneU (i:=6) (by kernel_rfl) rfl (fun K hK => ?_)
   go_simp
   refine hK _ _ (fun _=>hH1) ?_
   clear hK K
   try simp only [Act.put,List.setIfInBounds_toArray,List.set_cons_zero,List.set_cons_succ]
   refine oneU (i:=7) (by kernel_rfl) rfl (fun K hK => ?_)
   go_simp
   have tn2:=tn.alloc (.cells #[.int .i64 1,.string NM,.slice none 0 0,.int .i64 0,.string ⟨#[]⟩,.int .i64 0,.int .i64 0,.string ⟨#[]⟩,.string ⟨#[]⟩,.slice none 0 0,.slice none 0 0,.slice none 0 0,.slice none 0 0,.slice none 0 0,.slice none 0 0,.int .i64 0] 49)
   have hH2:(fun w':World=>w'.cell? ⟨w.heap.size+1+1,2,none⟩=some (.slice A j c)) ((wd.alloc (.cells #[.string ⟨#[120]⟩,.string ⟨#[121]⟩] 9)).alloc (.cells #[.int .i64 1,.string NM,.slice none 0 0,.int .i64 0,.string ⟨#[]⟩,.int .i64 0,.int .i64 0,.string ⟨#[]⟩,.string ⟨#[]⟩,.slice none 0 0,.slice none 0 0,.slice none 0 0,.slice none 0 0,.slice none 0 0,.slice none 0 0,.int .i64 0] 49)):=tn2.cell hH0 (by simp)
   refine hK _ _ (fun _=>hH2) ?_
   clear hK K
   try simp only [Act.put,List.setIfInBounds_toArray,List.set_cons_zero,List.set_cons_succ]
   refine oneU (i:=8) (by kernel_rfl) rfl (fun K hK => ?_)
   have hrow:=RdK.one (enc:=pcE) (wd.alloc (.cells #[.string ⟨#[120]⟩,.string ⟨#[121]⟩] 9)) 49 (scanC NM) #[.int .i64 1,.string NM,.slice none 0 0,.int .i64 0,.string ⟨#[]⟩,.int .i64 0,.int .i64 0,.string ⟨#[]⟩,.string ⟨#[]⟩,.slice none 0 0,.slice none 0 0,.slice none 0 0,.slice none 0 0,.slice none 0 0,.slice none 0 0,.int .i64 0] rfl
   rw [World.size_alloc] at hrow
   have hlj:([scanC ⟨#[120]⟩,scanC ⟨#[121]⟩].take j).length=j:=by rw [List.length_take];simp;omega
   refine step_appK (enc:=pcE) rfl (.tmp 16) (.tmp 22) 41 rfl 49 _ 16 272 info_p5 Tryz.underlying41 rfl (by omega) pcE_length pcE_one A j c ([scanC ⟨#[120]⟩,scanC ⟨#[121]⟩].take j) hlj rfl (HO.out.touch0 (HD.out.1.trans0 tn2))
    (some ⟨wd.heap.size+1,0,none⟩) 1 1 [scanC NM] rfl rfl hrow (by omega) (by omega) ?_
   intro A' c' w2 hown ht hf
   have hlA:=HO.out.lt
   have hgA:w.heap.size+1+1∉fpo A:=fun q=>by have:=HF.out _ q;have:=HWs.out;omega
   have hH3:(fun w':World=>w'.cell? ⟨w.heap.size+1+1,2,none⟩=some (.slice A j c)) w2:=ht.cell hH2 hgA
   refine hK _ _ (fun _=>hH3) ?_
   clear hK K
   try simp only [Act.put,List.setIfInBounds_toArray]
   refine oneU (i:=9) (by kernel_rfl) rfl (fun K hK => ?_)
   go_simp
   refine hK _ _ (fun _=>hH3) ?_
   clear hK K
   try simp only [Act.put,List.setIfInBounds_toArray]
   have hb2:=ht.blk (tn2.blk HD.out.2 (by simp)) hgA
   have f2:=free_blk hb2 2
   have q2:=cell_blk (i:=2) hb2 rfl
   refine oneU (i:=10) (by kernel_rfl) rfl (fun K hK => ?_)
   go_simp
   refine hK _ _ (fun h=>by cases h) ?_
   clear hK K
   refine doneU (by kernel_rfl) ?_ _
   have hT2:=(HT.out.trans (HD.out.1.trans0 tn2) (by simp)).trans ht (fun b hb=>.inr (HF.out b hb))
   have hs1:=(HD.out.1.trans0 tn2).size
   have HX:=lh (And.intro hown (And.intro hT2 (And.intro hf (And.intro hb2 (Nat.le_trans HT.out.size (HD.out.1.trans0 tn).size)))))
   clear hown hT2 hf hb2 ht tn tn2 hH0 hH1 hH2 hH3 hrow hs1 hnc hadd f2 q2 p2 hlA hgA hlj
   go_wp2_with fail
   go_roundw
   case rel =>
    obtain ⟨hown,hT2,hf,hb2,hs⟩:=HX.out
    have tq:Touch [w.heap.size+1+1] w2 (w2.setCell ⟨w.heap.size+1+1,2,none⟩ (.slice A' (j+1) c')):=(Touch.refl [w.heap.size+1+1] w2).setCell (p:=⟨w.heap.size+1+1,2,none⟩) (.inl (by simp)) _
    have hF':∀ b∈fpo A',W.heap.size<=b:=fun b hb=>by
     rcases hf b hb with q | q
     ·exact HF.out b q
     ·rw [World.size_alloc] at q;have:=HT.out.size;have:=HD.out.1.size;rw [World.size_alloc] at hs q;omega
    exact ⟨j+1,A',c',by omega,by go_num,lh (by rw [HTK.out];exact OwnK.touch hown tq (fun b hb hm=>by have:=hF' b hb;have:=HWs.out;simp at hm;omega)),lh hF',lh (set_blk hb2 2 _),lh (hT2.trans tq (fun b hb=>.inl hb))⟩
   case measure=>simp [intOf];omega
  ·obtain rfl:j=z:=by omega
   have hB0:=HT.out.blk HT0.out.2.1 (by simp;omega)
   have hbr:=HT.out.blk HT0.out.2.2.1 (by simp)
   have HBR:=lh hbr
   have HR:=lh (HO.out.rd)
   have KP:∀ w',Touch [w.heap.size+1] wr w'->w'.heap[w.heap.size+1+1]?=some (.cells #[.int .i64 k0,.string k1,.slice A j c,.int .i64 ck,.string cn,.int .i64 cvk,.int .i64 cvn,.string cvt,.string cop,.slice CA cnn cc,.slice NA nn nc,.slice EA en ec,.slice OA ol oc,.slice GA gn gc,.slice BA bn bc,.int .i64 count] 49 (0,0))/\w'.heap[w.heap.size]?=some (.cells #[.int .i64 k0,.string k1,.slice A2 n2 c2',.int .i64 ck,.string cn,.int .i64 cvk,.int .i64 cvn,.string cvt,.string cop,.slice CA cnn cc,.slice NA nn nc,.slice EA en ec,.slice OA ol oc,.slice GA gn gc,.slice BA bn bc,.int .i64 count,.slice sxA sxn sxc,.slice rxA rxn rxc,.slice syA syn syc,.slice ryA ryn ryc] 55 (0,0)):=fun w' t=>⟨t.blk HB.out (by simp),t.blk hB0 (by simp)⟩
   clear hB0
   go_wp2_with fail
   obtain ⟨wd,hwd⟩:∃ wd,wd=wr.drew:=⟨_,rfl⟩
   have tD:Touch [] wr wd:=hwd ▸ (Touch.refl [] wr).drew
   have tDg:Touch [w.heap.size+1] wr wd:=hwd ▸ (Touch.refl _ wr).drew
   refine wp_region_held_drew (S:=fun w'=>w'.heap[w.heap.size+1+1]?=some (.cells #[.int .i64 k0,.string k1,.slice A j c,.int .i64 ck,.string cn,.int .i64 cvk,.int .i64 cvn,.string cvt,.string cop,.slice CA cnn cc,.slice NA nn nc,.slice EA en ec,.slice OA ol oc,.slice GA gn gc,.slice BA bn bc,.int .i64 count] 49 (0,0))/\w'.heap[w.heap.size]?=some (.cells #[.int .i64 k0,.string k1,.slice A2 n2 c2',.int .i64 ck,.string cn,.int .i64 cvk,.int .i64 cvn,.string cvt,.string cop,.slice CA cnn cc,.slice NA nn nc,.slice EA en ec,.slice OA ol oc,.slice GA gn gc,.slice BA bn bc,.int .i64 count,.slice sxA sxn sxc,.slice rxA rxn rxc,.slice syA syn syc,.slice ryA ryn ryc] 55 (0,0))) (by kernel_rfl) (KP _ (hwd ▸ tDg)) (fun _ => ?_)
   rw [<- hwd]
   clear hwd
   have hS0:(fun w':World=>w'.heap[w.heap.size+1+1]?=some (.cells #[.int .i64 k0,.string k1,.slice A j c,.int .i64 ck,.string cn,.int .i64 cvk,.int .i64 cvn,.string cvt,.string cop,.slice CA cnn cc,.slice NA nn nc,.slice EA en ec,.slice OA ol oc,.slice GA gn gc,.slice BA bn bc,.int .i64 count] 49 (0,0))/\w'.heap[w.heap.size]?=some (.cells #[.int .i64 k0,.string k1,.slice A2 n2 c2',.int .i64 ck,.string cn,.int .i64 cvk,.int .i64 cvn,.string cvt,.string cop,.slice CA cnn cc,.slice NA nn nc,.slice EA en ec,.slice OA ol oc,.slice GA gn gc,.slice BA bn bc,.int .i64 count,.slice sxA sxn sxc,.slice rxA rxn rxc,.slice syA syn syc,.slice ryA ryn ryc] 55 (0,0))) wd:=KP _ tDg
   refine take_d (i:=0) (d:=26) (v := ?_) rfl rfl (by kernel_rfl) (by kernel_rfl) (by kernel_rfl) (fun _ _ _ h=>h) (Or.inl ⟨by rfl, ?_⟩) hS0 ?_
   rotate_left
   ·intro w9 hSw;obtain ⟨p0,p1,p2,p3,p4,p5,p6,p7,p8,p9,p10,p11,p12,p13,p14,p15⟩:=blk16 hSw.1;clear hSw;go_simp;(try with_reducible rfl)
   try simp only [Act.put,List.setIfInBounds_toArray,List.set_cons_zero,List.set_cons_succ]
   refine take_d (i:=1) (d:=27) (v := ?_) rfl rfl (by kernel_rfl) (by kernel_rfl) (by kernel_rfl) (fun _ _ _ h=>h) (Or.inl ⟨by rfl, ?_⟩) hS0 ?_
   rotate_left
   ·intro w9 hSw;skip;clear hSw;go_simp;(try with_reducible rfl)
   try simp only [Act.put,List.setIfInBounds_toArray,List.set_cons_zero,List.set_cons_succ]
   refine take_d (i:=2) (d:=28) (v := ?_) rfl rfl (by kernel_rfl) (by kernel_rfl) (by kernel_rfl) (fun _ _ _ h=>h) (Or.inl ⟨by rfl, ?_⟩) hS0 ?_
   rotate_left
   ·intro w9 hSw;have e0:=cell_blk (i:=16) hSw.2 rfl;have e1:=cell_blk (i:=17) hSw.2 rfl;clear hSw;go_simp;(try with_reducible rfl)
   try simp only [Act.put,List.setIfInBounds_toArray,List.set_cons_zero,List.set_cons_succ]
   refine take_d (i:=3) (d:=29) (v := ?_) rfl rfl (by kernel_rfl) (by kernel_rfl) (by kernel_rfl) (fun _ _ _ h=>h) (Or.inl ⟨by rfl, ?_⟩) hS0 ?_
   rotate_left
   ·intro w9 hSw;skip;clear hSw;go_simp;(try with_reducible rfl)
   try simp only [Act.put,List.setIfInBounds_toArray,List.set_cons_zero,List.set_cons_succ]
   refine take_d (i:=4) (d:=30) (v := ?_) rfl rfl (by kernel_rfl) (by kernel_rfl) (by kernel_rfl) (fun _ _ _ h=>h) (Or.inl ⟨by rfl, ?_⟩) hS0 ?_
   rotate_left
   ·intro w9 hSw;skip;clear hSw;go_simp;(try with_reducible rfl)
   try simp only [Act.put,List.setIfInBounds_toArray,List.set_cons_zero,List.set_cons_succ]
   refine take_d (i:=5) (d:=31) (v := ?_) rfl rfl (by kernel_rfl) (by kernel_rfl) (by kernel_rfl) (fun _ _ _ h=>h) (Or.inl ⟨by rfl, ?_⟩) hS0 ?_
   rotate_left
   ·intro w9 hSw;have e0:=cell_blk (i:=18) hSw.2 rfl;have e1:=cell_blk (i:=19) hSw.2 rfl;clear hSw;go_simp;(try with_reducible rfl)
   try simp only [Act.put,List.setIfInBounds_toArray,List.set_cons_zero,List.set_cons_succ]
   refine take_d (i:=6) (d:=32) (v := ?_) rfl rfl (by kernel_rfl) (by kernel_rfl) (by kernel_rfl) (fun _ _ _ h=>h) (Or.inl ⟨by rfl, ?_⟩) hS0 ?_
   rotate_left
   ·intro w9 hSw;skip;clear hSw;go_simp;(try with_reducible rfl)
   try simp only [Act.put,List.setIfInBounds_toArray,List.set_cons_zero,List.set_cons_succ]
   refine take_d (i:=7) (d:=33) (v := ?_) rfl rfl (by kernel_rfl) (by kernel_rfl) (by kernel_rfl) (fun _ _ _ h=>h) (Or.inl ⟨by rfl, ?_⟩) hS0 ?_
   rotate_left
   ·intro w9 hSw;skip;clear hSw;go_simp;(try with_reducible rfl)
   try simp only [Act.put,List.setIfInBounds_toArray,List.set_cons_zero,List.set_cons_succ]
   refine take_d (i:=8) (d:=34) (v := ?_) rfl rfl (by kernel_rfl) (by kernel_rfl) (by kernel_rfl) (fun _ _ _ h=>h) (Or.inl ⟨by rfl, ?_⟩) hS0 ?_
   rotate_left
   ·intro w9 hSw;skip;clear hSw;go_simp;(try with_reducible rfl)
   try simp only [Act.put,List.setIfInBounds_toArray,List.set_cons_zero,List.set_cons_succ]
   have Hbd:=lh (tD.blk HBR.out (by simp))
   have hgl:w.heap.size+1 < wd.heap.size:=by have:=HT.out.size;have:=HWs.out;have:=tD.size;omega
   have HKP:=lh KP
   have HtD:=lh (And.intro tD tDg)
   clear KP hS0 tD tDg
   refine wpAnyH_ready (rs:=[9,10]) (by kernel_rfl) (by simp) ?_
   refine AllReadyH.cons rfl (fun K hK => ?_) (AllReadyH.cons rfl (fun K hK => ?_) AllReadyH.nil)
   ·go_simp
    obtain ⟨X,hX⟩:∃ X,X=wd.alloc (.cells #[.string ⟨#[120]⟩,.slice sxA sxn sxc,.slice rxA rxn rxc,.string ⟨#[121]⟩,.slice syA syn syc,.slice ryA ryn ryc,.string ⟨#[120]⟩,.slice none 0 0,.slice none 0 0] 36):=⟨_,rfl⟩
    have tS:Touch [w.heap.size+1] wd X:=by
     rw [hX]
     exact (Touch.refl [w.heap.size+1] wd).alloc _
    have hrs0:RdK srE X (some ⟨wd.heap.size,0,none⟩) [⟨⟨#[120]⟩,⟨sxA,sxn,sxc⟩,⟨rxA,rxn,rxc⟩⟩,⟨⟨#[121]⟩,⟨syA,syn,syc⟩,⟨ryA,ryn,ryc⟩⟩,⟨⟨#[120]⟩,noS,noS⟩]:=by
     rw [hX]
     exact RdK.row (enc:=srE) wd 36 [⟨⟨#[120]⟩,⟨sxA,sxn,sxc⟩,⟨rxA,rxn,rxc⟩⟩,⟨⟨#[121]⟩,⟨syA,syn,syc⟩,⟨ryA,ryn,ryc⟩⟩,⟨⟨#[120]⟩,noS,noS⟩] #[.string ⟨#[120]⟩,.slice sxA sxn sxc,.slice rxA rxn rxc,.string ⟨#[121]⟩,.slice syA syn syc,.slice ryA ryn ryc,.string ⟨#[120]⟩,.slice none 0 0,.slice none 0 0] rfl
    have hbX:X.heap[w.heap.size+1]?=some (.cells #[.int .i64 0,.string ⟨#[]⟩,.slice none 0 0,.int .i64 0,.string ⟨#[]⟩,.int .i64 0,.int .i64 0,.string ⟨#[]⟩,.string ⟨#[]⟩,.slice none 0 0,.slice none 0 0,.slice none 0 0,.slice none 0 0,.slice none 0 0,.slice none 0 0,.int .i64 0] 49 (0,0)):=by
     rw [hX]
     exact ((Touch.refl [] wd).alloc (.cells #[.string ⟨#[120]⟩,.slice sxA sxn sxc,.slice rxA rxn rxc,.string ⟨#[121]⟩,.slice syA syn syc,.slice ryA ryn ryc,.string ⟨#[120]⟩,.slice none 0 0,.slice none 0 0] 36)).blk Hbd.out (by simp)
    have tY:=touchAll (w.heap.size+1) [.int .i64 k0,.string k1,.slice A j c,.int .i64 ck,.string cn,.int .i64 cvk,.int .i64 cvn,.string cvt,.string cop,.slice CA cnn cc,.slice NA nn nc,.slice EA en ec,.slice OA ol oc,.slice GA gn gc,.slice BA bn bc,.int .i64 count] X 0
    rw [<- hX]
    refine hK.out _ _ (HKP.out _ (HtD.out.2.trans tS (fun b hb=>.inl hb))) (fun _ => ?_)
    clear hK K hX
    have HE:=lh (And.intro tS (And.intro hrs0 (And.intro hbX tY)))
    clear tS hrs0 hbX tY
    try simp only [Act.put,List.setIfInBounds_toArray,List.set_cons_zero,List.set_cons_succ]
    refine wpAnyH_ready (rs:=[10]) (by kernel_rfl) (by simp) ?_
    refine AllReadyH.cons rfl (fun K hK => ?_) AllReadyH.nil
    rw [if_pos (by rfl)]
    refine wp_store_mid 49 (.tmp 2) (.tmp 26) rfl (w.heap.size+1) 0 #[.int .i64 k0,.string k1,.slice A j c,.int .i64 ck,.string cn,.int .i64 cvk,.int .i64 cvn,.string cvt,.string cop,.slice CA cnn cc,.slice NA nn nc,.slice EA en ec,.slice OA ol oc,.slice GA gn gc,.slice BA bn bc,.int .i64 count] rfl rfl (there16 HE.out.2.2.1) (by kernel_rfl) (by simp [Value.oneCell']) ?_
    simp only [Act.put]
    refine hK.out _ _ (HKP.out _ ((HtD.out.2.trans HE.out.1 (fun b hb=>.inl hb)).trans HE.out.2.2.2 (fun b hb=>.inl hb))) (fun hS2 => ?_)
    clear hK K
    try simp only [Act.put,List.setIfInBounds_toArray,List.set_cons_zero,List.set_cons_succ]
    refine wpAnyH_ready (rs:=[11]) (by kernel_rfl) (by simp) ?_
    refine AllReadyH.cons rfl (fun K hK => ?_) AllReadyH.nil
    go_simp
    refine hK.out _ _ hS2 (fun _ => ?_)
    clear hK K
    try simp only [Act.put,List.setIfInBounds_toArray,List.set_cons_zero,List.set_cons_succ]
    obtain ⟨tS,hrs0,hbX,tY⟩:=HE.out
    have tE:=(HtD.out.2.trans tS (fun b hb=>.inl hb)).trans tY (fun b hb=>.inl hb)
    have hres:=setAll16 hbX rfl (.int .i64 k0) (.string k1) (.slice A j c) (.int .i64 ck) (.string cn) (.int .i64 cvk) (.int .i64 cvn) (.string cvt) (.string cop) (.slice CA cnn cc) (.slice NA nn nc) (.slice EA en ec) (.slice OA ol oc) (.slice GA gn gc) (.slice BA bn bc) (.int .i64 count)
    have hrs:=RdK.touch hrs0 tY (fun b hb hm=>by simp [fpo] at hb hm;omega)
    refine wpAnyH_done (by kernel_rfl) ?_ _
    go_wp2_with fail
    refine bodyPost_ret (results_cell_two rfl _ _ (w.heap.size+1) _ _ _ _ rfl hres Tryz.underlying49 rfl rfl) rfl ⟨A,j,c,some ⟨wd.heap.size,0,none⟩,rfl,rfl, ?_, ?_, ?_, ?_, ?_, ?_⟩
    ·exact OwnK.touch HO.out tE (fun b hb hm=>by have:=HF.out b hb;have:=HWs.out;simp at hm;omega)
    ·exact hrs
    ·exact ((HT0.out.1.trans HT.out (fun b hb=>.inr (by simp at hb;omega))).trans tE (fun b hb=>.inr (by simp at hb;omega)))
    ·exact fun b hb=>by have:=HF.out b hb;have:=HWs.out;have:=HT0.out.1.size;omega
    ·exact fun b hb=>by
      have s1:=HT0.out.1.size
      have s2:=HT.out.size
      have s3:=HtD.out.2.size
      simp [fpo] at hb
      omega
    ·exact fun b hb hm=>by
      have h1:=HO.out.lt b hb
      have h2:=HtD.out.2.size
      have h3:=tE.size
      simp [fpo] at hm
      first | omega | (have h4:=HtY.out.size;omega)
   ·skip
    rw [if_pos (by rfl)]
    refine wp_store_mid 49 (.tmp 2) (.tmp 26) rfl (w.heap.size+1) 0 #[.int .i64 k0,.string k1,.slice A j c,.int .i64 ck,.string cn,.int .i64 cvk,.int .i64 cvn,.string cvt,.string cop,.slice CA cnn cc,.slice NA nn nc,.slice EA en ec,.slice OA ol oc,.slice GA gn gc,.slice BA bn bc,.int .i64 count] rfl rfl (there16 Hbd.out) (by kernel_rfl) (by simp [Value.oneCell']) ?_
    simp only [Act.put]
    obtain ⟨X,hX⟩:∃ X,X=wd.setCells (w.heap.size+1) 0 [.int .i64 k0,.string k1,.slice A j c,.int .i64 ck,.string cn,.int .i64 cvk,.int .i64 cvn,.string cvt,.string cop,.slice CA cnn cc,.slice NA nn nc,.slice EA en ec,.slice OA ol oc,.slice GA gn gc,.slice BA bn bc,.int .i64 count]:=⟨_,rfl⟩
    have tY:Touch [w.heap.size+1] wd X:=by
     rw [hX]
     exact touchAll (w.heap.size+1) _ wd 0
    have hbX:X.heap[w.heap.size+1]?=some (.cells #[.int .i64 k0,.string k1,.slice A j c,.int .i64 ck,.string cn,.int .i64 cvk,.int .i64 cvn,.string cvt,.string cop,.slice CA cnn cc,.slice NA nn nc,.slice EA en ec,.slice OA ol oc,.slice GA gn gc,.slice BA bn bc,.int .i64 count] 49 (0,0)):=by
     rw [hX]
     exact setAll16 Hbd.out rfl (.int .i64 k0) (.string k1) (.slice A j c) (.int .i64 ck) (.string cn) (.int .i64 cvk) (.int .i64 cvn) (.string cvt) (.string cop) (.slice CA cnn cc) (.slice NA nn nc) (.slice EA en ec) (.slice OA ol oc) (.slice GA gn gc) (.slice BA bn bc) (.int .i64 count)
    have hXs:X.heap.size=wd.heap.size:=by rw [hX];simp [World.setCells]
    have HbX:=lh hbX
    have HtY:=lh tY
    have HXs:=lh hXs
    rw [<- hX]
    refine hK.out _ _ (HKP.out _ (HtD.out.2.trans tY (fun b hb=>.inl hb))) (fun _ => ?_)
    clear hK K hX hbX tY hXs
    try simp only [Act.put,List.setIfInBounds_toArray,List.set_cons_zero,List.set_cons_succ]
    refine wpAnyH_ready (rs:=[9]) (by kernel_rfl) (by simp) ?_
    refine AllReadyH.cons rfl (fun K hK => ?_) AllReadyH.nil
    go_simp
    have tS:=(Touch.refl [w.heap.size+1] X).alloc (.cells #[.string ⟨#[120]⟩,.slice sxA sxn sxc,.slice rxA rxn rxc,.string ⟨#[121]⟩,.slice syA syn syc,.slice ryA ryn ryc,.string ⟨#[120]⟩,.slice none 0 0,.slice none 0 0] 36)
    have hrs:=RdK.row (enc:=srE) X 36 [⟨⟨#[120]⟩,⟨sxA,sxn,sxc⟩,⟨rxA,rxn,rxc⟩⟩,⟨⟨#[121]⟩,⟨syA,syn,syc⟩,⟨ryA,ryn,ryc⟩⟩,⟨⟨#[120]⟩,noS,noS⟩] #[.string ⟨#[120]⟩,.slice sxA sxn sxc,.slice rxA rxn rxc,.string ⟨#[121]⟩,.slice syA syn syc,.slice ryA ryn ryc,.string ⟨#[120]⟩,.slice none 0 0,.slice none 0 0] rfl
    have hres:=((Touch.refl [] X).alloc (.cells #[.string ⟨#[120]⟩,.slice sxA sxn sxc,.slice rxA rxn rxc,.string ⟨#[121]⟩,.slice syA syn syc,.slice ryA ryn ryc,.string ⟨#[120]⟩,.slice none 0 0,.slice none 0 0] 36)).blk HbX.out (by simp)
    have HE:=lh (And.intro tS (And.intro hrs hres))
    refine hK.out _ _ (HKP.out _ ((HtD.out.2.trans HtY.out (fun b hb=>.inl hb)).trans tS (fun b hb=>.inl hb))) (fun hS2 => ?_)
    clear hK K tS hrs hres
    try simp only [Act.put,List.setIfInBounds_toArray,List.set_cons_zero,List.set_cons_succ]
    refine wpAnyH_ready (rs:=[11]) (by kernel_rfl) (by simp) ?_
    refine AllReadyH.cons rfl (fun K hK => ?_) AllReadyH.nil
    go_simp
    refine hK.out _ _ hS2 (fun _ => ?_)
    clear hK K
    try simp only [Act.put,List.setIfInBounds_toArray,List.set_cons_zero,List.set_cons_succ]
    obtain ⟨tS,hrs,hres⟩:=HE.out
    have tE:=(HtD.out.2.trans HtY.out (fun b hb=>.inl hb)).trans tS (fun b hb=>.inl hb)
    refine wpAnyH_done (by kernel_rfl) ?_ _
    go_wp2_with fail
    refine bodyPost_ret (results_cell_two rfl _ _ (w.heap.size+1) _ _ _ _ rfl hres Tryz.underlying49 rfl rfl) rfl ⟨A,j,c,some ⟨X.heap.size,0,none⟩,rfl,rfl, ?_, ?_, ?_, ?_, ?_, ?_⟩
    ·exact OwnK.touch HO.out tE (fun b hb hm=>by have:=HF.out b hb;have:=HWs.out;simp at hm;omega)
    ·exact hrs
    ·exact ((HT0.out.1.trans HT.out (fun b hb=>.inr (by simp at hb;omega))).trans tE (fun b hb=>.inr (by simp at hb;omega)))
    ·exact fun b hb=>by have:=HF.out b hb;have:=HWs.out;have:=HT0.out.1.size;omega
    ·exact fun b hb=>by
      have s1:=HT0.out.1.size
      have s2:=HT.out.size
      have s3:=HtD.out.2.size
      have s4:=HtY.out.size
      simp [fpo] at hb
      omega
    ·exact fun b hb hm=>by
      have h1:=HO.out.lt b hb
      have h2:=HtD.out.2.size
      have h3:=tE.size
      simp [fpo] at hm
      first | omega | (have h4:=HtY.out.size;omega)
end
end Go.Proofs.YtafoklilkdnepaaGreatDoor
