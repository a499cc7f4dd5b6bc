/- Part 28 of the texts of this proof, one behind the other. No condition beyond those that its theorems state. -/
import Derived.Test.YtafoklilkdnepaaGreatDoorRe27
set_option linter.all false
set_option maxRecDepth 40000
set_option maxHeartbeats 25600000
namespace Go.Proofs.YtafoklilkdnepaaGreatDoor
section
open Go.RowKit
theorem Cc(k:Int):eN k=0\/eN k=1\/eN k=2:=by
 unfold eN;split
 ·exact .inr (.inl rfl)
 split
 ·exact .inr (.inr rfl)
 exact .inl rfl
def kC(x:PC)(sx rx sy ry:SL):Value:=.agg #[.int .i64 x.kind,.string x.name,.slice x.args.A x.args.n x.args.c,.int .i64 x.cond.nd.kind,.string x.cond.nd.name,.int .i64 x.cond.nd.v.kind,.int .i64 x.cond.nd.v.num,.string x.cond.nd.v.text,.string x.cond.nd.op,.slice x.cond.A x.cond.n x.cond.c,
 .slice x.names.A x.names.n x.names.c,.slice x.exprs.A x.exprs.n x.exprs.c,.slice x.on.A x.on.n x.on.c,.slice x.aggs.A x.aggs.n x.aggs.c,.slice x.by_.A x.by_.n x.by_.c,.int .i64 x.count,.slice sx.A sx.n sx.c,.slice rx.A rx.n rx.c,.slice sy.A sy.n sy.c,.slice ry.A ry.n ry.c]
theorem EZ:(Tryz.prog.info? 49).map (λi=>(i.zero,i.size,i.bytes))=some (some (.agg #[.int .i64 0,.string ⟨#[]⟩,.slice none 0 0,.int .i64 0,.string ⟨#[]⟩,.int .i64 0,.int .i64 0,.string ⟨#[]⟩,.string ⟨#[]⟩,.slice none 0 0,.slice none 0 0,.slice none 0 0,.slice none 0 0,.slice none 0 0,.slice none 0 0,.int .i64 0]),16,272):=by kernel_rfl
def F0:List ByteArray:=[⟨#[120]⟩,⟨#[121]⟩]
theorem FM{w:World}{g:Nat}{cs:Array Value}{t:TypeId}(h:w.heap[g]?=some (.cells cs t (0,0)))(hs:cs.size=16)(v0 v1 v2 v3 v4 v5 v6 v7 v8 v9 v10 v11 v12 v13 v14 v15:Value): ((((((((((((((((w.setCell ⟨g,0,none⟩ v0).setCell ⟨g,1,none⟩ v1).setCell ⟨g,2,none⟩ v2).setCell ⟨g,3,none⟩ v3).setCell ⟨g,4,none⟩ v4).setCell ⟨g,5,none⟩ v5).setCell ⟨g,6,none⟩ v6).setCell ⟨g,7,none⟩ v7).setCell ⟨g,8,none⟩ v8).setCell ⟨g,9,none⟩ v9).setCell ⟨g,10,none⟩ v10).setCell ⟨g,11,none⟩ v11).setCell ⟨g,12,none⟩ v12).setCell ⟨g,13,none⟩ v13).setCell ⟨g,14,none⟩ v14).setCell ⟨g,15,none⟩ v15).heap[g]?=some (.cells #[v0,v1,v2,v3,v4,v5,v6,v7,v8,v9,v10,v11,v12,v13,v14,v15] t (0,0)):=by
 rw[fD (fD (fD (fD (fD (fD (fD (fD (fD (fD (fD (fD (fD (fD (fD (fD h 0 v0) 1 v1) 2 v2) 3 v3) 4 v4) 5 v5) 6 v6) 7 v7) 8 v8) 9 v9) 10 v10) 11 v11) 12 v12) 13 v13) 14 v14) 15 v15];obtain⟨l⟩:=cs;match l,hs with
 | [x0,x1,x2,x3,x4,x5,x6,x7,x8,x9,x10,x11,x12,x13,x14,x15],_=>simp only[List.setIfInBounds_toArray,List.set_cons_zero,List.set_cons_succ]
theorem ym{w:World}{g:Nat}{v0 v1 v2 v3 v4 v5 v6 v7 v8 v9 v10 v11 v12 v13 v14 v15:Value}{t:TypeId}(h:w.heap[g]?=some (.cells #[v0,v1,v2,v3,v4,v5,v6,v7,v8,v9,v10,v11,v12,v13,v14,v15] t (0,0))):w.there g 0 16:=λj hj=>by rw[Nat.zero_add];refine⟨?_,kS h j⟩;have hl:j < #[v0,v1,v2,v3,v4,v5,v6,v7,v8,v9,v10,v11,v12,v13,v14,v15].size:=hj;rw[d_ (v:=#[v0,v1,v2,v3,v4,v5,v6,v7,v8,v9,v10,v11,v12,v13,v14,v15][j]) h (Array.getElem?_eq_getElem hl)];rfl
theorem uV{w:World}{g:Nat}{cs:Array Value}{t:TypeId}(h:w.heap[g]?=some (.cells cs t (0,0)))(hs:cs.size=16)(v0 v1 v2 v3 v4 v5 v6 v7 v8 v9 v10 v11 v12 v13 v14 v15:Value):
 (w.setCells g 0 [v0,v1,v2,v3,v4,v5,v6,v7,v8,v9,v10,v11,v12,v13,v14,v15]).heap[g]?=some (.cells #[v0,v1,v2,v3,v4,v5,v6,v7,v8,v9,v10,v11,v12,v13,v14,v15] t (0,0)):=FM h hs v0 v1 v2 v3 v4 v5 v6 v7 v8 v9 v10 v11 v12 v13 v14 v15
theorem rC(g:Nat):∀(vs:List Value)(w:World)(o:Nat),Touch [g] w (w.setCells g o vs)
 | [],w,_=>Touch.refl _ _
 |v:: vs,w,o=>((Touch.refl [g] w).setCell (p:=⟨g,o,none⟩) (.inl (by simp)) v).trans (rC g vs _ _) (λb hb=>.inl hb)
theorem lw(x:PC)(sx rx sy ry:SL)(w:World):Calls Tryz.prog 15 #[kC x sx rx sy ry] w λe w'=>∃(A:Option Addr)(n c:Nat)(I:Option Addr),e=.returned (.tuple #[PC.val { x with args:=⟨A,n,c⟩ },.slice I 3 3])/\(n:Int)=eN x.kind /\
  d9 ir w' A ([eH ⟨#[120]⟩,eH ⟨#[121]⟩].take n)/\d9 st w' I [⟨⟨#[120]⟩,sx,rx⟩,⟨⟨#[121]⟩,sy,ry⟩,⟨⟨#[120]⟩,kE,kE⟩]/\Touch [] w w'/\(∀b∈ed A,w.heap.size<=b)/\(∀b∈ed I,w.heap.size<=b):=by
 obtain⟨k0,k1,⟨A2,n2,c2'⟩,⟨⟨ck,cn,⟨cvk,cvn,cvt⟩,cop⟩,CA,cnn,cc⟩,⟨NA,nn,nc⟩,⟨EA,en,ec⟩,⟨OA,ol,oc⟩,⟨GA,gn,gc⟩,⟨BA,bn,bc⟩,count⟩:=x
 obtain⟨sxA,sxn,sxc⟩:=sx
 obtain⟨rxA,rxn,rxc⟩:=rx
 obtain⟨syA,syn,syc⟩:=sy
 obtain⟨ryA,ryn,ryc⟩:=ry
 simp only[kC,PC.val]
 have Hnd:=lh λw'=>tK k0 w'
 obtain⟨z,hz,hz2⟩:∃z:Nat,(z:Int)=eN k0/\z<=2:=by
  rcases Cc k0 with h|h|h
  ·exact⟨0,h.symm,by omega⟩
  ·exact⟨1,h.symm,by omega⟩
  ·exact⟨2,h.symm,by omega⟩
 rw[<- hz] at Hnd ⊢
 clear hz
 obtain⟨W,hW⟩:∃W,W=((w.alloc (.cells #[.int .i64 k0,.string k1,.slice A2 n2 c2',.int .i64 ck,.string cn,.int .i64 cvk,.int .i64 cvn,.string cvt,.string cop,.slice CA cnn cc,.slice NA nn nc,.slice EA en ec,.slice OA ol oc,.slice GA gn gc,.slice BA bn bc,.int .i64 count,.slice sxA sxn sxc,.slice rxA rxn rxc,.slice syA syn syc,.slice ryA ryn ryc] 55)).alloc (.cells #[.int .i64 0,.string ⟨#[]⟩,.slice none 0 0,.int .i64 0,.string ⟨#[]⟩,.int .i64 0,.int .i64 0,.string ⟨#[]⟩,.string ⟨#[]⟩,.slice none 0 0,.slice none 0 0,.slice none 0 0,.slice none 0 0,.slice none 0 0,.slice none 0 0,.int .i64 0] 49)).alloc (.cells #[.int .i64 k0,.string k1,.slice none 0 0,.int .i64 ck,.string cn,.int .i64 cvk,.int .i64 cvn,.string cvt,.string cop,.slice CA cnn cc,.slice NA nn nc,.slice EA en ec,.slice OA ol oc,.slice GA gn gc,.slice BA bn bc,.int .i64 count] 49):=⟨_,rfl⟩
 have t0:Touch [] w W:=hW ▸ (((Touch.refl [] w).alloc _).alloc _).alloc _
 have hb0:W.heap[w.heap.size]?=some (.cells #[.int .i64 k0,.string k1,.slice A2 n2 c2',.int .i64 ck,.string cn,.int .i64 cvk,.int .i64 cvn,.string cvt,.string cop,.slice CA cnn cc,.slice NA nn nc,.slice EA en ec,.slice OA ol oc,.slice GA gn gc,.slice BA bn bc,.int .i64 count,.slice sxA sxn sxc,.slice rxA rxn rxc,.slice syA syn syc,.slice ryA ryn ryc] 55 (0,0)):=hW ▸ (((Touch.refl [] (w.alloc (.cells #[.int .i64 k0,.string k1,.slice A2 n2 c2',.int .i64 ck,.string cn,.int .i64 cvk,.int .i64 cvn,.string cvt,.string cop,.slice CA cnn cc,.slice NA nn nc,.slice EA en ec,.slice OA ol oc,.slice GA gn gc,.slice BA bn bc,.int .i64 count,.slice sxA sxn sxc,.slice rxA rxn rxc,.slice syA syn syc,.slice ryA ryn ryc] 55))).alloc (.cells #[.int .i64 0,.string ⟨#[]⟩,.slice none 0 0,.int .i64 0,.string ⟨#[]⟩,.int .i64 0,.int .i64 0,.string ⟨#[]⟩,.string ⟨#[]⟩,.slice none 0 0,.slice none 0 0,.slice none 0 0,.slice none 0 0,.slice none 0 0,.slice none 0 0,.int .i64 0] 49)).alloc (.cells #[.int .i64 k0,.string k1,.slice none 0 0,.int .i64 ck,.string cn,.int .i64 cvk,.int .i64 cvn,.string cvt,.string cop,.slice CA cnn cc,.slice NA nn nc,.slice EA en ec,.slice OA ol oc,.slice GA gn gc,.slice BA bn bc,.int .i64 count] 49)).blk (ah w _) (by simp)
 have hb1:W.heap[w.heap.size+1]?=some (.cells #[.int .i64 0,.string ⟨#[]⟩,.slice none 0 0,.int .i64 0,.string ⟨#[]⟩,.int .i64 0,.int .i64 0,.string ⟨#[]⟩,.string ⟨#[]⟩,.slice none 0 0,.slice none 0 0,.slice none 0 0,.slice none 0 0,.slice none 0 0,.slice none 0 0,.int .i64 0] 49 (0,0)):=by
  have h1:=ah (w.alloc (.cells #[.int .i64 k0,.string k1,.slice A2 n2 c2',.int .i64 ck,.string cn,.int .i64 cvk,.int .i64 cvn,.string cvt,.string cop,.slice CA cnn cc,.slice NA nn nc,.slice EA en ec,.slice OA ol oc,.slice GA gn gc,.slice BA bn bc,.int .i64 count,.slice sxA sxn sxc,.slice rxA rxn rxc,.slice syA syn syc,.slice ryA ryn ryc] 55)) (.cells #[.int .i64 0,.string ⟨#[]⟩,.slice none 0 0,.int .i64 0,.string ⟨#[]⟩,.int .i64 0,.int .i64 0,.string ⟨#[]⟩,.string ⟨#[]⟩,.slice none 0 0,.slice none 0 0,.slice none 0 0,.slice none 0 0,.slice none 0 0,.slice none 0 0,.int .i64 0] 49)
  rw[ao] at h1
  exact hW ▸ ((Touch.refl [] _).alloc (.cells #[.int .i64 k0,.string k1,.slice none 0 0,.int .i64 ck,.string cn,.int .i64 cvk,.int .i64 cvn,.string cvt,.string cop,.slice CA cnn cc,.slice NA nn nc,.slice EA en ec,.slice OA ol oc,.slice GA gn gc,.slice BA bn bc,.int .i64 count] 49)).blk h1 (by simp)
 have hb2:W.heap[w.heap.size+1+1]?=some (.cells #[.int .i64 k0,.string k1,.slice none 0 0,.int .i64 ck,.string cn,.int .i64 cvk,.int .i64 cvn,.string cvt,.string cop,.slice CA cnn cc,.slice NA nn nc,.slice EA en ec,.slice OA ol oc,.slice GA gn gc,.slice BA bn bc,.int .i64 count] 49 (0,0)):=by
  have h1:=ah ((w.alloc (.cells #[.int .i64 k0,.string k1,.slice A2 n2 c2',.int .i64 ck,.string cn,.int .i64 cvk,.int .i64 cvn,.string cvt,.string cop,.slice CA cnn cc,.slice NA nn nc,.slice EA en ec,.slice OA ol oc,.slice GA gn gc,.slice BA bn bc,.int .i64 count,.slice sxA sxn sxc,.slice rxA rxn rxc,.slice syA syn syc,.slice ryA ryn ryc] 55)).alloc (.cells #[.int .i64 0,.string ⟨#[]⟩,.slice none 0 0,.int .i64 0,.string ⟨#[]⟩,.int .i64 0,.int .i64 0,.string ⟨#[]⟩,.string ⟨#[]⟩,.slice none 0 0,.slice none 0 0,.slice none 0 0,.slice none 0 0,.slice none 0 0,.slice none 0 0,.int .i64 0] 49)) (.cells #[.int .i64 k0,.string k1,.slice none 0 0,.int .i64 ck,.string cn,.int .i64 cvk,.int .i64 cvn,.string cvt,.string cop,.slice CA cnn cc,.slice NA nn nc,.slice EA en ec,.slice OA ol oc,.slice GA gn gc,.slice BA bn bc,.int .i64 count] 49)
  rw[ao,ao] at h1
  exact hW ▸ h1
 have hWs:W.heap.size=w.heap.size+3:=by rw[hW];simp
 have HW:=lh hW
 have HT0:=Gd t0 hb0 hb1 hWs
 have HB2:=lh hb2
 clear hW t0 hb0 hb1 hb2 hWs
 go_enter Tryz.func15,Tryz.ntmps15
 go_wp2_with fail
 rw[<- HW.o]
 refine(Hnd.o _).mono ?_
 rintro e w1 ⟨rfl,t1⟩
 have T1:=lh t1
 clear t1
 go_wp2_with fail
 go_loopw [12] (λi wr=>∃(j:Nat)(A:Option Addr)(c:Nat),j<=z/\i=.int .i64 j/\Ga (ep 49 16 ir wr A c ([eH ⟨#[120]⟩,eH ⟨#[121]⟩].take j))/\Ga (∀b∈ed A,W.heap.size<=b)/\Ga (wr.heap[w.heap.size+1+1]?=some (.cells #[.int .i64 k0,.string k1,.slice A j c,.int .i64 ck,.string cn,.int .i64 cvk,.int .i64 cvn,.string cvt,.string cop,.slice CA cnn cc,.slice NA nn nc,.slice EA en ec,.slice OA ol oc,.slice GA gn gc,.slice BA bn bc,.int .i64 count] 49 (0,0)))/\Ga (Touch [w.heap.size+1+1] W wr)) (λi _=>z-(intOf i).toNat)
 case atStart=>exact⟨0,none,0,by omega,rfl,lh (ep.nil _ _ _ _),lh (by simp[ed]),lh (T1.o.blk HB2.o (by simp)),lh ((Touch.refl _ _).trans T1.o (by simp))⟩
 case round =>
  obtain⟨j,A,c,hj,rfl,HO,HF,HB,HT⟩:=hrel
  have HWs:=lh HT0.o.2.2.2
  by_cases hlt:j<z
  ·have td:=(Touch.refl [] wr).drew
   obtain⟨p0,p1,p2,p3,p4,p5,p6,p7,p8,p9,p10,p11,p12,p13,p14,p15⟩:=fg (td.blk HB.o (by simp))
   have HD:=Gb td (td.blk HB.o (by simp))
   have hjn:(j:Int)<(z:Int):=by omega
   have hj2:j<2:=by omega
   have hjI:(j:Int)<2:=by omega
   have hnm:∃NM,F0[j]?=some NM/\[eH ⟨#[120]⟩,eH ⟨#[121]⟩].take (j+1)=[eH ⟨#[120]⟩,eH ⟨#[121]⟩].take j++[eH NM]:=by
    have:j=0\/j=1:=by omega
    rcases this with rfl|rfl
    ·exact⟨_,rfl,rfl⟩
    ·exact⟨_,rfl,rfl⟩
   obtain⟨NM,hNM,hTK⟩:=hnm
   have HTK:=lh hTK
   have HNM:=lh hNM
   clear td p0 p1 p3 p4 p5 p6 p7 p8 p9 p10 p11 p12 p13 p14 p15 hTK hNM hj2
   go_wp2_with fail
   obtain⟨wd,hwd⟩:∃wd,wd=wr.drew:=⟨_,rfl⟩
   rw[<- hwd] at HD p2
   refine nu 10 (fun w':World=>w'.cell? ⟨w.heap.size+1+1,2,none⟩=some (.slice A j c)) (by kernel_rfl) ?_
   rw[<- hwd]
   clear hwd
   have hH0:(fun w':World=>w'.cell? ⟨w.heap.size+1+1,2,none⟩=some (.slice A j c)) wd:=p2
   refine kg (i:=0) (d:=15) (v:= ?_) rfl rfl (by kernel_rfl) (by kernel_rfl) (by kernel_rfl) (λ_ _ _ h=>h) (by decide) rfl (by kernel_rfl) (by kernel_rfl) (bI ⟨by rfl, ?_⟩) hH0 ?_
   rotate_left
   ·intro w hSw;(try dsimp only at hSw);go_simp;(try with_reducible rfl)
   try go_frame
   refine kg (i:=1) (d:=16) (v:= ?_) rfl rfl (by kernel_rfl) (by kernel_rfl) (by kernel_rfl) (λ_ _ _ h=>h) (by decide) rfl (by kernel_rfl) (by kernel_rfl) (bI ⟨by rfl, ?_⟩) hH0 ?_
   rotate_left
   ·intro w hSw;(try dsimp only at hSw);go_simp;(try with_reducible rfl)
   try go_frame
   refine kg (i:=3) (d:=18) (v:= ?_) rfl rfl (by kernel_rfl) (by kernel_rfl) (by kernel_rfl) (λ_ _ _ h=>h) (by decide) rfl (by kernel_rfl) (by kernel_rfl) (bI ⟨by rfl, ?_⟩) hH0 ?_
   rotate_left
   ·intro w hSw;(try dsimp only at hSw);go_simp;(try with_reducible rfl)
   try go_frame
   refine ng (i:=2) (by kernel_rfl) rfl (λK hK=> ?_)
   go_simp
   have tn:=(Touch.refl [] wd).alloc (.cells #[.string ⟨#[120]⟩,.string ⟨#[121]⟩] 9)
   have hH1:(fun w':World=>w'.cell? ⟨w.heap.size+1+1,2,none⟩=some (.slice A j c)) (wd.alloc (.cells #[.string ⟨#[120]⟩,.string ⟨#[121]⟩] 9)):=tn.cell hH0 (by simp)
   have hnc:(wd.alloc (.cells #[.string ⟨#[120]⟩,.string ⟨#[121]⟩] 9)).cell? ⟨wd.heap.size,j,none⟩=some (.string NM):=by
    have h:=d_ (i:=j) (v:=.string NM) (ah wd (.cells #[.string ⟨#[120]⟩,.string ⟨#[121]⟩] 9)) (by
     have hn:=HNM.o
     have:j=0\/j=1:=by omega
     rcases this with rfl|rfl<;>(cases hn;rfl))
    exact h
   have hadd:(⟨wd.heap.size,0,none⟩:Addr).add j=⟨wd.heap.size,j,none⟩:=k7 _ _
   refine hK _ _ (λ_=>hH1) ?_
   clear hK K
   try go_frame
   refine ng (i:=4) (by kernel_rfl) rfl (λK hK=> ?_)
   go_simp
   refine hK _ _ (λ_=>hH1) ?_
   clear hK K
   try go_frame
   refine ng (i:=5) (by kernel_rfl) rfl (λK hK=> ?_)
   go_simp
   refine hK _ _ (λ_=>hH1) ?_
   clear hK K
   try go_frame
   refine ng (i:=6) (by kernel_rfl) rfl (λK hK=> ?_)
   go_simp
   refine hK _ _ (λ_=>hH1) ?_
   clear hK K
   try go_frame
   refine ng (i:=7) (by kernel_rfl) rfl (λK hK=> ?_)
   go_simp
   have tn2:=tn.alloc (.cells #[.int .i64 1,.string NM,.slice none 0 0,.int .i64 0,.string ⟨#[]⟩,.int .i64 0,.int .i64 0,.string ⟨#[]⟩,.string ⟨#[]⟩,.slice none 0 0,.slice none 0 0,.slice none 0 0,.slice none 0 0,.slice none 0 0,.slice none 0 0,.int .i64 0] 49)
   have hH2:(fun w':World=>w'.cell? ⟨w.heap.size+1+1,2,none⟩=some (.slice A j c)) ((wd.alloc (.cells #[.string ⟨#[120]⟩,.string ⟨#[121]⟩] 9)).alloc (.cells #[.int .i64 1,.string NM,.slice none 0 0,.int .i64 0,.string ⟨#[]⟩,.int .i64 0,.int .i64 0,.string ⟨#[]⟩,.string ⟨#[]⟩,.slice none 0 0,.slice none 0 0,.slice none 0 0,.slice none 0 0,.slice none 0 0,.slice none 0 0,.int .i64 0] 49)):=tn2.cell hH0 (by simp)
   refine hK _ _ (λ_=>hH2) ?_
   clear hK K
   try go_frame
   refine ng (i:=8) (by kernel_rfl) rfl (λK hK=> ?_)
   have hrow:=d9.one (enc:=ir) (wd.alloc (.cells #[.string ⟨#[120]⟩,.string ⟨#[121]⟩] 9)) 49 (eH NM) #[.int .i64 1,.string NM,.slice none 0 0,.int .i64 0,.string ⟨#[]⟩,.int .i64 0,.int .i64 0,.string ⟨#[]⟩,.string ⟨#[]⟩,.slice none 0 0,.slice none 0 0,.slice none 0 0,.slice none 0 0,.slice none 0 0,.slice none 0 0,.int .i64 0] rfl
   rw[ao] at hrow
   have hlj:([eH ⟨#[120]⟩,eH ⟨#[121]⟩].take j).length=j:=by rw[aO];simp;omega
   refine ue (enc:=ir) rfl (.tmp 16) (.tmp 22) 41 rfl 49 _ 16 272 EZ Tryz.underlying41 rfl (by omega) lC EK A j c ([eH ⟨#[120]⟩,eH ⟨#[121]⟩].take j) hlj rfl (HO.o.touch0 (HD.o.1.trans0 tn2))
    (some ⟨wd.heap.size+1,0,none⟩) 1 1 [eH NM] rfl rfl hrow (by omega) (by omega) ?_
   intro A' c' w2 hown ht hf
   have hlA:=HO.o.lt
   have hgA:w.heap.size+1+1∉ed A:=λq=>by have:=HF.o _ q;have:=HWs.o;omega
   have hH3:(fun w':World=>w'.cell? ⟨w.heap.size+1+1,2,none⟩=some (.slice A j c)) w2:=ht.cell hH2 hgA
   refine hK _ _ (λ_=>hH3) ?_
   clear hK K
   try simp only[Act.put,List.setIfInBounds_toArray]
   refine ng (i:=9) (by kernel_rfl) rfl (λK hK=> ?_)
   go_simp
   refine hK _ _ (λ_=>hH3) ?_
   clear hK K
   try simp only[Act.put,List.setIfInBounds_toArray]
   have hb2:=ht.blk (tn2.blk HD.o.2 (by simp)) hgA
   have f2:=kS hb2 2
   have q2:=d_ (i:=2) hb2 rfl
   refine ng (i:=10) (by kernel_rfl) rfl (λK hK=> ?_)
   go_simp
   refine hK _ _ (λh=>by cases h) ?_
   clear hK K
   refine D8 (by kernel_rfl) ?_ _
   have hT2:=(HT.o.trans (HD.o.1.trans0 tn2) (by simp)).trans ht (λb hb=>.inr (HF.o b hb))
   have hs1:=(HD.o.1.trans0 tn2).size
   have HX:=Ge hown hT2 hf hb2 (bm HT.o.size (HD.o.1.trans0 tn).size)
   clear hown hT2 hf hb2 ht tn tn2 hH0 hH1 hH2 hH3 hrow hs1 hnc hadd f2 q2 p2 hlA hgA hlj
   go_wp2_with fail
   go_roundw
   case rel =>
    obtain⟨hown,hT2,hf,hb2,hs⟩:=HX.o
    have tq:Touch [w.heap.size+1+1] w2 (w2.setCell ⟨w.heap.size+1+1,2,none⟩ (.slice A' (j+1) c')):=(Touch.refl [w.heap.size+1+1] w2).setCell (p:=⟨w.heap.size+1+1,2,none⟩) (.inl (by simp)) _
    have hF':∀b∈ed A',W.heap.size<=b:=λb hb=>by
     rcases hf b hb with q|q
     ·exact HF.o b q
     ·rw[ao] at q;have:=HT.o.size;have:=HD.o.1.size;rw[ao] at hs q;omega
    exact⟨j+1,A',c',by omega,by go_num,lh (by rw[HTK.o];exact ep.touch hown tq (λb hb hm=>by have:=hF' b hb;have:=HWs.o;simp at hm;omega)),lh hF',lh (fD hb2 2 _),lh (hT2.trans tq (λb hb=>.inl hb))⟩
   case measure=>simp[intOf];omega
  ·obtain rfl:j=z:=by omega
   have hB0:=HT.o.blk HT0.o.2.1 (by simp;omega)
   have hbr:=HT.o.blk HT0.o.2.2.1 (by simp)
   have HBR:=lh hbr
   have HR:=lh (HO.o.rd)
   have KP:∀w',Touch [w.heap.size+1] wr w'->w'.heap[w.heap.size+1+1]?=some (.cells #[.int .i64 k0,.string k1,.slice A j c,.int .i64 ck,.string cn,.int .i64 cvk,.int .i64 cvn,.string cvt,.string cop,.slice CA cnn cc,.slice NA nn nc,.slice EA en ec,.slice OA ol oc,.slice GA gn gc,.slice BA bn bc,.int .i64 count] 49 (0,0))/\w'.heap[w.heap.size]?=some (.cells #[.int .i64 k0,.string k1,.slice A2 n2 c2',.int .i64 ck,.string cn,.int .i64 cvk,.int .i64 cvn,.string cvt,.string cop,.slice CA cnn cc,.slice NA nn nc,.slice EA en ec,.slice OA ol oc,.slice GA gn gc,.slice BA bn bc,.int .i64 count,.slice sxA sxn sxc,.slice rxA rxn rxc,.slice syA syn syc,.slice ryA ryn ryc] 55 (0,0)):=λw' t=>⟨t.blk HB.o (by simp),t.blk hB0 (by simp)⟩
   clear hB0
   go_wp2_with fail
   obtain⟨wd,hwd⟩:∃wd,wd=wr.drew:=⟨_,rfl⟩
   have tD:Touch [] wr wd:=hwd ▸ (Touch.refl [] wr).drew
   have tDg:Touch [w.heap.size+1] wr wd:=hwd ▸ (Touch.refl _ wr).drew
   refine wp_region_held_drew (S:=λw'=>w'.heap[w.heap.size+1+1]?=some (.cells #[.int .i64 k0,.string k1,.slice A j c,.int .i64 ck,.string cn,.int .i64 cvk,.int .i64 cvn,.string cvt,.string cop,.slice CA cnn cc,.slice NA nn nc,.slice EA en ec,.slice OA ol oc,.slice GA gn gc,.slice BA bn bc,.int .i64 count] 49 (0,0))/\w'.heap[w.heap.size]?=some (.cells #[.int .i64 k0,.string k1,.slice A2 n2 c2',.int .i64 ck,.string cn,.int .i64 cvk,.int .i64 cvn,.string cvt,.string cop,.slice CA cnn cc,.slice NA nn nc,.slice EA en ec,.slice OA ol oc,.slice GA gn gc,.slice BA bn bc,.int .i64 count,.slice sxA sxn sxc,.slice rxA rxn rxc,.slice syA syn syc,.slice ryA ryn ryc] 55 (0,0))) (by kernel_rfl) (KP _ (hwd ▸ tDg)) (λ_=> ?_)
   rw[<- hwd]
   clear hwd
   have hS0:(fun w':World=>w'.heap[w.heap.size+1+1]?=some (.cells #[.int .i64 k0,.string k1,.slice A j c,.int .i64 ck,.string cn,.int .i64 cvk,.int .i64 cvn,.string cvt,.string cop,.slice CA cnn cc,.slice NA nn nc,.slice EA en ec,.slice OA ol oc,.slice GA gn gc,.slice BA bn bc,.int .i64 count] 49 (0,0))/\w'.heap[w.heap.size]?=some (.cells #[.int .i64 k0,.string k1,.slice A2 n2 c2',.int .i64 ck,.string cn,.int .i64 cvk,.int .i64 cvn,.string cvt,.string cop,.slice CA cnn cc,.slice NA nn nc,.slice EA en ec,.slice OA ol oc,.slice GA gn gc,.slice BA bn bc,.int .i64 count,.slice sxA sxn sxc,.slice rxA rxn rxc,.slice syA syn syc,.slice ryA ryn ryc] 55 (0,0))) wd:=KP _ tDg
   refine fh (i:=0) (d:=26) (v:= ?_) rfl rfl (by kernel_rfl) (by kernel_rfl) (by kernel_rfl) (λ_ _ _ h=>h) (bI ⟨by rfl, ?_⟩) hS0 ?_
   rotate_left
   ·intro w9 hSw;obtain⟨p0,p1,p2,p3,p4,p5,p6,p7,p8,p9,p10,p11,p12,p13,p14,p15⟩:=fg hSw.1;clear hSw;go_simp;(try with_reducible rfl)
   try go_frame
   refine fh (i:=1) (d:=27) (v:= ?_) rfl rfl (by kernel_rfl) (by kernel_rfl) (by kernel_rfl) (λ_ _ _ h=>h) (bI ⟨by rfl, ?_⟩) hS0 ?_
   rotate_left
   ·intro w9 hSw;skip;clear hSw;go_simp;(try with_reducible rfl)
   try go_frame
   refine fh (i:=2) (d:=28) (v:= ?_) rfl rfl (by kernel_rfl) (by kernel_rfl) (by kernel_rfl) (λ_ _ _ h=>h) (bI ⟨by rfl, ?_⟩) hS0 ?_
   rotate_left
   ·intro w9 hSw;have e0:=d_ (i:=16) hSw.2 rfl;have e1:=d_ (i:=17) hSw.2 rfl;clear hSw;go_simp;(try with_reducible rfl)
   try go_frame
   refine fh (i:=3) (d:=29) (v:= ?_) rfl rfl (by kernel_rfl) (by kernel_rfl) (by kernel_rfl) (λ_ _ _ h=>h) (bI ⟨by rfl, ?_⟩) hS0 ?_
   rotate_left
   ·intro w9 hSw;skip;clear hSw;go_simp;(try with_reducible rfl)
   try go_frame
   refine fh (i:=4) (d:=30) (v:= ?_) rfl rfl (by kernel_rfl) (by kernel_rfl) (by kernel_rfl) (λ_ _ _ h=>h) (bI ⟨by rfl, ?_⟩) hS0 ?_
   rotate_left
   ·intro w9 hSw;skip;clear hSw;go_simp;(try with_reducible rfl)
   try go_frame
   refine fh (i:=5) (d:=31) (v:= ?_) rfl rfl (by kernel_rfl) (by kernel_rfl) (by kernel_rfl) (λ_ _ _ h=>h) (bI ⟨by rfl, ?_⟩) hS0 ?_
   rotate_left
   ·intro w9 hSw;have e0:=d_ (i:=18) hSw.2 rfl;have e1:=d_ (i:=19) hSw.2 rfl;clear hSw;go_simp;(try with_reducible rfl)
   try go_frame
   refine fh (i:=6) (d:=32) (v:= ?_) rfl rfl (by kernel_rfl) (by kernel_rfl) (by kernel_rfl) (λ_ _ _ h=>h) (bI ⟨by rfl, ?_⟩) hS0 ?_
   rotate_left
   ·intro w9 hSw;skip;clear hSw;go_simp;(try with_reducible rfl)
   try go_frame
   refine fh (i:=7) (d:=33) (v:= ?_) rfl rfl (by kernel_rfl) (by kernel_rfl) (by kernel_rfl) (λ_ _ _ h=>h) (bI ⟨by rfl, ?_⟩) hS0 ?_
   rotate_left
   ·intro w9 hSw;skip;clear hSw;go_simp;(try with_reducible rfl)
   try go_frame
   refine fh (i:=8) (d:=34) (v:= ?_) rfl rfl (by kernel_rfl) (by kernel_rfl) (by kernel_rfl) (λ_ _ _ h=>h) (bI ⟨by rfl, ?_⟩) hS0 ?_
   rotate_left
   ·intro w9 hSw;skip;clear hSw;go_simp;(try with_reducible rfl)
   try go_frame
   have Hbd:=lh (tD.blk HBR.o (by simp))
   have hgl:w.heap.size+1<wd.heap.size:=by have:=HT.o.size;have:=HWs.o;have:=tD.size;omega
   have HKP:=lh KP
   have HtD:=Gb tD tDg
   clear KP hS0 tD tDg
   refine dw (rs:=[9,10]) (by kernel_rfl) (by simp) ?_
   refine cZ rfl (λK hK=> ?_) (cZ rfl (λK hK=> ?_) dm)
   ·go_simp
    obtain⟨X,hX⟩:∃X,X=wd.alloc (.cells #[.string ⟨#[120]⟩,.slice sxA sxn sxc,.slice rxA rxn rxc,.string ⟨#[121]⟩,.slice syA syn syc,.slice ryA ryn ryc,.string ⟨#[120]⟩,.slice none 0 0,.slice none 0 0] 36):=⟨_,rfl⟩
    have tS:Touch [w.heap.size+1] wd X:=by
     rw[hX]
     exact(Touch.refl [w.heap.size+1] wd).alloc _
    have hrs0:d9 st X (some ⟨wd.heap.size,0,none⟩) [⟨⟨#[120]⟩,⟨sxA,sxn,sxc⟩,⟨rxA,rxn,rxc⟩⟩,⟨⟨#[121]⟩,⟨syA,syn,syc⟩,⟨ryA,ryn,ryc⟩⟩,⟨⟨#[120]⟩,kE,kE⟩]:=by
     rw[hX]
     exact d9.row (enc:=st) wd 36 [⟨⟨#[120]⟩,⟨sxA,sxn,sxc⟩,⟨rxA,rxn,rxc⟩⟩,⟨⟨#[121]⟩,⟨syA,syn,syc⟩,⟨ryA,ryn,ryc⟩⟩,⟨⟨#[120]⟩,kE,kE⟩] #[.string ⟨#[120]⟩,.slice sxA sxn sxc,.slice rxA rxn rxc,.string ⟨#[121]⟩,.slice syA syn syc,.slice ryA ryn ryc,.string ⟨#[120]⟩,.slice none 0 0,.slice none 0 0] rfl
    have hbX:X.heap[w.heap.size+1]?=some (.cells #[.int .i64 0,.string ⟨#[]⟩,.slice none 0 0,.int .i64 0,.string ⟨#[]⟩,.int .i64 0,.int .i64 0,.string ⟨#[]⟩,.string ⟨#[]⟩,.slice none 0 0,.slice none 0 0,.slice none 0 0,.slice none 0 0,.slice none 0 0,.slice none 0 0,.int .i64 0] 49 (0,0)):=by
     rw[hX]
     exact((Touch.refl [] wd).alloc (.cells #[.string ⟨#[120]⟩,.slice sxA sxn sxc,.slice rxA rxn rxc,.string ⟨#[121]⟩,.slice syA syn syc,.slice ryA ryn ryc,.string ⟨#[120]⟩,.slice none 0 0,.slice none 0 0] 36)).blk Hbd.o (by simp)
    have tY:=rC (w.heap.size+1) [.int .i64 k0,.string k1,.slice A j c,.int .i64 ck,.string cn,.int .i64 cvk,.int .i64 cvn,.string cvt,.string cop,.slice CA cnn cc,.slice NA nn nc,.slice EA en ec,.slice OA ol oc,.slice GA gn gc,.slice BA bn bc,.int .i64 count] X 0
    rw[<- hX]
    refine hK.out _ _ (HKP.o _ (HtD.o.2.trans tS (λb hb=>.inl hb))) (λ_=> ?_)
    clear hK K hX
    have HE:=Gd tS hrs0 hbX tY
    clear tS hrs0 hbX tY
    try go_frame
    refine dw (rs:=[10]) (by kernel_rfl) (by simp) ?_
    refine cZ rfl (λK hK=> ?_) dm
    rw[ae (by rfl)]
    refine wp_store_mid 49 (.tmp 2) (.tmp 26) rfl (w.heap.size+1) 0 #[.int .i64 k0,.string k1,.slice A j c,.int .i64 ck,.string cn,.int .i64 cvk,.int .i64 cvn,.string cvt,.string cop,.slice CA cnn cc,.slice NA nn nc,.slice EA en ec,.slice OA ol oc,.slice GA gn gc,.slice BA bn bc,.int .i64 count] rfl rfl (ym HE.o.2.2.1) (by kernel_rfl) (by simp[Value.oneCell']) ?_
    simp only[Act.put]
    refine hK.out _ _ (HKP.o _ ((HtD.o.2.trans HE.o.1 (λb hb=>.inl hb)).trans HE.o.2.2.2 (λb hb=>.inl hb))) (λhS2=> ?_)
    clear hK K
    try go_frame
    refine dw (rs:=[11]) (by kernel_rfl) (by simp) ?_
    refine cZ rfl (λK hK=> ?_) dm
    go_simp
    refine hK.out _ _ hS2 (λ_=> ?_)
    clear hK K
    try go_frame
    obtain⟨tS,hrs0,hbX,tY⟩:=HE.o
    have tE:=(HtD.o.2.trans tS (λb hb=>.inl hb)).trans tY (λb hb=>.inl hb)
    have hres:=uV hbX rfl (.int .i64 k0) (.string k1) (.slice A j c) (.int .i64 ck) (.string cn) (.int .i64 cvk) (.int .i64 cvn) (.string cvt) (.string cop) (.slice CA cnn cc) (.slice NA nn nc) (.slice EA en ec) (.slice OA ol oc) (.slice GA gn gc) (.slice BA bn bc) (.int .i64 count)
    have hrs:=d9.touch hrs0 tY (λb hb hm=>by simp[ed] at hb hm;omega)
    refine wpAnyH_done (by kernel_rfl) ?_ _
    go_wp2_with fail
    refine aG (eD rfl _ _ (w.heap.size+1) _ _ _ _ rfl hres dK rfl rfl) rfl ⟨A,j,c,some ⟨wd.heap.size,0,none⟩,rfl,rfl, ?_, ?_, ?_, ?_, ?_⟩
    ·exact d9.touch HR.o tE (λb hb hm=>by have:=HF.o b hb;have:=HWs.o;simp at hm;omega)
    ·exact hrs
    ·exact((HT0.o.1.trans HT.o (λb hb=>.inr (by simp at hb;omega))).trans tE (λb hb=>.inr (by simp at hb;omega)))
    ·exact λb hb=>by have:=HF.o b hb;have:=HWs.o;have:=HT0.o.1.size;omega
    ·exact λb hb=>by
      have s1:=HT0.o.1.size
      have s2:=HT.o.size
      have s3:=HtD.o.2.size
      simp[ed] at hb
      omega
   ·skip
    rw[ae (by rfl)]
    refine wp_store_mid 49 (.tmp 2) (.tmp 26) rfl (w.heap.size+1) 0 #[.int .i64 k0,.string k1,.slice A j c,.int .i64 ck,.string cn,.int .i64 cvk,.int .i64 cvn,.string cvt,.string cop,.slice CA cnn cc,.slice NA nn nc,.slice EA en ec,.slice OA ol oc,.slice GA gn gc,.slice BA bn bc,.int .i64 count] rfl rfl (ym Hbd.o) (by kernel_rfl) (by simp[Value.oneCell']) ?_
    simp only[Act.put]
    obtain⟨X,hX⟩:∃X,X=wd.setCells (w.heap.size+1) 0 [.int .i64 k0,.string k1,.slice A j c,.int .i64 ck,.string cn,.int .i64 cvk,.int .i64 cvn,.string cvt,.string cop,.slice CA cnn cc,.slice NA nn nc,.slice EA en ec,.slice OA ol oc,.slice GA gn gc,.slice BA bn bc,.int .i64 count]:=⟨_,rfl⟩
    have tY:Touch [w.heap.size+1] wd X:=by
     rw[hX]
     exact rC (w.heap.size+1) _ wd 0
    have hbX:X.heap[w.heap.size+1]?=some (.cells #[.int .i64 k0,.string k1,.slice A j c,.int .i64 ck,.string cn,.int .i64 cvk,.int .i64 cvn,.string cvt,.string cop,.slice CA cnn cc,.slice NA nn nc,.slice EA en ec,.slice OA ol oc,.slice GA gn gc,.slice BA bn bc,.int .i64 count] 49 (0,0)):=by
     rw[hX]
     exact uV Hbd.o rfl (.int .i64 k0) (.string k1) (.slice A j c) (.int .i64 ck) (.string cn) (.int .i64 cvk) (.int .i64 cvn) (.string cvt) (.string cop) (.slice CA cnn cc) (.slice NA nn nc) (.slice EA en ec) (.slice OA ol oc) (.slice GA gn gc) (.slice BA bn bc) (.int .i64 count)
    have hXs:X.heap.size=wd.heap.size:=by rw[hX];simp[World.setCells]
    have HbX:=lh hbX
    have HtY:=lh tY
    have HXs:=lh hXs
    rw[<- hX]
    refine hK.out _ _ (HKP.o _ (HtD.o.2.trans tY (λb hb=>.inl hb))) (λ_=> ?_)
    clear hK K hX hbX tY hXs
    try go_frame
    refine dw (rs:=[9]) (by kernel_rfl) (by simp) ?_
    refine cZ rfl (λK hK=> ?_) dm
    go_simp
    have tS:=(Touch.refl [w.heap.size+1] X).alloc (.cells #[.string ⟨#[120]⟩,.slice sxA sxn sxc,.slice rxA rxn rxc,.string ⟨#[121]⟩,.slice syA syn syc,.slice ryA ryn ryc,.string ⟨#[120]⟩,.slice none 0 0,.slice none 0 0] 36)
    have hrs:=d9.row (enc:=st) X 36 [⟨⟨#[120]⟩,⟨sxA,sxn,sxc⟩,⟨rxA,rxn,rxc⟩⟩,⟨⟨#[121]⟩,⟨syA,syn,syc⟩,⟨ryA,ryn,ryc⟩⟩,⟨⟨#[120]⟩,kE,kE⟩] #[.string ⟨#[120]⟩,.slice sxA sxn sxc,.slice rxA rxn rxc,.string ⟨#[121]⟩,.slice syA syn syc,.slice ryA ryn ryc,.string ⟨#[120]⟩,.slice none 0 0,.slice none 0 0] rfl
    have hres:=((Touch.refl [] X).alloc (.cells #[.string ⟨#[120]⟩,.slice sxA sxn sxc,.slice rxA rxn rxc,.string ⟨#[121]⟩,.slice syA syn syc,.slice ryA ryn ryc,.string ⟨#[120]⟩,.slice none 0 0,.slice none 0 0] 36)).blk HbX.o (by simp)
    have HE:=Gc tS hrs hres
    refine hK.out _ _ (HKP.o _ ((HtD.o.2.trans HtY.o (λb hb=>.inl hb)).trans tS (λb hb=>.inl hb))) (λhS2=> ?_)
    clear hK K tS hrs hres
    try go_frame
    refine dw (rs:=[11]) (by kernel_rfl) (by simp) ?_
    refine cZ rfl (λK hK=> ?_) dm
    go_simp
    refine hK.out _ _ hS2 (λ_=> ?_)
    clear hK K
    try go_frame
    obtain⟨tS,hrs,hres⟩:=HE.o
    have tE:=(HtD.o.2.trans HtY.o (λb hb=>.inl hb)).trans tS (λb hb=>.inl hb)
    refine wpAnyH_done (by kernel_rfl) ?_ _
    go_wp2_with fail
    refine aG (eD rfl _ _ (w.heap.size+1) _ _ _ _ rfl hres dK rfl rfl) rfl ⟨A,j,c,some ⟨X.heap.size,0,none⟩,rfl,rfl, ?_, ?_, ?_, ?_, ?_⟩
    ·exact d9.touch HR.o tE (λb hb hm=>by have:=HF.o b hb;have:=HWs.o;simp at hm;omega)
    ·exact hrs
    ·exact((HT0.o.1.trans HT.o (λb hb=>.inr (by simp at hb;omega))).trans tE (λb hb=>.inr (by simp at hb;omega)))
    ·exact λb hb=>by have:=HF.o b hb;have:=HWs.o;have:=HT0.o.1.size;omega
    ·exact λb hb=>by
      have s1:=HT0.o.1.size
      have s2:=HT.o.size
      have s3:=HtD.o.2.size
      have s4:=HtY.o.size
      simp[ed] at hb
      omega
end
section
open Go.RowKit
theorem jy{w:World}{s r:SL}{cs:List CD}{rows:List (List VD)}(hX:TabAt w s r cs rows)(ht:TbIn cs rows):Calls Tryz.prog 13 #[.agg #[.slice s.A s.n s.c,.slice r.A r.n r.c]] w λe w'=>e=.returned (.bool (gO cs rows))/\Touch [] w w':=
 sV s.A r.A s.c r.c s.n r.n cs rows hX.n.symm hX.m.symm ⟨by have:=ht.n;have:=hX.n;omega,λc hc=>⟨by have:=(ht.c c hc).1;omega,(ht.c c hc).2⟩⟩ ⟨by have:=ht.m;have:=hX.m;omega,λr hr=>⟨by have:=(ht.r r hr).1;omega,λv hv=>((ht.r r hr).2 v hv).le' (by omega)⟩⟩ w hX.cols hX.rws
theorem vV{w:World}{g:Nat}{a0 a1 a2 a3 a4 a5 a6 a7 a8 a9 a10 a11 a12 a13 a14 a15 a16 a17 a18 a19:Value}{t:TypeId}(h:w.heap[g]?=some (.cells #[a0,a1,a2,a3,a4,a5,a6,a7,a8,a9,a10,a11,a12,a13,a14,a15,a16,a17,a18,a19] t (0,0))):w.cell? ⟨g,0,none⟩=some a0/\w.cell? ⟨g,1,none⟩=some a1/\w.cell? ⟨g,2,none⟩=some a2/\w.cell? ⟨g,3,none⟩=some a3/\w.cell? ⟨g,4,none⟩=some a4/\w.cell? ⟨g,5,none⟩=some a5/\w.cell? ⟨g,6,none⟩=some a6/\w.cell? ⟨g,7,none⟩=some a7/\w.cell? ⟨g,8,none⟩=some a8/\w.cell? ⟨g,9,none⟩=some a9/\w.cell? ⟨g,10,none⟩=some a10/\w.cell? ⟨g,11,none⟩=some a11/\w.cell? ⟨g,12,none⟩=some a12/\w.cell? ⟨g,13,none⟩=some a13/\w.cell? ⟨g,14,none⟩=some a14/\w.cell? ⟨g,15,none⟩=some a15/\w.cell? ⟨g,16,none⟩=some a16/\w.cell? ⟨g,17,none⟩=some a17/\w.cell? ⟨g,18,none⟩=some a18/\w.cell? ⟨g,19,none⟩=some a19:=
 ⟨d_ h rfl,d_ h rfl,d_ h rfl,d_ h rfl,d_ h rfl,d_ h rfl,d_ h rfl,d_ h rfl,d_ h rfl,d_ h rfl,d_ h rfl,d_ h rfl,d_ h rfl,d_ h rfl,d_ h rfl,d_ h rfl,d_ h rfl,d_ h rfl,d_ h rfl,d_ h rfl⟩
theorem PD.In.fine5{m:Nat}{d:PD m}(h:d.In)(hs:d.Small):d.Fine:=⟨hs,h.k,h.q,h.c,h.x,h.n,h.a⟩
end
end Go.Proofs.YtafoklilkdnepaaGreatDoor
