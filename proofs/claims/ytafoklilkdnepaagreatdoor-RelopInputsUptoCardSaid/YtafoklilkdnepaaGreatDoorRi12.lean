/- Part 12 of the texts of this proof, one behind the other. No condition beyond those that its theorems state. -/
import Derived.Test.YtafoklilkdnepaaGreatDoorRi11
set_option maxRecDepth 40000
set_option maxHeartbeats 25600000
namespace Go.Proofs.YtafoklilkdnepaaGreatDoor
section
open Go.RowKit
def nodeE (vs:List (Int × List CD × List (List VD))) (cs:List CD) (rv:Int × List (List VD)):Int × List CD × List (List VD) :=
 if errL (vs.map fun v=>(v.1,v.2.1))=0 then (if rv.1=0 then (if fitV cs rv.2=0 then (0,cs,sortR rv.2) else (fitV cs rv.2,[],[])) else (rv.1,[],[])) else (errL (vs.map fun v=>(v.1,v.2.1)),[],[])
def TabsU (base:Nat) (L:Option Addr) (w:World) (tl:List (SL × SL)) (vs:List (List CD × List (List VD))):Prop:=tl.length=vs.length/\∀ i (h1:i < tl.length) (h2:i < vs.length),∃ lo hi,TabU lo hi w tl[i].1 tl[i].2 vs[i].1 vs[i].2/\base<=lo/\hi<=w.heap.size/\∀ b∈fpo L,b < lo\/hi<=b
theorem TabsU.nil (base:Nat) (L:Option Addr) (w:World):TabsU base L w [] []:=⟨rfl,fun i h=>absurd h (by simp)⟩
theorem TabsU.touch0 {base:Nat} {L:Option Addr} {w w':World} {tl:List (SL × SL)} {vs:List (List CD × List (List VD))} (h:TabsU base L w tl vs) (ht:Touch [] w w'):TabsU base L w' tl vs:=⟨h.1,fun i a b=>by
 obtain ⟨lo,hi,h1,h2,h3,h4⟩:=h.2 i a b
 exact ⟨lo,hi,h1.touch ht (by simp),h2,Nat.le_trans h3 ht.size,h4⟩⟩
theorem TabsU.grow {base:Nat} {L L':Option Addr} {w w':World} {tl:List (SL × SL)} {vs:List (List CD × List (List VD))} (h:TabsU base L w tl vs) (ht:Touch (fpo L) w w') (hf:∀ b∈fpo L',b∈fpo L\/w.heap.size<=b):TabsU base L' w' tl vs:=⟨h.1,fun i a b=>by
 obtain ⟨lo,hi,h1,h2,h3,h4⟩:=h.2 i a b
 exact ⟨lo,hi,h1.touch ht h4,h2,Nat.le_trans h3 ht.size,fun b hb=>by
  rcases hf b hb with q | q
  ·exact h4 b q
  ·right;omega⟩⟩
theorem TabsU.snoc {base:Nat} {L:Option Addr} {w:World} {tl:List (SL × SL)} {vs:List (List CD × List (List VD))} (h:TabsU base L w tl vs) (s r:SL) (cs:List CD) (rows:List (List VD)) (lo hi:Nat) (h1:TabU lo hi w s r cs rows) (h2:base<=lo) (h3:hi<=w.heap.size) (h4:∀ b∈fpo L,b < lo\/hi<=b):TabsU base L w (tl++[(s,r)]) (vs++[(cs,rows)]):=by
 refine ⟨by rw [List.length_append,List.length_append,h.1];rfl,fun i a b => ?_⟩
 by_cases hi':i < tl.length
 ·have hi2:i < vs.length:=by rw [<- h.1];exact hi'
  rw [List.getElem_append_left hi',List.getElem_append_left hi2]
  exact h.2 i hi' hi2
 ·have hi'':i=tl.length:=by rw [List.length_append] at a;simp at a;omega
  subst hi''
  have e1:(tl++[(s,r)])[tl.length]=(s,r):=by simp
  have e2:(vs++[(cs,rows)])[tl.length]=(cs,rows):=by rw [List.getElem_append_right (by rw [h.1];exact Nat.le_refl _)];simp [h.1]
  rw [e1,e2]
  exact ⟨lo,hi,h1,h2,h3,h4⟩
def RowsC (w:World) (x:PC) (tabs:List (List CD × List (List VD))) (rv:Int × List (List VD)):Prop:=∀ w' (L:Option Addr) (lc:Nat) (tl:List (SL × SL)),Touch [] w w'->(tl.length=tabs.length/\∀ i (h1:i < tl.length) (h2:i < tabs.length),TabAt w' tl[i].1 tl[i].2 tabs[i].1 tabs[i].2)->RdK tbE w' L tl ->
 Calls Tryz.prog 65 #[x.val,.slice L tabs.length lc] w' (RowsPost rv w')
theorem info_t5:(Tryz.prog.info? 27).map (fun i=>(i.zero,i.size,i.bytes))=some (some (.agg #[.slice none 0 0,.slice none 0 0]),2,48):=by kernel_rfl
theorem eval_node (x:PC) (kk m:Nat) (hk0:x.kind=kk) (hk2:2<=kk) (hm:x.args.n=m) (hm2:m<=2) (I:Option Addr) (ic n:Nat) (w:World)
  (xs:List PC) (vs:List (Int × List CD × List (List VD))) (hxs:xs.length=m) (hvs:vs.length=m) (hX:RdK pcE w x.args.A xs) (hE:∀ i (h1:i < xs.length) (h2:i < vs.length),EvalC w I ic n xs[i] vs[i])
  (ver:Int) (cs:List CD) (hS:errL (vs.map fun v=>(v.1,v.2.1))=0->SchemaC w x (vs.map (·.2.1)) (ver,cs)) (rv:Int × List (List VD)) (hR:errL (vs.map fun v=>(v.1,v.2.1))=0->RowsC w x (vs.map (·.2)) rv)
  (hok:∀ c∈cs,c.Ok) (hvl:cs.length<=1000000) (hrk:RowsOk rv.2) (hrl:RowsLe rv.2) (hrn:rv.2.length<=1000000) :
  Calls Tryz.prog 30 #[x.val,.slice I n ic] w (EvPost (nodeE vs cs rv) w):=by
 obtain ⟨PO,hPO⟩:∃ PO,PO=EvPost (nodeE vs cs rv) w:=⟨_,rfl⟩
 rw [<- hPO]
 have HPO:=lh hPO
 have HSC:=lh hS
 have HRC:=lh hR
 obtain ⟨k0,k1,⟨A2,n2,c2'⟩,⟨⟨ck,cn,⟨cvk,cvn,cvt⟩,cop⟩,CA,cnn,cc⟩,⟨NA,nn,nc⟩,⟨EA,en,ec⟩,⟨OA,ol,oc⟩,⟨GA,gn,gc⟩,⟨BA,bn,bc⟩,count⟩:=x
 dsimp only at hk0 hm hX ⊢
 subst hk0 hm
 simp only [PC.val]
 obtain ⟨W,hW⟩:∃ W,W=(w.alloc (.cells #[.int .i64 (kk:Nat),.string k1,.slice A2 n2 c2',.int .i64 ck,.string cn,.int .i64 cvk,.int .i64 cvn,.string cvt,.string cop,.slice CA cnn cc,.slice NA nn nc,.slice EA en ec,.slice OA ol oc,.slice GA gn gc,.slice BA bn bc,.int .i64 count] 49)).alloc (.cells #[.slice none 0 0,.slice none 0 0] 27):=⟨_,rfl⟩
 have t0:Touch [] w W:=hW ▸ ((Touch.refl [] w).alloc _).alloc _
 have hb0:=hW ▸ ((Touch.refl [] (w.alloc (.cells #[.int .i64 (kk:Nat),.string k1,.slice A2 n2 c2',.int .i64 ck,.string cn,.int .i64 cvk,.int .i64 cvn,.string cvt,.string cop,.slice CA cnn cc,.slice NA nn nc,.slice EA en ec,.slice OA ol oc,.slice GA gn gc,.slice BA bn bc,.int .i64 count] 49))).alloc (.cells #[.slice none 0 0,.slice none 0 0] 27)).blk (heap_alloc_new w _) (by simp)
 have hbt:W.heap[w.heap.size+1]?=some (.cells #[.slice none 0 0,.slice none 0 0] 27 (0,0)):=by
  have:=heap_alloc_new (w.alloc (.cells #[.int .i64 (kk:Nat),.string k1,.slice A2 n2 c2',.int .i64 ck,.string cn,.int .i64 cvk,.int .i64 cvn,.string cvt,.string cop,.slice CA cnn cc,.slice NA nn nc,.slice EA en ec,.slice OA ol oc,.slice GA gn gc,.slice BA bn bc,.int .i64 count] 49)) (.cells #[.slice none 0 0,.slice none 0 0] 27)
  rw [World.size_alloc] at this
  exact hW ▸ this
 have hWs:W.heap.size=w.heap.size+2:=by rw [hW];simp
 have q2:W.cell? ⟨w.heap.size,2,none⟩=some (.slice A2 n2 c2'):=cell_blk hb0 rfl
 have hkc:((kk:Int)==1)=false:=by rw [beq_eq_false_iff_ne];omega
 have HW:=lh hW
 have HT0:=lh (And.intro t0 (And.intro hb0 (And.intro hbt hWs)))
 have HX:=lh (RdK.touch0 hX t0)
 have HEv:=lh hE
 have Hxs:=lh hxs
 have Hvs:=lh hvs
 have Hok:=lh (And.intro hok (And.intro hrk hrl))
 clear hb0 hbt hW t0 hX hE hxs hvs hPO hS hR hWs hok hrk hrl
 go_enter Tryz.func30,Tryz.ntmps30
 go_wp2_with fail
 rw [<- HW.out]
 go_loopw [6,23] (fun o i wr=>∃ (j:Nat) (L:Option Addr) (lc:Nat) (tl:List (SL × SL)),j<=n2/\i=.int .i64 j/\o=.slice L j lc/\Hid (∀ i (hi:i < j) (h2:i < vs.length),vs[i].1=0)/\Hid (TabsU W.heap.size L wr tl ((vs.map (·.2)).take j))/\Hid (OwnK 27 2 tbE wr L lc tl)/\Hid (∀ b∈fpo L,W.heap.size<=b)/\Hid (Touch [] W wr)) (fun _ i _=>n2-(intOf i).toNat)
 case atStart=>exact ⟨0,none,0,[],by omega,rfl,rfl,lh (fun i h=>absurd h (by omega)),lh (TabsU.nil _ _ _),lh (OwnK.nil _ _ _ _),lh (by simp [fpo]),lh (Touch.refl _ _)⟩
 case round =>
  obtain ⟨j,L,lc,tl,hj,rfl,rfl,HE,HS,HO,HF,HT⟩:=hrel
  have htlj:Hid (tl.length=j):=lh (by rw [HS.out.1,List.length_take,List.length_map,Hvs.out];omega)
  by_cases hlt:j < n2
  ·have hjx:j < xs.length:=by rw [Hxs.out];exact hlt
   have hjv:j < vs.length:=by rw [Hvs.out];exact hlt
   obtain ⟨ad,b1,o1,rfl,hadd,hc⟩:=RdK.cells (HX.out.touch0 HT.out) 16 pcE_length (by omega) j hjx
   have hty:=HEv.out j hjx hjv
   have hmv:(vs.map (·.2)).take (j+1)=(vs.map (·.2)).take j++[vs[j].2]:=by
    rw [List.take_succ_eq_append_getElem (by rw [List.length_map];exact hjv),List.getElem_map]
   have her:vs[j].1≠0->errL (vs.map fun v=>(v.1,v.2.1))=vs[j].1:=fun h0=>by
    have:=errL_at (l:=vs.map fun v=>(v.1,v.2.1)) (j:=j) (by rw [List.length_map];exact hjv) (fun i hi=>by rw [List.getElem_map];exact HE.out i hi (by omega)) (by rw [List.getElem_map];exact h0)
    rw [this,List.getElem_map]
   obtain ⟨y,hy⟩:∃ y,y=xs[j]:=⟨_,rfl⟩
   obtain ⟨u,hu⟩:∃ u,u=vs[j]:=⟨_,rfl⟩
   rw [<- hy] at hc hty
   rw [<- hu] at hty hmv her
   obtain ⟨y0,y1,⟨yA2,yn2,yc2⟩,⟨⟨yck,ycn,⟨ycvk,ycvn,ycvt⟩,ycop⟩,yCA,ycnn,ycc⟩,⟨yNA,ynn,ync⟩,⟨yEA,yen,yec⟩,⟨yOA,yol,yoc⟩,⟨yGA,ygn,ygc⟩,⟨yBA,ybn,ybc⟩,ycount⟩:=y
   have e0:=hc 0 _ rfl;have e1:=hc 1 _ rfl;have e2:=hc 2 _ rfl;have e3:=hc 3 _ rfl;have e4:=hc 4 _ rfl;have e5:=hc 5 _ rfl;have e6:=hc 6 _ rfl;have e7:=hc 7 _ rfl
   have e8:=hc 8 _ rfl;have e9:=hc 9 _ rfl;have e10:=hc 10 _ rfl;have e11:=hc 11 _ rfl;have e12:=hc 12 _ rfl;have e13:=hc 13 _ rfl;have e14:=hc 14 _ rfl;have e15:=hc 15 _ rfl
   rw [Nat.add_zero] at e0
   dsimp only at e0 e1 e2 e3 e4 e5 e6 e7 e8 e9 e10 e11 e12 e13 e14 e15
   have ta:=(Touch.refl [] wr).alloc (.cells #[.int .i64 y0,.string y1,.slice yA2 yn2 yc2,.int .i64 yck,.string ycn,.int .i64 ycvk,.int .i64 ycvn,.string ycvt,.string ycop,.slice yCA ycnn ycc,.slice yNA ynn ync,.slice yEA yen yec,.slice yOA yol yoc,.slice yGA ygn ygc,.slice yBA ybn ybc,.int .i64 ycount] 49)
   have hty2:=hty _ ((HT0.out.1.trans0 HT.out).trans0 ta)
   simp only [PC.val] at hty2
   have Hty:=lh hty2
   have Hmv:=lh hmv
   have HTa:=lh ta
   have hjn:(j:Int) < (n2:Int):=by omega
   obtain ⟨uer,ucs,urows⟩:=u
   dsimp only at her hmv Hmv Hty
   have Hu:=lh hu
   clear hc hty hty2 hy hu hmv ta
   by_cases hz:uer=0
   ·as_aux_lemma =>
    subst hz
    clear her
    go_wp2_with fail
    refine Hty.out.mono ?_
    rintro e w1 ⟨⟨sA,sn,sc⟩,⟨rA,rn,rc⟩,rfl,hnt,t1⟩
    have hUT:TabU (wr.heap.size+1) w1.heap.size w1 ⟨sA,sn,sc⟩ ⟨rA,rn,rc⟩ ucs urows:=by
     have:=TabU.of hnt
     rw [World.size_alloc] at this
     exact this
    have T1:=HTa.out.trans0 t1
    have hs1:=HTa.out.size
    rw [World.size_alloc] at hs1
    have HY:=lh (And.intro hUT t1.size)
    have HT1:=lh T1
    have tb:=(Touch.refl [] w1).alloc (.cells #[.slice sA sn sc,.slice rA rn rc] 27)
    have HTb:=lh (And.intro tb (heap_alloc_new w1 (.cells #[.slice sA sn sc,.slice rA rn rc] 27)))
    clear hnt t1 T1 hUT hs1 tb
    go_wp2_with (at_builtin;refine stop ?_)
    refine go ?_
    have tc:=HTb.out.1.alloc (.cells #[.slice sA sn sc,.slice rA rn rc] 27)
    have hrd1:=RdK.one (enc:=tbE) (w1.alloc (.cells #[.slice sA sn sc,.slice rA rn rc] 27)) 27 (⟨sA,sn,sc⟩,⟨rA,rn,rc⟩) #[.slice sA sn sc,.slice rA rn rc] rfl
    rw [World.size_alloc] at hrd1
    refine wpList_appK (enc:=tbE) rfl (.tmp 37) (.tmp 39) 115 rfl 27 _ 2 48 info_t5 Tryz.underlying115 rfl (by omega) tbE_length tbE_one L j lc tl htlj.out rfl (HO.out.touch0 (HT1.out.trans0 tc))
     (some ⟨w1.heap.size+1,0,none⟩) 1 1 [(⟨sA,sn,sc⟩,⟨rA,rn,rc⟩)] rfl rfl hrd1 (by omega) (by omega) ?_
    intro L' lc' w' hown ht hf
    have HN2:=lh (And.intro hown (And.intro ht (And.intro hf tc)))
    clear hown ht hf tc hrd1
    go_wp2_with fail
    go_roundw
    case rel =>
     obtain ⟨hown,ht,hf,tc⟩:=HN2.out
     obtain ⟨hU,hs1⟩:=HY.out
     have hLlt:=HO.out.lt
     have hsz:=HT.out.size
     have hs2:=HT1.out.size
     rw [World.size_alloc] at hs1
     have hU2:TabsU W.heap.size L w1 (tl++[(⟨sA,sn,sc⟩,⟨rA,rn,rc⟩)]) ((vs.map (·.2)).take (j+1)):=by
      rw [Hmv.out]
      exact (HS.out.touch0 HT1.out).snoc _ _ _ _ _ _ hU (by omega) (Nat.le_refl _) (fun b hb=>by have:=hLlt b hb;omega)
     refine ⟨j+1,L',lc',_,by omega,by go_num,rfl,lh (fun i hi h2 => ?_),lh ((hU2.touch0 tc).grow ht (fun b hb => ?_)),lh hown,lh (fun b hb => ?_),lh (((HT.out.trans0 HT1.out).trans0 tc).trans ht (fun b hb=>.inr (HF.out b hb)))⟩
     ·by_cases hij:i=j
      ·subst hij;rw [<- Hu.out]
      ·exact HE.out i (by omega) h2
     ·rcases hf b hb with q | q
      ·exact .inl q
      ·exact .inr (by rw [q];exact Nat.le_refl _)
     ·rcases hf b hb with q | q
      ·exact HF.out b q
      ·rw [World.size_alloc,World.size_alloc] at q;omega
    case measure=>simp [intOf];omega
   ·as_aux_lemma =>
    have HVe:=lh (show nodeE vs cs rv=(uer,[],[]) by
     unfold nodeE;rw [her hz,if_neg hz])
    have hq:(uer==0)=false:=by rw [beq_eq_false_iff_ne];exact hz
    have hq':(uer != 0)=true:=by rw [bne,hq];rfl
    clear her
    go_wp2_with fail
    refine Hty.out.mono ?_
    rintro e w1 ⟨⟨sA,sn,sc⟩,⟨rA,rn,rc⟩,rfl,hnt,t1⟩
    have ta2:=(Touch.refl [] w1).alloc (.cells #[.slice sA sn sc,.slice rA rn rc] 27)
    have hr2:=ta2.blk (t1.blk (HTa.out.blk (HT.out.blk HT0.out.2.2.1 (by simp)) (by simp)) (by simp)) (by simp)
    obtain ⟨z0,z1,y0,y1⟩:=blk2 hr2
    have HT1:=lh (And.intro ((((HT0.out.1.trans0 HT.out).trans0 HTa.out).trans0 t1).trans0 ta2) hr2)
    clear hnt t1 hr2 ta2
    go_wp2_with fail
    refine bodyPost_ret (results_cell_two rfl _ _ (w.heap.size+1) _ _ _ _ rfl (set2 HT1.out.2 rfl _ _) Tryz.underlying27 rfl rfl) rfl ?_
    rw [HPO.out,HVe.out]
    exact EvPost.err uer (HT1.out.1.trans (touch2 _ _ _ _) (fun b hb=>.inr (by simp at hb;omega)))
  ·obtain rfl:j=n2:=by omega
   have hz:errL (vs.map fun v=>(v.1,v.2.1))=0:=errL_zero fun u hu=>by
    obtain ⟨v,hv,rfl⟩:=List.mem_map.1 hu
    obtain ⟨i,hi,rfl⟩:=List.mem_iff_getElem.1 hv
    exact HE.out i (by rw [<- Hvs.out];exact hi) hi
   have HVe:=lh (show nodeE vs cs rv=if rv.1=0 then (if fitV cs rv.2=0 then (0,cs,sortR rv.2) else (fitV cs rv.2,[],[])) else (rv.1,[],[]) by unfold nodeE;rw [if_pos hz])
   have hlen:(vs.map (·.2)).length=j:=by rw [List.length_map];exact Hvs.out
   have hlen2:(vs.map (·.2.1)).length=j:=by rw [List.length_map];exact Hvs.out
   have HS2:Hid (TabsU W.heap.size L wr tl (vs.map (·.2))):=lh (by
    have:=HS.out
    rwa [<- hlen,List.take_length] at this)
   obtain ⟨W2,hW2⟩:∃ W2,W2=wr:=⟨_,rfl⟩
   subst hW2
   have q0:=HT.out.cell (blk16 HT0.out.2.1).1 (by simp)
   have HLN:=lh (And.intro hz (And.intro hlen hlen2))
   have hlw:=lh (HO.out.lt)
   clear HE HS HF hlt hz hlen hlen2
   go_wp2_with fail
   clear q0
   go_loopw [13,56] (fun o i w4=>∃ (k:Nat) (Ls:Option Addr) (lcs:Nat) (sl:List SL),k<=j/\i=.int .i64 k/\o=.slice Ls k lcs/\Hid (SlcsAt w.heap.size w4 sl ((vs.map (·.2.1)).take k))/\Hid (OwnK 24 1 slE w4 Ls lcs sl)/\Hid (∀ b∈fpo Ls,W2.heap.size<=b)/\Hid (∀ s∈sl,∀ b∈fpo s.A,b < W2.heap.size)/\Hid (Touch [] W2 w4)) (fun _ i _=>j-(intOf i).toNat)
   case atStart=>exact ⟨0,none,0,[],by omega,rfl,rfl,lh (SlcsAt.nil _ _),lh (OwnK.nil _ _ _ _),lh (by simp [fpo]),lh (by simp),lh (Touch.refl _ _)⟩
   case round =>
    obtain ⟨k,Ls,lcs,sl,hk,rfl,rfl,HSl,HOs,HFs,HBs,HTs⟩:=hrel
    have hslk:Hid (sl.length=k):=lh (by rw [HSl.out.1,List.length_take,HLN.out.2.2];omega)
    by_cases hlt:k < j
    ·as_aux_lemma =>
     have hkt:k < tl.length:=by rw [htlj.out];exact hlt
     have hkv:k < (vs.map (·.2)).length:=by rw [HLN.out.2.1];exact hlt
     have hkv1:k < vs.length:=by rw [Hvs.out];exact hlt
     obtain ⟨ad,b1,o1,rfl,hadd,hc⟩:=RdK.cells (RdK.touch0 HO.out.rd HTs.out) 2 tbE_length (by omega) k hkt
     obtain ⟨lo,hi,hU,hlo,hhi,_⟩:=HS2.out.2 k hkt hkv
     rw [List.getElem_map] at hU
     have hmv:(vs.map (·.2.1)).take (k+1)=(vs.map (·.2.1)).take k++[vs[k].2.1]:=by
      rw [List.take_succ_eq_append_getElem (by rw [List.length_map];exact hkv1),List.getElem_map]
     obtain ⟨t,ht⟩:∃ t,t=tl[k]:=⟨_,rfl⟩
     obtain ⟨u,hu⟩:∃ u,u=vs[k]:=⟨_,rfl⟩
     rw [<- ht] at hc hU
     rw [<- hu] at hU hmv
     obtain ⟨⟨sA,sn,sc⟩,⟨rA,rn,rc⟩⟩:=t
     obtain ⟨uer,ucs,urows⟩:=u
     have e0:=hc 0 _ rfl
     have e1:=hc 1 _ rfl
     rw [Nat.add_zero] at e0
     dsimp only at e0 e1 hmv hU
     have HU:=lh (And.intro hU (And.intro hlo hhi))
     have Hmv:=lh hmv
     have hkn:(k:Int) < (j:Int):=by omega
     clear hc hU hlo hhi hmv ht hu
     go_wp2_with (at_builtin;refine stop ?_)
     refine go ?_
     have tc:=((Touch.refl [] wr).alloc (.cells #[.slice sA sn sc,.slice rA rn rc] 27)).alloc (.cells #[.slice sA sn sc] 24)
     have hrd1:=RdK.one (enc:=slE) (wr.alloc (.cells #[.slice sA sn sc,.slice rA rn rc] 27)) 24 ⟨sA,sn,sc⟩ #[.slice sA sn sc] rfl
     rw [World.size_alloc] at hrd1
     refine wpList_appK (enc:=slE) rfl (.tmp 60) (.tmp 63) 119 rfl 24 _ 1 24 info_s5 Tryz.underlying119 rfl (by omega) slE_length slE_one Ls k lcs sl hslk.out rfl (HOs.out.touch0 tc)
      (some ⟨wr.heap.size+1,0,none⟩) 1 1 [⟨sA,sn,sc⟩] rfl rfl hrd1 (by omega) (by omega) ?_
     intro L' lc' w' hown ht hf
     have HN2:=lh (And.intro hown (And.intro ht (And.intro hf tc)))
     clear hown ht hf tc hrd1
     go_wp2_with fail
     go_roundw
     case rel =>
      obtain ⟨hown,ht,hf,tc⟩:=HN2.out
      obtain ⟨hU,hlo,hhi⟩:=HU.out
      have hs0:=HT0.out.1.size
      have hsn:=((HSl.out.touch0 tc).snoc ⟨sA,sn,sc⟩ ucs hU.n hU.le (hU.cols.touch0 (HTs.out.trans0 tc)) (fun b hb=>⟨by have:=hU.cf b hb;omega,by have:=(hU.cf b hb).2;have:=(HTs.out.trans0 tc).size;omega⟩))
      have hall:∀ s∈sl++[(⟨sA,sn,sc⟩:SL)],∀ b∈fpo s.A,b < W2.heap.size:=fun s hs b hb=>by
       rcases List.mem_append.1 hs with q | q
       ·exact HBs.out s q b hb
       ·simp only [List.mem_singleton] at q;subst q;have:=(hU.cf b hb).2;omega
      refine ⟨k+1,L',lc',_,by omega,by go_num,rfl,lh (by rw [Hmv.out];exact hsn.touch ht (fun s hs b hb hm=>by have:=hall s hs b hb;have:=HFs.out b hm;omega)),lh hown,lh (fun b hb => ?_),lh hall,lh ((HTs.out.trans0 tc).trans ht (fun b hb=>.inr (HFs.out b hb)))⟩
      rcases hf b hb with q | q
      ·exact HFs.out b q
      ·rw [World.size_alloc,World.size_alloc] at q;have:=HTs.out.size;omega
     case measure=>simp [intOf];omega
    ·as_aux_lemma =>
     obtain rfl:k=j:=by omega
     have hsl:SlcsAt w.heap.size wr sl (vs.map (·.2.1)):=by
      have:=HSl.out
      rwa [<- HLN.out.2.2,List.take_length] at this
     have hTw:=(HT0.out.1.trans0 HT.out).trans0 HTs.out
     have hsc:=HSC.out HLN.out.1 wr w.heap.size Ls lcs sl hTw hTw.size hsl HOs.out.rd
     rw [HLN.out.2.2] at hsc
     simp only [PC.val] at hsc
     have Hsc:=lh hsc
     have HB:=lh ((HT.out.trans0 HTs.out).blk HT0.out.2.1 (by simp))
     have HBr:=lh ((HT.out.trans0 HTs.out).blk HT0.out.2.2.1 (by simp))
     have HTw:=lh hTw
     have HRW:=lh fun w' (t:Touch [] wr w')=>HRC.out HLN.out.1 w' L lc tl (hTw.trans0 t) ⟨HS2.out.1,fun i a b=>by
      obtain ⟨lo,hi,hU,_⟩:=HS2.out.2 i a b
      exact hU.tab.touch0 (HTs.out.trans0 t)⟩ (RdK.touch0 HO.out.rd (HTs.out.trans0 t))
     rw [HLN.out.2.1] at HRW
     simp only [PC.val] at HRW
     obtain ⟨p0,p1,p2,p3,p4,p5,p6,p7,p8,p9,p10,p11,p12,p13,p14,p15⟩:=blk16 HB.out
     clear hsc hTw hsl hlt hslk HSl HOs HFs HBs htlj HS2 HO
     go_wp2_with fail
     refine Hsc.out.mono ?_
     rintro e w5 ⟨⟨sA,sn,sc⟩,rfl,s1,s2,s3,s4,t5⟩
     have HY:=lh (And.intro s1 (And.intro s2 (And.intro s3 t5)))
     have hrw:=HRW.out w5 t5
     have Hrw:=lh hrw
     have HB5:=lh (t5.blk HB.out (by simp))
     have HBr5:=lh (t5.blk HBr.out (by simp))
     clear s1 s2 s3 s4 t5 hrw p0 p1 p2 p3 p4 p5 p6 p7 p8 p9 p10 p11 p12 p13 p14 p15 Hsc
     obtain ⟨p0,p1,p2,p3,p4,p5,p6,p7,p8,p9,p10,p11,p12,p13,p14,p15⟩:=blk16 HB5.out
     go_wp2_with fail
     refine Hrw.out.mono ?_
     rintro e w6 ⟨⟨rA,rn,rc⟩,rfl,r1,r2,t6⟩
     have HZ:=lh (And.intro r1 (And.intro r2 t6))
     have HBr6:=lh (t6.blk HBr5.out (by simp))
     obtain ⟨rer,rrows⟩:=rv
     dsimp only at hrn HVe HZ
     clear r1 r2 t6 Hrw p0 p1 p2 p3 p4 p5 p6 p7 p8 p9 p10 p11 p12 p13 p14 p15
     obtain ⟨z0,z1,y0,y1⟩:=blk2 HBr6.out
     by_cases hr0:rer=0
     ·as_aux_lemma =>
      have HVf:=lh (show nodeE vs cs (rer,rrows)=if fitV cs rrows=0 then (0,cs,sortR rrows) else (fitV cs rrows,[],[]) by rw [HVe.out,if_pos hr0])
      subst hr0
      clear HVe
      by_cases hf0:fitV cs rrows=0
      ·as_aux_lemma =>
       have HVg:=lh (show nodeE vs cs (0,rrows)=(0,cs,sortR rrows) by rw [HVf.out,if_pos hf0])
       have Hmk:=lh (make_yes sA sc sn cs HY.out.1.symm HY.out.2.1 Hok.out.1 rA rc rn rrows HZ.out.1.symm Hok.out.2.1 Hok.out.2.2 w6 (HY.out.2.2.1.touch0 HZ.out.2.2) HZ.out.2.1 (by have:=HY.out.1;omega) (by have:=HZ.out.1;omega) hf0)
       clear HVf hf0
       go_wp2_with fail
       refine Hmk.out.mono ?_
       rintro e w7 ⟨⟨mA,mn,mc⟩,⟨gA,gn',gc'⟩,out,rfl,hnt,hso,t7⟩
       have HM:=lh (And.intro hnt (And.intro hso (And.intro t7 (t7.blk HBr6.out (by simp)))))
       clear hnt hso t7 Hmk z0 z1 y0 y1
       obtain ⟨z0,z1,y0,y1⟩:=blk2 HM.out.2.2.2
       go_wp2_with fail
       obtain ⟨hnt,hso,t7,hr7⟩:=HM.out
       have tq:=touch2 w7 (w.heap.size+1) (.slice mA mn mc) (.slice gA gn' gc')
       have hT6:=(HTw.out.trans0 HY.out.2.2.2).trans0 HZ.out.2.2
       have hs6:=hT6.size
       have hWs:=HT0.out.2.2.2
       have hs7:w.heap.size+2<=w6.heap.size:=by
        have h1:=(((HT.out.trans0 HTs.out).trans0 HY.out.2.2.2).trans0 HZ.out.2.2).size
        omega
       refine bodyPost_ret (results_cell_two rfl _ _ (w.heap.size+1) _ _ _ _ rfl (set2 hr7 rfl _ _) Tryz.underlying27 rfl rfl) rfl ?_
       rw [HPO.out,HVg.out,<- sortR_of hso]
       refine ⟨⟨mA,mn,mc⟩,⟨gA,gn',gc'⟩,rfl, ?_,(hT6.trans0 t7).trans tq (fun b hb=>.inr (by simp at hb;omega))⟩
       refine ⟨hnt.n,hnt.le,RdK.touch hnt.cols tq (fun b hb hm => ?_),fun b hb=>⟨?_, ?_⟩,hnt.m, ?_,fun b hb => ?_,hnt.apart⟩
       ·have:=(hnt.cf b hb).1;simp at hm;omega
       ·have:=(hnt.cf b hb).1;omega
       ·have:=(hnt.cf b hb).2;have:=tq.size;omega
       ·exact (hnt.rws.touch tq (fun b hb=>by simp at hb;omega) (fun b hb=>hnt.rf b hb)).base (by omega)
       ·have:=hnt.rf b hb;omega
      ·as_aux_lemma =>
       have HVg:=lh (show nodeE vs cs (0,rrows)=(fitV cs rrows,[],[]) by rw [HVf.out,if_neg hf0])
       have hmk:=make_no sA sc sn cs HY.out.1.symm Hok.out.1 rA rc rn rrows HZ.out.1.symm Hok.out.2.1 w6 (HY.out.2.2.1.touch0 HZ.out.2.2) HZ.out.2.1 (by have:=HY.out.1;omega) (by have:=HZ.out.1;omega) hf0
       obtain ⟨K,hK⟩:∃ K,K=fitV cs rrows:=⟨_,rfl⟩
       rw [<- hK] at hmk HVg
       have Hmk:=lh hmk
       clear HVf hf0 hK hmk
       go_wp2_with fail
       refine Hmk.out.mono ?_
       rintro e w7 ⟨rfl,t7⟩
       have HM:=lh (And.intro t7 (t7.blk HBr6.out (by simp)))
       clear t7 Hmk z0 z1 y0 y1
       obtain ⟨z0,z1,y0,y1⟩:=blk2 HM.out.2
       go_wp2_with fail
       have hT6:=(HTw.out.trans0 HY.out.2.2.2).trans0 HZ.out.2.2
       refine bodyPost_ret (results_cell_two rfl _ _ (w.heap.size+1) _ _ _ _ rfl (set2 HM.out.2 rfl _ _) Tryz.underlying27 rfl rfl) rfl ?_
       rw [HPO.out,HVg.out]
       exact EvPost.err K ((hT6.trans0 HM.out.1).trans (touch2 _ _ _ _) (fun b hb=>.inr (by simp at hb;omega)))
     ·as_aux_lemma =>
      have HVf:=lh (show nodeE vs cs (rer,rrows)=(rer,[],[]) by rw [HVe.out,if_neg hr0])
      have hq:(rer==0)=false:=by rw [beq_eq_false_iff_ne];exact hr0
      have hq':(rer != 0)=true:=by rw [bne,hq];rfl
      clear HVe
      go_wp2_with fail
      have hT6:=(HTw.out.trans0 HY.out.2.2.2).trans0 HZ.out.2.2
      refine bodyPost_ret (results_cell_two rfl _ _ (w.heap.size+1) _ _ _ _ rfl (set2 HBr6.out rfl _ _) Tryz.underlying27 rfl rfl) rfl ?_
      rw [HPO.out,HVf.out]
      exact EvPost.err rer (hT6.trans (touch2 _ _ _ _) (fun b hb=>.inr (by simp at hb;omega)))
end
section
open Go.RowKit
def topV (v:Int × List CD) (ev:Int × List CD × List (List VD)):Int × List CD × List (List VD):=if v.1=0 then ev else (v.1,[],[])
theorem evalTop (x:PC) (k:Nat) (hk:k<=64) (I:Option Addr) (ic n:Nat) (v:Int × List CD) (ev:Int × List CD × List (List VD)) (w:World) (hs:SizeC w x k) (ht:TypedC w I ic n x 1 v) (he:v.1=0->EvalC w I ic n x ev) :
  Calls Tryz.prog 12 #[x.val,.slice I n ic] w (EvPost (topV v ev) w):=by
 obtain ⟨PO,hPO⟩:∃ PO,PO=EvPost (topV v ev) w:=⟨_,rfl⟩
 rw [<- hPO]
 have HPO:=lh hPO
 obtain ⟨k0,k1,⟨A2,n2,c2'⟩,⟨⟨ck,cn,⟨cvk,cvn,cvt⟩,cop⟩,CA,cnn,cc⟩,⟨NA,nn,nc⟩,⟨EA,en,ec⟩,⟨OA,ol,oc⟩,⟨GA,gn,gc⟩,⟨BA,bn,bc⟩,count⟩:=x
 have Hty:=lh fun w' (t:Touch [] w w')=>type_any _ k hk I ic n v w' (fun w'' t2=>hs w'' (t.trans0 t2)) (fun w'' t2=>ht w'' (t.trans0 t2))
 have Hev:=lh fun (h0:v.1=0) w' (t:Touch [] w w')=>he h0 w' t
 simp only [PC.val] at *
 obtain ⟨W,hW⟩:∃ W,W=(w.alloc (.cells #[.int .i64 k0,.string k1,.slice A2 n2 c2',.int .i64 ck,.string cn,.int .i64 cvk,.int .i64 cvn,.string cvt,.string cop,.slice CA cnn cc,.slice NA nn nc,.slice EA en ec,.slice OA ol oc,.slice GA gn gc,.slice BA bn bc,.int .i64 count] 49)).alloc (.cells #[.slice none 0 0,.slice none 0 0] 27):=⟨_,rfl⟩
 have t0:Touch [] w W:=hW ▸ ((Touch.refl [] w).alloc _).alloc _
 have hb0:=hW ▸ ((Touch.refl [] (w.alloc (.cells #[.int .i64 k0,.string k1,.slice A2 n2 c2',.int .i64 ck,.string cn,.int .i64 cvk,.int .i64 cvn,.string cvt,.string cop,.slice CA cnn cc,.slice NA nn nc,.slice EA en ec,.slice OA ol oc,.slice GA gn gc,.slice BA bn bc,.int .i64 count] 49))).alloc (.cells #[.slice none 0 0,.slice none 0 0] 27)).blk (heap_alloc_new w _) (by simp)
 have hbt:W.heap[w.heap.size+1]?=some (.cells #[.slice none 0 0,.slice none 0 0] 27 (0,0)):=by
  have:=heap_alloc_new (w.alloc (.cells #[.int .i64 k0,.string k1,.slice A2 n2 c2',.int .i64 ck,.string cn,.int .i64 cvk,.int .i64 cvn,.string cvt,.string cop,.slice CA cnn cc,.slice NA nn nc,.slice EA en ec,.slice OA ol oc,.slice GA gn gc,.slice BA bn bc,.int .i64 count] 49)) (.cells #[.slice none 0 0,.slice none 0 0] 27)
  rw [World.size_alloc] at this
  exact hW ▸ this
 have hWs:W.heap.size=w.heap.size+2:=by rw [hW];simp
 have HW:=lh hW
 have HT0:=lh (And.intro t0 (And.intro hb0 (And.intro hbt hWs)))
 clear hW t0 hb0 hbt hWs hPO hs ht he
 go_enter Tryz.func12,Tryz.ntmps12
 go_wp2_with fail
 rw [<- HW.out]
 refine (Hty.out _ HT0.out.1).mono ?_
 rintro e w1 ⟨⟨sA,sn,sc⟩,rfl,_,_,_,_,t1⟩
 have HT1:=lh (And.intro t1 (And.intro (t1.blk HT0.out.2.1 (by simp)) (t1.blk HT0.out.2.2.1 (by simp))))
 clear t1
 obtain ⟨ver,vcs⟩:=v
 by_cases hz:ver=0
 ·have HV:=lh (show topV (ver,vcs) ev=ev by unfold topV;rw [if_pos hz])
  have Hev1:=lh (Hev.out hz w1 (HT0.out.1.trans0 HT1.out.1))
  subst hz
  obtain ⟨p0,p1,p2,p3,p4,p5,p6,p7,p8,p9,p10,p11,p12,p13,p14,p15⟩:=blk16 HT1.out.2.1
  go_wp2_with fail
  refine Hev1.out.mono ?_
  rintro e w2 ⟨⟨mA,mn,mc⟩,⟨gA,gn',gc'⟩,rfl,hnt,t2⟩
  have HM:=lh (And.intro hnt (And.intro t2 (t2.blk HT1.out.2.2 (by simp))))
  clear hnt t2 p0 p1 p2 p3 p4 p5 p6 p7 p8 p9 p10 p11 p12 p13 p14 p15
  obtain ⟨z0,z1,y0,y1⟩:=blk2 HM.out.2.2
  go_wp2_with fail
  obtain ⟨hnt,t2,hr2⟩:=HM.out
  have tq:=touch2 w2 (w.heap.size+1) (.slice mA mn mc) (.slice gA gn' gc')
  have hs7:=HT1.out.1.size
  have hWs:=HT0.out.2.2.2
  refine bodyPost_ret (results_cell_two rfl _ _ (w.heap.size+1) _ _ _ _ rfl (set2 hr2 rfl _ _) Tryz.underlying27 rfl rfl) rfl ?_
  rw [HPO.out,HV.out]
  refine ⟨⟨mA,mn,mc⟩,⟨gA,gn',gc'⟩,rfl, ?_,((HT0.out.1.trans0 HT1.out.1).trans0 t2).trans tq (fun b hb=>.inr (by simp at hb;omega))⟩
  refine ⟨hnt.n,hnt.le,RdK.touch hnt.cols tq (fun b hb hm => ?_),fun b hb=>⟨?_, ?_⟩,hnt.m, ?_,fun b hb => ?_,hnt.apart⟩
  ·have:=(hnt.cf b hb).1;simp at hm;omega
  ·have:=(hnt.cf b hb).1;omega
  ·have:=(hnt.cf b hb).2;have:=tq.size;omega
  ·exact (hnt.rws.touch tq (fun b hb=>by simp at hb;omega) (fun b hb=>hnt.rf b hb)).base (by omega)
  ·have:=hnt.rf b hb;omega
 ·have HV:=lh (show topV (ver,vcs) ev=(ver,[],[]) by unfold topV;rw [if_neg hz])
  have hq:(ver==0)=false:=by rw [beq_eq_false_iff_ne];exact hz
  have hq':(ver != 0)=true:=by rw [bne,hq];rfl
  obtain ⟨z0,z1,y0,y1⟩:=blk2 HT1.out.2.2
  go_wp2_with fail
  refine bodyPost_ret (results_cell_two rfl _ _ (w.heap.size+1) _ _ _ _ rfl (set2 HT1.out.2.2 rfl _ _) Tryz.underlying27 rfl rfl) rfl ?_
  rw [HPO.out,HV.out]
  exact EvPost.err ver ((HT0.out.1.trans0 HT1.out.1).trans (touch2 _ _ _ _) (fun b hb=>.inr (by simp at hb;omega)))
end
section
open Go.RowKit
theorem TyPost.base {b b':Nat} {v:Int × List CD} {w:World} {e:Ending} {w':World} (h:TyPost b v w e w') (hb:b'<=b):TyPost b' v w e w':=by
 obtain ⟨s,h1,h2,h3,h4,h5,h6⟩:=h
 exact ⟨s,h1,h2,h3,h4,fun x hx=>⟨Nat.le_trans hb (h5 x hx).1,(h5 x hx).2⟩,h6⟩
theorem SizeC.touch0 {w w':World} {x:PC} {k:Nat} (h:SizeC w x k) (ht:Touch [] w w'):SizeC w' x k:=fun w'' t=>h w'' (ht.trans0 t)
theorem TypedC.touch0 {w w':World} {I:Option Addr} {ic n:Nat} {x:PC} {d:Int} {v:Int × List CD} (h:TypedC w I ic n x d v) (ht:Touch [] w w'):TypedC w' I ic n x d v:=fun w'' t=>h w'' (ht.trans0 t)
theorem sizeC_leaf (x:PC) (h0:x.args.n=0) (w:World):SizeC w x 1:=fun w' _=>by
 have:=size_node x [] [] w' (by rw [h0];rfl) (by rw [h0];rfl) (RdK.nil _ _ _) (fun i h=>absurd h (by simp)) (by simp) (by omega)
 exact this
theorem sizeC_node (x:PC) (xs:List PC) (ks:List Nat) (w:World) (hxs:xs.length=x.args.n) (hks:ks.length=x.args.n) (hX:RdK pcE w x.args.A xs) (hT:∀ i (h1:i < xs.length) (h2:i < ks.length),SizeC w xs[i] ks[i]) (hsum:ks.sum<=1000000) (hnn:x.args.n<=1000000):SizeC w x (1+ks.sum) :=
 fun w' t=>size_node x xs ks w' hxs hks (RdK.touch0 hX t) (fun i a b=>(hT i a b).touch0 t) hsum hnn
theorem typedC_scan (x:PC) (hk0:x.kind=1) (ha0:x.args.n=0) (d:Int) (hd:d<=16) (I:Option Addr) (ic n:Nat) (l:List SrcD) (hn:l.length=n) (hl:n<=1000000) (hok:∀ d∈l,d.Ok) (w:World) (hG:NeedsAt w) (h:SrcsAt w I l):TypedC w I ic n x d (scanV l x.name) :=
 fun w' t=>typed_scan x hk0 ha0 d hd I ic n l hn hl hok w' (hG.touch0 t) (h.touch0 t)
theorem typedC_node (x:PC) (kk m:Nat) (hk0:x.kind=kk) (hk2:2<=kk) (hk9:kk<=9) (hm:x.args.n=m) (hnd:needV kk=m) (d:Int) (hd0:0<=d) (hd:d<=16) (I:Option Addr) (ic n:Nat) (w:World) (hG:NeedsAt w)
  (xs:List PC) (vs:List (Int × List CD)) (hxs:xs.length=m) (hvs:vs.length=m) (hX:RdK pcE w x.args.A xs) (hT:∀ i (h1:i < xs.length) (h2:i < vs.length),TypedC w I ic n xs[i] (d+1) vs[i])
  (v:Int × List CD) (hv:errL vs=0->SchemaC w x (vs.map (·.2)) v) (hok:∀ c∈v.2,c.Ok) (hvl:v.2.length<=1000000):TypedC w I ic n x d (nodeV vs v) :=
 fun w' t=>typed_node x kk m hk0 hk2 hk9 hm hnd d hd0 hd I ic n w' (hG.touch0 t) xs vs hxs hvs (RdK.touch0 hX t) (fun i a b=>(hT i a b).touch0 t) v (fun h0 w'' base L lc sl t2=>hv h0 w'' base L lc sl (t.trans0 t2)) hok hvl
theorem evalC_scan (x:PC) (hk0:x.kind=1) (ha0:x.args.n=0) (I:Option Addr) (ic n:Nat) (l:List SrcD) (hn:l.length=n) (hl:n<=1000000) (k:Nat) (hkl:k < l.length) (hs:srcI l x.name=some k) (hcl:l[k].cs.length<=1000000) (hrl:l[k].rows.length<=1000000) (hrr:RowsLe l[k].rows) (w:World) (h:SrcsAt w I l):EvalC w I ic n x (0,l[k].cs,l[k].rows) :=
 fun w' t=>eval_scan x hk0 ha0 I ic n l hn hl k hkl hs hcl hrl hrr w' (h.touch0 t)
theorem evalC_node (x:PC) (kk m:Nat) (hk0:x.kind=kk) (hk2:2<=kk) (hm:x.args.n=m) (hm2:m<=2) (I:Option Addr) (ic n:Nat) (w:World)
  (xs:List PC) (vs:List (Int × List CD × List (List VD))) (hxs:xs.length=m) (hvs:vs.length=m) (hX:RdK pcE w x.args.A xs) (hE:∀ i (h1:i < xs.length) (h2:i < vs.length),EvalC w I ic n xs[i] vs[i])
  (ver:Int) (cs:List CD) (hS:errL (vs.map fun v=>(v.1,v.2.1))=0->SchemaC w x (vs.map (·.2.1)) (ver,cs)) (rv:Int × List (List VD)) (hR:errL (vs.map fun v=>(v.1,v.2.1))=0->RowsC w x (vs.map (·.2)) rv)
  (hok:∀ c∈cs,c.Ok) (hvl:cs.length<=1000000) (hrk:RowsOk rv.2) (hrl:RowsLe rv.2) (hrn:rv.2.length<=1000000):EvalC w I ic n x (nodeE vs cs rv) :=
 fun w' t=>eval_node x kk m hk0 hk2 hm hm2 I ic n w' xs vs hxs hvs (RdK.touch0 hX t) (fun i a b w'' t2=>hE i a b w'' (t.trans0 t2)) ver cs (fun h0 w'' base L lc sl t2=>hS h0 w'' base L lc sl (t.trans0 t2)) rv (fun h0 w'' L lc tl t2=>hR h0 w'' L lc tl (t.trans0 t2)) hok hvl hrk hrl hrn
theorem schemaC_join (x:PC) (hk0:x.kind=4) (on:List (ByteArray × ByteArray)) (ho:x.on.n=on.length) (hlo:on.length<=1000000) (a b:List CD) (hl1:a.length<=1000) (hl2:b.length<=1000) (w:World) (hr:RdK prE w x.on.A on):SchemaC w x [a,b] (onV a b on,a++b):=by
 intro w' base L lc sl t hb hs hL
 obtain ⟨hs1,hs2⟩:=hs
 match sl,hs1 with
 | [s1,s2],_ =>
  have h1:=hs2 0 (by simp) (by simp)
  have h2:=hs2 1 (by simp) (by simp)
  refine (schema_join x hk0 on ho hlo L lc s1 s2 a b h1.1 h2.1 h1.2.1 h2.2.1 hl1 hl2 w' hL (RdK.touch0 hr t) h1.2.2.1 h2.2.2.1).mono ?_
  rintro e w'' ⟨A,c,rfl,hm⟩
  exact (TyPost.made hm).base hb
theorem schemaC_group (x:PC) (hk0:x.kind=6) (names:List ByteArray) (aggs:List AG) (hnn:x.names.n=names.length) (han:x.aggs.n=aggs.length) (hln:names.length<=100000) (hla:aggs.length<=100000) (a:List CD) (hl1:a.length<=1000) (w:World)
  (hr:RdK btE w x.names.A names) (hg:RdK agE w x.aggs.A aggs):SchemaC w x [a] (groupV a names aggs):=by
 intro w' base L lc sl t hb hs hL
 obtain ⟨hs1,hs2⟩:=hs
 match sl,hs1 with
 | [s1],_ =>
  have h1:=hs2 0 (by simp) (by simp)
  refine (schema_group x hk0 names aggs hnn han hln hla L lc s1 a h1.1 hl1 w' hL (RdK.touch0 hr t) (RdK.touch0 hg t) h1.2.2.1).mono ?_
  intro e w'' h
  exact (TyPost.of h).base hb
theorem rowsC_group0 (x:PC) (hk0:x.kind=6) (h1:x.names.n=0) (h2:x.aggs.n=1) (op nm:ByteArray) (cs:List CD) (hl:cs.length<=1000000) (w:World) (hg:RdK agE w x.aggs.A [⟨op,⟨#[]⟩,nm⟩]):RowsC w x [(cs,[])] (0,[[⟨1,0,⟨#[]⟩⟩]]):=by
 intro w' L lc tl t hs hL
 obtain ⟨hs1,hs2⟩:=hs
 match tl,hs1 with
 | [t1],_=>exact rows_group0 x hk0 h1 h2 op nm L lc t1 cs hl w' hL (hs2 0 (by simp) (by simp)) (RdK.touch0 hg t)
theorem sortR_one (r:List VD):sortR [r]=[r]:=(sortR_of (rows:=[r]) ⟨.refl _,by simp⟩).symm
end
section
open Go.RowKit
theorem growR_any (n:Nat) (hn:n<=1000000) (w:World) :
  Calls Tryz.prog 140 #[.slice none 0 0,.int .i64 n] w fun e w'=>∃ A c,e=.returned (.slice A 0 c)/\Made 33 1 slE [] A c w w':=by
 obtain ⟨i0,hi0,hz0,hz1,hz2⟩:=info_parts info_r5
 go_enter Tryz.func140,Tryz.ntmps140
 by_cases h0:n=0
 ·subst h0
  go_wp2
  go_ret
  exact ⟨none,0,rfl,Made.nil _ _ _ _⟩
 ·have hn0:0 < n:=by omega
  have hge:=grownCap_ge w n 0 33
  have hle:=grownCap_le_maxLen w n 0 33 (by simp only [maxLen];omega)
  have hold:(Builtin.firstCells i0.size 0 (.slice none 0 0)).run Tryz.prog w.drew=.ok ([]:List Value).toArray w.drew:=run_firstCells_none w.drew i0.size 0 0 0
  have hrz:∀ ty,(Builtin.append_ #[25,3] ty #[.slice none 0 0,.int .i64 (n:Int)]).run Tryz.prog w=_:=fun ty =>
   Lib.run_append_grow_zeros w 25 3 ty 33 i0 (.slice none 0 0) .i64 .i64 Tryz.underlying25 Tryz.underlying3 hi0 hz0 none 0 0 [] hold n hn0 (by omega) (by omega) (by omega)
    (by rw [hz2];omega) (by rw [hz2];exact growslice_fits (by omega) (by omega))
  simp only [Nat.zero_add] at hrz
  have hsz:(([]:List Value).toArray++Builtin.zeroCells (Value.slice none 0 0).cells n++Builtin.zeroCells (Value.slice none 0 0).cells (grownCap w n 0 33-n)).size=grownCap w n 0 33*1:=by
   rw [Array.size_append,Array.size_append,size_zeroCells,size_zeroCells]
   simp [Value.cells]
   omega
  have hcut:=OwnK.room 33 1 slE w.drew (grownCap w n 0 33) _ hle hsz
  obtain ⟨W,hW⟩:∃ W,W=w.drew.alloc (.cells (([]:List Value).toArray++Builtin.zeroCells (Value.slice none 0 0).cells n++Builtin.zeroCells (Value.slice none 0 0).cells (grownCap w n 0 33-n)) 33):=⟨_,rfl⟩
  obtain ⟨G,hG⟩:∃ G,G=grownCap w n 0 33:=⟨_,rfl⟩
  have tW:Touch [] w W:=by rw [hW];exact ((Touch.refl [] w).drew).alloc _
  rw [<- hW] at hrz hcut
  rw [<- hG] at hrz hcut hge hle
  have hws:w.drew.heap.size=w.heap.size:=rfl
  rw [hws] at hcut
  unfold maxLen at hle
  clear hW hG hold hsz hws
  go_wp2_with (at_builtin;refine Lib.wpList_append_run _ rfl _ _ _ _ rfl _ _ rfl rfl _ _ (hrz _) ?_)
  go_ret
  exact ⟨_,G,rfl,hcut,tW,by simp [fpo]⟩
theorem concatR_any (A1 A2:Option Addr) (n1 n2 c1 c2:Nat) (l1 l2:List SL) (e1:l1.length=n1) (e2:l2.length=n2) (h1:n1<=100000) (h2:n2<=100000) (w:World) (r1:RdK slE w A1 l1) (r2:RdK slE w A2 l2) :
  Calls Tryz.prog 98 #[.slice (some ⟨w.heap.size,0,none⟩) 2 2] (w.alloc (.cells #[.slice A1 n1 c1,.slice A2 n2 c2] 25)) fun e w' =>
   ∃ A c,e=.returned (.slice A (l1++l2).length c)/\Made 33 1 slE (l1++l2) A c w w':=by
 subst e1 e2
 have t0:=(Touch.refl [] w).alloc (.cells #[.slice A1 l1.length c1,.slice A2 l2.length c2] 25)
 have hb:=heap_alloc_new w (.cells #[.slice A1 l1.length c1,.slice A2 l2.length c2] 25)
 obtain ⟨W,hW⟩:∃ W,W=w.alloc (.cells #[.slice A1 l1.length c1,.slice A2 l2.length c2] 25):=⟨_,rfl⟩
 have hWs:w.heap.size < W.heap.size:=by rw [hW,World.size_alloc];omega
 rw [<- hW] at t0 hb ⊢
 have d0:=cell_blk hb (i:=0) rfl
 have d1:=cell_blk hb (i:=1) rfl
 have hlen:(l1++l2).length=l1.length+l2.length:=List.length_append
 have Hlen:=lh hlen
 clear hW hlen
 go_enter Tryz.func98,Tryz.ntmps98
 go_wp2
 refine wp_loop_rounds 3 ?_
 rw [rounds_succ]
 go_wp2
 rw [rounds_succ]
 go_wp2
 rw [rounds_succ]
 go_wp2_with fail
 have hgr:=growR_any (l1.length+l2.length) (by omega) W
 rw [Int.natCast_add] at hgr
 refine hgr.mono ?_
 rintro e w1 ⟨A3,c3,rfl,hm3⟩
 have b1:=hm3.t.blk hb (by simp)
 have f0:=cell_blk b1 (i:=0) rfl
 have f1:=cell_blk b1 (i:=1) rfl
 have T1:=t0.trans0 hm3.t
 go_wp2_with fail
 refine wp_loop_rounds 3 ?_
 rw [rounds_succ]
 go_wp2_with (at_builtin;refine stop ?_)
 refine go ?_
 refine wpList_appK rfl (.tmp 31) (.tmp 32) 25 rfl 33 _ 1 24 info_r5 Tryz.underlying25 rfl (by omega) slE_length slE_one A3 0 c3 [] rfl rfl hm3.own
  A1 l1.length c1 l1 rfl rfl (r1.touch0 T1) (by omega) (by omega) ?_
 intro A4 c4 w4 hown4 ht4 hf4
 have hm4:=hm3.step hown4 ht4 hf4
 have b4:=hm4.t.blk hb (by simp)
 have g0:=cell_blk b4 (i:=0) rfl
 have g1:=cell_blk b4 (i:=1) rfl
 rw [List.nil_append] at hm4
 go_wp2_with fail
 rw [rounds_succ]
 go_wp2_with (at_builtin;refine stop ?_)
 refine go ?_
 refine wpList_appK rfl (.tmp 31) (.tmp 32) 25 rfl 33 _ 1 24 info_r5 Tryz.underlying25 rfl (by omega) slE_length slE_one A4 l1.length c4 l1 rfl rfl hm4.own
  A2 l2.length c2 l2 rfl rfl (r2.touch0 (t0.trans0 hm4.t)) (by omega) (by omega) ?_
 intro A5 c5 w5 hown5 ht5 hf5
 have hm5:=hm4.step hown5 ht5 hf5
 go_wp2_with fail
 rw [rounds_succ]
 go_wp2
 go_ret
 exact ⟨A5,c5,ret_slice Hlen.out.symm,hm5.own,t0.trans0 hm5.t,fun b hb=>by have:=hm5.f b hb;omega⟩
end
section
open Go.RowKit
theorem SlsAt.append {w:World} {s1 s2:List SL} {r1 r2:List (List VD)} (h1:SlsAt w s1 r1) (h2:SlsAt w s2 r2):SlsAt w (s1++s2) (r1++r2):=by
 refine ⟨by rw [List.length_append,List.length_append,h1.1,h2.1],fun i a b => ?_⟩
 by_cases hi:i < s1.length
 ·have hi2:i < r1.length:=by rw [<- h1.1];exact hi
  rw [List.getElem_append_left hi,List.getElem_append_left hi2]
  exact h1.2 i hi hi2
 ·have hi2:r1.length<=i:=by rw [<- h1.1];omega
  have hs:i-s1.length < s2.length:=by rw [List.length_append] at a;omega
  have hr:i-r1.length < r2.length:=by rw [List.length_append] at b;omega
  rw [List.getElem_append_right (by omega),List.getElem_append_right hi2]
  have:=h2.2 (i-s1.length) hs (by rw [<- h2.1];exact hs)
  simp only [h1.1] at this ⊢
  exact this
theorem SlsAt.touch0' {w w':World} {sl:List SL} {rows:List (List VD)} (h:SlsAt w sl rows) (ht:Touch [] w w'):SlsAt w' sl rows:=⟨h.1,fun i a b=>⟨(h.2 i a b).1,ValsAt.touch0 (h.2 i a b).2 ht⟩⟩
theorem rows_union (x:PC) (hk0:x.kind=7) (L:Option Addr) (lc:Nat) (ta tb:SL × SL) (csA csB:List CD) (rowsA rowsB:List (List VD)) (w:World) (hL:RdK tbE w L [ta,tb]) (hTA:TabAt w ta.1 ta.2 csA rowsA) (hTB:TabAt w tb.1 tb.2 csB rowsB) (hA2:rowsA.length<=100000) (hB2:rowsB.length<=100000) :
  Calls Tryz.prog 65 #[x.val,.slice L 2 lc] w (RowsPost (0,rowsA++rowsB) w):=by
 obtain ⟨⟨SA,sn,sc⟩,⟨RA,rn,rc⟩⟩:=ta
 obtain ⟨⟨SB,tn,tc⟩,⟨RB,un,uc⟩⟩:=tb
 obtain ⟨k0,k1,⟨A2,n2,c2'⟩,⟨⟨ck,cn,⟨cvk,cvn,cvt⟩,cop⟩,CA,cnn,cc⟩,⟨NA,nn,nc⟩,⟨EA,en,ec⟩,⟨OA,ol,oc⟩,⟨GA,gn,gc⟩,⟨BA,bn,bc⟩,count⟩:=x
 dsimp only at hk0
 subst hk0
 obtain ⟨ad,bl,bo,rfl,hadd0,hc0⟩:=RdK.cells hL 2 tbE_length (by omega) 0 (by simp)
 obtain ⟨ad',bl',bo',e',hadd1,hc1⟩:=RdK.cells hL 2 tbE_length (by omega) 1 (by simp)
 obtain rfl:ad=ad':=by injection e'
 have l1:=hc0 1 _ rfl
 have l3:=hc1 1 _ rfl
 simp only [Nat.zero_mul,Nat.one_mul,Nat.add_zero] at hadd0 hadd1
 simp only [List.getElem_cons_zero,List.getElem_cons_succ] at l1 l3
 obtain ⟨sl1,hs1,hr1⟩:=hTA.rws
 obtain ⟨sl2,hs2,hr2⟩:=hTB.rws
 have hn1:rn=rowsA.length:=hTA.m
 have hn2:un=rowsB.length:=hTB.m
 have hm1:sl1.length=rn:=by rw [hn1,hs1.1]
 have hm2:sl2.length=un:=by rw [hn2,hs2.1]
 have Hj:=lh fun w' (t:Touch [] w w')=>concatR_any RA RB rn un rc uc sl1 sl2 hm1 hm2 (by omega) (by omega) w' (RdK.touch0 hr1 t) (RdK.touch0 hr2 t)
 have HS:=lh (And.intro hs1 hs2)
 have HN:=lh (show sl1.length+sl2.length=(rowsA++rowsB).length by rw [List.length_append,hs1.1,hs2.1])
 simp only [PC.val] at *
 obtain ⟨W,hW⟩:∃ W,W=w.alloc (.cells #[.int .i64 7,.string k1,.slice A2 n2 c2',.int .i64 ck,.string cn,.int .i64 cvk,.int .i64 cvn,.string cvt,.string cop,.slice CA cnn cc,.slice NA nn nc,.slice EA en ec,.slice OA ol oc,.slice GA gn gc,.slice BA bn bc,.int .i64 count] 49):=⟨_,rfl⟩
 have t0:Touch [] w W:=hW ▸ (Touch.refl [] w).alloc _
 have hb0:=hW ▸ heap_alloc_new w (.cells #[.int .i64 7,.string k1,.slice A2 n2 c2',.int .i64 ck,.string cn,.int .i64 cvk,.int .i64 cvn,.string cvt,.string cop,.slice CA cnn cc,.slice NA nn nc,.slice EA en ec,.slice OA ol oc,.slice GA gn gc,.slice BA bn bc,.int .i64 count] 49)
 have l1d:=t0.drew.cell l1 (by simp)
 have l3d:=t0.drew.cell l3 (by simp)
 have p0:W.cell? ⟨w.heap.size,0,none⟩=some (.int .i64 7):=cell_blk hb0 rfl
 have KP:Hid (∀ w',Touch [] W.drew w'->w'.cell? ⟨bl,bo+1,none⟩=some (.slice RA rn rc)/\w'.cell? ⟨bl',bo'+1,none⟩=some (.slice RB un uc)):=lh fun w' t=>⟨t.cell l1d (by simp),t.cell l3d (by simp)⟩
 have HW:=lh hW
 have HT0:=lh t0.drew
 clear hTA hTB hL hc0 hc1 hW t0 l1 l3 e' hb0 l1d l3d hs1 hs2 hr1 hr2 hn1 hn2 hm1 hm2
 go_enter Tryz.func65,Tryz.ntmps65
 go_wp2_with fail
 rw [<- HW.out]
 clear p0
 go_region_held3 (fun w'=>w'.cell? ⟨bl,bo+1,none⟩=some (.slice RA rn rc)/\w'.cell? ⟨bl',bo'+1,none⟩=some (.slice RB un uc)) (first | exact KP.out _ (Touch.refl _ _) | exact KP.out _ ((Touch.refl _ _).alloc _) | exact KP.out _ M1.out.2) (first
  | (go_at_call 98;refine (Hj.out _ HT0.out).mono ?_;rintro e w1 ⟨A1,c1,rfl,m1⟩;have M1:=lh (And.intro m1.own m1.t);clear m1))
 go_wp2_with fail
 go_ret2
 exact ⟨⟨A1,_,c1⟩,rfl,HN.out,⟨_,(HS.out.1.touch0' (HT0.out.trans0 M1.out.2)).append (HS.out.2.touch0' (HT0.out.trans0 M1.out.2)),M1.out.1.rd⟩,HT0.out.trans0 M1.out.2⟩
end
end Go.Proofs.YtafoklilkdnepaaGreatDoor
