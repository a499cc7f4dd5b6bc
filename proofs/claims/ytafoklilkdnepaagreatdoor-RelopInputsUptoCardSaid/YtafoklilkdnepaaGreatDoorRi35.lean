/- Part 35 of the texts of this proof, one behind the other. No condition beyond those that its theorems state. -/
import Derived.Test.YtafoklilkdnepaaGreatDoorRi34
import Derived.Test.YtafoklilkdnepaaGreatDoorRows
set_option maxRecDepth 40000
set_option maxHeartbeats 25600000
namespace Go.Proofs.YtafoklilkdnepaaGreatDoor
section
open Go.RowKit Go.Maps Go.ChangeMaps
attribute [local go_sem ↓] Go.wp_at_zero Go.wp_at_succ
def nsK (names:List ByteArray) (k:Nat) (l:List ByteArray):List ByteArray:=l.mapIdx fun i s=>if i < k then (names[i]?).getD s else s
theorem nsK_length (names:List ByteArray) (k:Nat) (l:List ByteArray):(nsK names k l).length=l.length:=by simp [nsK]
theorem nsK_zero (names l:List ByteArray):nsK names 0 l=l:=by
 unfold nsK
 refine List.ext_getElem (by simp) fun i h1 h2 => ?_
 simp
theorem nsK_succ_lt (names l:List ByteArray) (k:Nat) (hk:k < l.length) (hn:k < names.length):nsK names (k+1) l=(nsK names k l).set k names[k]:=by
 refine List.ext_getElem (by simp [nsK]) fun i h1 h2 => ?_
 rw [List.getElem_set]
 have hi:i < l.length:=by simpa [nsK] using h1
 simp only [nsK,List.getElem_mapIdx]
 by_cases hik:k=i
 ·subst hik
  rw [if_pos rfl,if_pos (by omega)]
  simp [hn]
 ·rw [if_neg hik]
  by_cases hlt:i < k
  ·rw [if_pos hlt,if_pos (by omega)]
  ·rw [if_neg hlt,if_neg (by omega)]
theorem nsK_succ_ge (names l:List ByteArray) (k:Nat) (hn:names.length<=k):nsK names (k+1) l=nsK names k l:=by
 refine List.ext_getElem (by simp [nsK]) fun i h1 h2 => ?_
 simp only [nsK,List.getElem_mapIdx]
 by_cases hlt:i < k
 ·rw [if_pos hlt,if_pos (by omega)]
 ·rw [if_neg hlt]
  by_cases hik:i < k+1
  ·have hnn:names[i]?=none:=List.getElem?_eq_none (by omega)
   rw [if_pos hik,hnn];rfl
  ·rw [if_neg hik]
theorem nsK_mem {names l:List ByteArray} {k:Nat} {s:ByteArray} (h:s∈nsK names k l):s∈names\/s∈l:=by
 obtain ⟨i,hi,rfl⟩:=List.mem_iff_getElem.1 h
 have hl:i < l.length:=by rw [nsK_length] at hi;exact hi
 simp only [nsK,List.getElem_mapIdx]
 split
 ·cases hn:names[i]? with
  | none=>exact .inr (List.getElem_mem hl)
  | some q=>exact .inl (List.mem_of_getElem? hn)
 ·exact .inr (List.getElem_mem hl)
theorem flat_single (ns:List ByteArray):(ns.map fun s=>[s]).flatten=ns:=by
 induction ns with
 | nil=>rfl
 | cons a r ih=>rw [List.map_cons,List.flatten_cons,ih];rfl
theorem namesC_leaf (s:ByteArray) (w:World):NamesC w (scanC s) [s]:=fun w' _ =>
 names_scan (scanC s) [] [] w' rfl rfl rfl (RdK.nil _ _ _) (fun i h=>absurd h (by simp)) (by simp) (by show 0<=_;omega)
def namesL (x:PC) (ns:List ByteArray):List ByteArray:=if x.kind=1 then x.name :: ns else ns
theorem namesC_plan (x:PC) (ns:List ByteArray) (w:World) (hx:x.args.n=ns.length) (hX:RdK pcE w x.args.A (ns.map scanC)) (hl:ns.length<=2):NamesC w x (namesL x ns):=by
 intro w' t
 have h1:∀ i (h1:i < (ns.map scanC).length) (h2:i < (ns.map fun s=>[s]).length),NamesC w' (ns.map scanC)[i] (ns.map fun s=>[s])[i]:=fun i _ _=>by
  rw [List.getElem_map,List.getElem_map];exact namesC_leaf _ _
 unfold namesL
 by_cases hk:x.kind=1
 ·rw [if_pos hk]
  have:=names_scan x (ns.map scanC) (ns.map fun s=>[s]) w' hk (by simp [hx]) (by simp [hx]) (RdK.touch0 hX t) h1 (by rw [flat_single];omega) (by omega)
  rw [flat_single] at this
  exact this
 ·rw [if_neg hk]
  have:=names_node x (ns.map scanC) (ns.map fun s=>[s]) w' hk (by simp [hx]) (by simp [hx]) (RdK.touch0 hX t) h1 (by rw [flat_single];omega) (by omega)
  rw [flat_single] at this
  exact this
theorem inp_b {m:Nat} (x:PC) (d:PD m) (sx rx sy ry:SL) (a b:List CD) (ra rb:List (List VD)) (QA:Option Addr) (qc:Nat) (names:List ByteArray) (w:World) (hP:PlanAt w x d) (hX:TabAt w sx rx a ra) (hY:TabAt w sy ry b rb) (hN:RdK btE w QA names) (hnb:∀ s∈names,s.size<=1048576) (hnl:names.length<=2000000) (hd:d.In) (hta:TbIn a ra) (htb:TbIn b rb) (hG:NeedsAt w) (hPw:PowAt w) (h1:smallT a ra=true) (h2:smallT b rb=true) (h3:smallPl d=true) (h4:names.length<=20) :
  Calls Tryz.prog 8 #[stVal x sx rx sy ry,.slice QA names.length qc] w fun e w'=>e=.returned (.bool true)/\Touch [] w w':=by
 have Hst:=lh fun w' (t:Touch [] w w')=>small_at (hX.touch0 t) hta
 have Hsu:=lh fun w' (t:Touch [] w w')=>small_at (hY.touch0 t) htb
 have Hsp:=lh fun w' (t:Touch [] w w')=>smallPlan_any m x d hd.ok w' (hP.touch0 t)
 have Haw:=lh fun w' (t:Touch [] w w')=>awake5_any w' (hG.touch0 t)
 have Hsc:=lh fun w'=>scansO_any x sx rx sy ry w'
 have HP:=lh hP
 have HX:=lh hX
 have HY:=lh hY
 have HD:=lh hd
 have HTA:=lh hta
 have HTB:=lh htb
 have HG:=lh hG
 have HPW:=lh hPw
 have HNM:=lh (And.intro hN (And.intro hnb hnl))
 have Hkd:=lh hP.kind
 clear hP hX hY hd hta htb hG hPw hN hnb hnl
 obtain ⟨k0,k1,⟨A2,n2,c2'⟩,⟨⟨ck,cn,⟨cvk,cvn,cvt⟩,cop⟩,CA,cnn,cc⟩,⟨NA,nn,nc⟩,⟨EA,en,ec⟩,⟨OA,ol,oc⟩,⟨GA,gn,gc⟩,⟨BA,bn,bc⟩,count⟩:=x
 obtain ⟨sxA,sxn,sxc⟩:=sx
 obtain ⟨rxA,rxn,rxc⟩:=rx
 obtain ⟨syA,syn,syc⟩:=sy
 obtain ⟨ryA,ryn,ryc⟩:=ry
 simp only [stVal,PC.val] at *
 have h4':(20 < (names.length:Int))=False:=eq_false (by omega)
 have Hn20:=lh h4
 have Hfd:=lh (HD.out.fine5 (smallPl_true h3))
 have Hoa:=lh (HTA.out.tb h1)
 have Hob:=lh (HTB.out.tb h2)
 clear h4
 rw [h1] at Hst
 rw [h2] at Hsu
 rw [h3] at Hsp
 clear h1 h2 h3
 obtain ⟨W,hW⟩:∃ W,W=w.alloc (.cells #[.int .i64 k0,.string k1,.slice A2 n2 c2',.int .i64 ck,.string cn,.int .i64 cvk,.int .i64 cvn,.string cvt,.string cop,.slice CA cnn cc,.slice NA nn nc,.slice EA en ec,.slice OA ol oc,.slice GA gn gc,.slice BA bn bc,.int .i64 count,.slice sxA sxn sxc,.slice rxA rxn rxc,.slice syA syn syc,.slice ryA ryn ryc] 55):=⟨_,rfl⟩
 have HT:=lh (show Touch [] w W from hW ▸ (Touch.refl [] w).alloc _)
 have HB:=lh (show W.heap[w.heap.size]?=some (.cells #[.int .i64 k0,.string k1,.slice A2 n2 c2',.int .i64 ck,.string cn,.int .i64 cvk,.int .i64 cvn,.string cvt,.string cop,.slice CA cnn cc,.slice NA nn nc,.slice EA en ec,.slice OA ol oc,.slice GA gn gc,.slice BA bn bc,.int .i64 count,.slice sxA sxn sxc,.slice rxA rxn rxc,.slice syA syn syc,.slice ryA ryn ryc] 55 (0,0)) from hW ▸ heap_alloc_new w _)
 have HWS:=lh (show W.heap.size=w.heap.size+1 by rw [hW];simp)
 have HW:=lh hW
 clear hW
 go_enter Tryz.func8,Tryz.ntmps8
 go_upto_region 1 with fail
 rw [<- HW.out]
 go_cut [41] (fun c wx=>c=.bool false/\Hid (Touch [] W wx))
 case first =>
  have c0_16:W.cell? ⟨w.heap.size,16,none⟩=some (.slice sxA sxn sxc):=cell_blk HB.out rfl
  have c0_17:W.cell? ⟨w.heap.size,17,none⟩=some (.slice rxA rxn rxc):=cell_blk HB.out rfl
  go_wp2_with fail
  refine (Hst.out _ HT.out).mono ?_
  rintro e w1 ⟨rfl,t1⟩
  have T1:=lh ((Touch.refl [] W).trans0 t1)
  have B1:=lh (T1.out.blk HB.out (by simp))
  clear t1
  have c1_18:w1.cell? ⟨w.heap.size,18,none⟩=some (.slice syA syn syc):=cell_blk B1.out rfl
  have c1_19:w1.cell? ⟨w.heap.size,19,none⟩=some (.slice ryA ryn ryc):=cell_blk B1.out rfl
  go_wp2_with fail
  refine (Hsu.out _ (HT.out.trans0 T1.out)).mono ?_
  rintro e w2 ⟨rfl,t2⟩
  have T2:=lh (T1.out.trans0 t2)
  have B2:=lh (T2.out.blk HB.out (by simp))
  clear t2
  clear c1_18 c1_19
  obtain ⟨c2_0,c2_1,c2_2,c2_3,c2_4,c2_5,c2_6,c2_7,c2_8,c2_9,c2_10,c2_11,c2_12,c2_13,c2_14,c2_15, -⟩:=blkz20 B2.out
  go_wp2_with fail
  refine (Hsp.out _ (HT.out.trans0 T2.out)).mono ?_
  rintro e w3 ⟨rfl,t3⟩
  have T3:=lh (T2.out.trans0 t3)
  have B3:=lh (T3.out.blk HB.out (by simp))
  clear t3
  clear c2_0 c2_1 c2_2 c2_3 c2_4 c2_5 c2_6 c2_7 c2_8 c2_9 c2_10 c2_11 c2_12 c2_13 c2_14 c2_15
  go_wp2_with fail
  go_meet
  exact ⟨rfl,T3⟩
 case rest =>
  obtain ⟨rfl,T3⟩:=hcut
  obtain ⟨w3,hw3⟩:∃ w3,w3=wc:=⟨_,rfl⟩
  subst hw3
  have B3:=lh (T3.out.blk HB.out (by simp))
  have Hs3:=lh (show w.heap.size+1<=w3.heap.size by have:=T3.out.size;have:=HWS.out;omega)
  clear Hst Hsu Hsp HW h4'
  go_upto_region 3 with fail
  go_cut [5,6] (fun v5 v6 wx=>∃ (A:Option Addr) (n c:Nat) (I:Option Addr) (G:Nat),v5=.pointer (some ⟨G,0,none⟩)/\v6=.slice I 3 3/\Hid ((n:Int)=needI k0/\OwnK 49 16 pcE wx A c ([scanC ⟨#[120]⟩,scanC ⟨#[121]⟩].take n)/\RdK srE wx I [⟨⟨#[120]⟩,⟨sxA,sxn,sxc⟩,⟨rxA,rxn,rxc⟩⟩,⟨⟨#[121]⟩,⟨syA,syn,syc⟩,⟨ryA,ryn,ryc⟩⟩,⟨⟨#[120]⟩,noS,noS⟩]/\wx.heap[G]?=some (.cells #[.int .i64 k0,.string k1,.slice A n c,.int .i64 ck,.string cn,.int .i64 cvk,.int .i64 cvn,.string cvt,.string cop,.slice CA cnn cc,.slice NA nn nc,.slice EA en ec,.slice OA ol oc,.slice GA gn gc,.slice BA bn bc,.int .i64 count] 49 (0,0))/\Touch [] w3 wx/\(∀ b∈fpo A,w3.heap.size<=b/\b < G/\b∉fpo I)/\(∀ b∈fpo I,w3.heap.size<=b)/\w3.heap.size<=G))
  case first =>
   refine wp_region_lit (l:=[_,_,_,_,_,_,_,_]) ?_
   refine wpList_load_mid rfl 55 (.tmp 2) rfl w.heap.size 0 rfl [.int .i64 k0,.string k1,.slice A2 n2 c2',.int .i64 ck,.string cn,.int .i64 cvk,.int .i64 cvn,.string cvt,.string cop,.slice CA cnn cc,.slice NA nn nc,.slice EA en ec,.slice OA ol oc,.slice GA gn gc,.slice BA bn bc,.int .i64 count,.slice sxA sxn sxc,.slice rxA rxn rxc,.slice syA syn syc,.slice ryA ryn ryc] _ (rangeAt_blk B3.out) Tryz.underlying55 rfl (by kernel_rfl) ?_
   simp only [Act.put,List.setIfInBounds_toArray,List.set_cons_zero,List.set_cons_succ]
   go_wp2_with fail
   refine (Hsc.out _).mono ?_
   rintro e w4 ⟨A,n,c,I,rfl,hn,hA,hI,t4,hfA,hfI,hAI⟩
   have ta:=(Touch.refl [] w4).alloc (.cells #[.int .i64 k0,.string k1,.slice A n c,.int .i64 ck,.string cn,.int .i64 cvk,.int .i64 cvn,.string cvt,.string cop,.slice CA cnn cc,.slice NA nn nc,.slice EA en ec,.slice OA ol oc,.slice GA gn gc,.slice BA bn bc,.int .i64 count] 49)
   have HF:=lh (And.intro hn (And.intro (OwnK.touch0 hA ta) (And.intro (RdK.touch0 hI ta) (And.intro (heap_alloc_new w4 (.cells #[.int .i64 k0,.string k1,.slice A n c,.int .i64 ck,.string cn,.int .i64 cvk,.int .i64 cvn,.string cvt,.string cop,.slice CA cnn cc,.slice NA nn nc,.slice EA en ec,.slice OA ol oc,.slice GA gn gc,.slice BA bn bc,.int .i64 count] 49)) (And.intro (t4.trans0 ta) (And.intro (fun b hb=>And.intro (hfA b hb) (And.intro (hA.lt b hb) (hAI b hb)):∀ b∈fpo A,w3.heap.size<=b/\b < w4.heap.size/\b∉fpo I) (And.intro hfI t4.size)))))))
   clear hn hA hI t4 ta hfA hfI hAI
   go_wp2_with fail
   go_meet
   exact ⟨A,n,c,I,_,rfl,rfl,HF⟩
  case rest =>
   obtain ⟨A,n,c,I,G,rfl,rfl,HF⟩:=hcut
   obtain ⟨w5,hw5⟩:∃ w5,w5=wc:=⟨_,rfl⟩
   subst hw5
   have hn2:n<=2:=by have:=HF.out.1;have:=needI_le k0;omega
   have cG2:w5.cell? ⟨G,2,none⟩=some (.slice A n c):=cell_blk HF.out.2.2.2.1 rfl
   have HTW5:=lh (HT.out.trans0 (T3.out.trans0 HF.out.2.2.2.2.1))
   have hd0:([scanC ⟨#[120]⟩,scanC ⟨#[121]⟩].take n)=(nsK names 0 (([⟨#[120]⟩,⟨#[121]⟩]:List ByteArray).take n)).map scanC:=by rw [nsK_zero,List.map_take];rfl
   obtain ⟨dfl,hdfl⟩:∃ l,l=([⟨#[120]⟩,⟨#[121]⟩]:List ByteArray).take n:=⟨_,rfl⟩
   have hdl:dfl.length=n:=by rw [hdfl,List.length_take];simp;omega
   have Hds:=lh (show ∀ s∈dfl,s.size<=1048576 from fun s hs=>by
    rw [hdfl] at hs
    have:=List.mem_of_mem_take hs
    simp only [List.mem_cons,List.not_mem_nil,or_false] at this
    rcases this with rfl | rfl
    ·show 1<=_;omega
    ·show 1<=_;omega)
   rw [<- hdfl] at hd0
   have HA0:=lh (hd0 ▸ HF.out.2.1:OwnK 49 16 pcE w5 A c ((nsK names 0 dfl).map scanC))
   clear hdfl hd0 Hsc B3
   go_wp2_with fail
   go_loopw [51] (fun i wr=>∃ k:Nat,k<=n/\i=.int .i64 k/\Hid (OwnK 49 16 pcE wr A c ((nsK names k dfl).map scanC))/\Hid (Touch (fpo A) w5 wr)) (fun i _=>n-(intOf i).toNat)
   case atStart=>exact ⟨0,by omega,rfl,HA0,lh (Touch.refl _ _)⟩
   case round =>
    obtain ⟨k,hk,rfl,HO,HTk⟩:=hrel
    by_cases hlt:k < n
    ·by_cases hkn:k < names.length
     ·obtain ⟨GA',hGA⟩:∃ g,A=some ⟨g,0,none⟩:=by
       rcases HO.out.head with ⟨_,q,_⟩ | ⟨g,q⟩
       ·have h0:((nsK names k dfl).map scanC).length=n:=by rw [List.length_map,nsK_length];exact hdl
        rw [q] at h0
        have h0:0=n:=h0
        omega
       ·exact ⟨g,q⟩
      subst hGA
      have hle:k < ((nsK names k dfl).map scanC).length:=by rw [List.length_map,nsK_length];omega
      have hset:=HO.out.set pcE_length k hle 1 (by omega) (.string names[k]) (scanC names[k]) (by rw [List.getElem_map];rfl)
      rw [<- List.map_set,<- nsK_succ_lt names dfl k (by omega) hkn] at hset
      obtain ⟨ad,b1,o1,rfl,haddq,hcq⟩:=names_at (RdK.touch HNM.out.1 ((HTW5.out).trans HTk.out (fun b hb=>.inr (by have:=HF.out.2.2.2.2.2.1 b hb;have:=Hs3.out;omega))) (by simp)) k hkn
      obtain ⟨ad2,b2,o2,had2,hadd2,hc2⟩:=RdK.cells HO.out.rd 16 pcE_length (by omega) k hle
      obtain rfl:=Option.some.inj had2
      have e2:(⟨GA',0,none⟩:Addr).add (k*16)=⟨GA',k*16,none⟩:=by unfold Addr.add;split <;> simp_all
      obtain ⟨rfl,rfl⟩:GA'=b2/\k*16=o2:=by
       have:=e2.symm.trans hadd2
       injection this with q1 q2 _
       exact ⟨q1,q2⟩
      have c1:=hc2 1 _ rfl
      have f1:wr.frozen? ⟨GA',k*16+1,none⟩=false:=HO.out.free_ _
      have cG:wr.cell? ⟨G,2,none⟩=some (.slice (some ⟨GA',0,none⟩) n c):=HTk.out.cell cG2 (fun hm=>absurd (show G < G from (HF.out.2.2.2.2.2.1 _ hm).2.1) (Nat.lt_irrefl _))
      have hkn':(k:Int) < (names.length:Int):=by omega
      have hkI:(k:Int) < (n:Int):=by omega
      have hpos:0 < GA'\/GA'=0:=by omega
      obtain ⟨s,hs⟩:∃ s,s=names[k]:=⟨_,rfl⟩
      rw [<- hs] at hset hcq
      have HS:=lh hset
      have HT2:=lh (HTk.out.setCell (p:=⟨GA',k*16+1,none⟩) (.inl (by simp [fpo])) (.string s))
      clear hset hs hc2 hadd2 hpos
      go_wp2_with fail
      go_region
      go_wp2_with fail
      go_roundw
      case rel=>exact ⟨k+1,by omega,by go_num,lh (HS.out.touch0 (Touch.refl [] _).drew),lh HT2.out.drew⟩
      case measure=>simp [intOf];omega
     ·have hkn':((k:Int) < (names.length:Int))=False:=eq_false (by omega)
      have hkI:(k:Int) < (n:Int):=by omega
      have HS:=lh (nsK_succ_ge names dfl k (by omega) ▸ HO.out:OwnK 49 16 pcE wr A c ((nsK names (k+1) dfl).map scanC))
      go_wp2_with fail
      go_roundw
      case rel=>exact ⟨k+1,by omega,by go_num,HS,HTk⟩
      case measure=>simp [intOf];omega
    ·obtain rfl:n=k:=by omega
     obtain ⟨w6,hw6⟩:∃ w6,w6=wr:=⟨_,rfl⟩
     subst hw6
     obtain ⟨ns,hns⟩:∃ l,l=nsK names n dfl:=⟨_,rfl⟩
     have hnl:ns.length=n:=by rw [hns,nsK_length];exact hdl
     have Hnb:=lh (show ∀ s∈ns,s.size<=1048576 from fun s hs=>by
      rw [hns] at hs
      rcases nsK_mem hs with q | q
      ·exact HNM.out.2.1 s q
      ·exact Hds.out s q)
     rw [<- hns] at HO
     have TW6:=lh (HTW5.out.trans HTk.out (fun b hb=>.inr (by have:=(HF.out.2.2.2.2.2.1 b hb).1;have:=Hs3.out;omega)))
     have G6:=lh (HTk.out.blk HF.out.2.2.2.1 (fun hm=>absurd (show G < G from (HF.out.2.2.2.2.2.1 _ hm).2.1) (Nat.lt_irrefl _)))
     have hnk:(ns.length:Int)=needI d.kind:=by rw [hnl,HF.out.1,Hkd.out]
     have HIn:=lh (⟨HG.out.touch0 TW6.out,HPW.out.touch0 TW6.out,(HP.out.touch0 TW6.out).args ⟨A,n,c⟩,Hfd.out,fun s hs=>by
       simp only [srcs2,List.mem_cons,List.not_mem_nil,or_false] at hs
       rcases hs with rfl | rfl | rfl
       ·exact Hoa.out
       ·exact Hob.out
       ·exact TbOk.nil,by simp [srcs2],
      ⟨_,rfl,RdK.touch HF.out.2.2.1 HTk.out (fun b hb hm=>(HF.out.2.2.2.2.2.1 b hm).2.2 hb),fun i i1 i2=>by
       have:i=0\/i=1\/i=2:=by simp at i1;omega
       rcases this with rfl | rfl | rfl
       ·exact ⟨rfl,HX.out.touch0 TW6.out⟩
       ·exact ⟨rfl,HY.out.touch0 TW6.out⟩
       ·exact ⟨rfl,rfl,Nat.le_refl _,RdK.nil _ _ _,rfl,[],⟨rfl,fun i h=>absurd h (by simp)⟩,RdK.nil _ _ _⟩⟩,
      hnk,hnl.symm,HO.out.rd⟩:InAt w6 d (⟨k0,k1,⟨A,n,c⟩,⟨⟨ck,cn,⟨cvk,cvn,cvt⟩,cop⟩,CA,cnn,cc⟩,⟨NA,nn,nc⟩,⟨EA,en,ec⟩,⟨OA,ol,oc⟩,⟨GA,gn,gc⟩,⟨BA,bn,bc⟩,count⟩:PC) I (srcs2 a ra b rb) ns)
     have Hnc:=lh (inputs_any (⟨k0,k1,⟨A,n,c⟩,⟨⟨ck,cn,⟨cvk,cvn,cvt⟩,cop⟩,CA,cnn,cc⟩,⟨NA,nn,nc⟩,⟨EA,en,ec⟩,⟨OA,ol,oc⟩,⟨GA,gn,gc⟩,⟨BA,bn,bc⟩,count⟩:PC) (namesL (⟨k0,k1,⟨A,n,c⟩,⟨⟨ck,cn,⟨cvk,cvn,cvt⟩,cop⟩,CA,cnn,cc⟩,⟨NA,nn,nc⟩,⟨EA,en,ec⟩,⟨OA,ol,oc⟩,⟨GA,gn,gc⟩,⟨BA,bn,bc⟩,count⟩:PC) ns) w6 (namesC_plan (⟨k0,k1,⟨A,n,c⟩,⟨⟨ck,cn,⟨cvk,cvn,cvt⟩,cop⟩,CA,cnn,cc⟩,⟨NA,nn,nc⟩,⟨EA,en,ec⟩,⟨OA,ol,oc⟩,⟨GA,gn,gc⟩,⟨BA,bn,bc⟩,count⟩:PC) ns w6 hnl.symm HO.out.rd (by omega)) (by unfold namesL;split <;> (try rw [List.length_cons]) <;> omega))
     obtain ⟨N,hN⟩:∃ l,l=namesL (⟨k0,k1,⟨A,n,c⟩,⟨⟨ck,cn,⟨cvk,cvn,cvt⟩,cop⟩,CA,cnn,cc⟩,⟨NA,nn,nc⟩,⟨EA,en,ec⟩,⟨OA,ol,oc⟩,⟨GA,gn,gc⟩,⟨BA,bn,bc⟩,count⟩:PC) ns:=⟨_,rfl⟩
     have HN:=lh (show (∀ s∈ns,s∈N)/\(k0=1->k1∈N)/\N.length<=n+1/\(∀ s∈N,s.size<=1048576)/\(∀ s∈N,s∈ns\/k0=1/\s=k1) by
      rw [hN]
      unfold namesL
      by_cases q:k0=1
      ·rw [if_pos (show (⟨k0,k1,⟨A,n,c⟩,⟨⟨ck,cn,⟨cvk,cvn,cvt⟩,cop⟩,CA,cnn,cc⟩,⟨NA,nn,nc⟩,⟨EA,en,ec⟩,⟨OA,ol,oc⟩,⟨GA,gn,gc⟩,⟨BA,bn,bc⟩,count⟩:PC).kind=1 from q)]
       refine ⟨fun s hs=>List.mem_cons_of_mem _ hs,fun _=>List.mem_cons_self,by rw [List.length_cons,hnl];exact Nat.le_refl _,fun s hs => ?_,fun s hs => ?_⟩
       ·rcases List.mem_cons.1 hs with rfl | hs
        ·have:=HD.out.nm
         rw [<- HP.out.name] at this
         exact this
        ·exact Hnb.out s hs
       ·rcases List.mem_cons.1 hs with rfl | hs
        ·exact .inr ⟨q,rfl⟩
        ·exact .inl hs
      ·rw [if_neg (show ¬ (⟨k0,k1,⟨A,n,c⟩,⟨⟨ck,cn,⟨cvk,cvn,cvt⟩,cop⟩,CA,cnn,cc⟩,⟨NA,nn,nc⟩,⟨EA,en,ec⟩,⟨OA,ol,oc⟩,⟨GA,gn,gc⟩,⟨BA,bn,bc⟩,count⟩:PC).kind=1 from q)]
       exact ⟨fun s hs=>hs,fun z=>absurd z q,by rw [hnl];omega,Hnb.out,fun s hs=>.inl hs⟩)
     rw [<- hN] at Hnc
     obtain ⟨J,hJ⟩:∃ l,l=colsL N:=⟨_,rfl⟩
     have HJ:=lh (show (∀ s,s∈J ↔ s∈N)/\J.Nodup/\(∀ i (h:i+1 < J.length),Lib.compareBytes (J[i]).data.toList (J[i+1]).data.toList = -1) by
      rw [hJ];exact ⟨colsL_mem N,colsL_nodup N,colsL_rise N⟩)
     have hJl:J.length<=n+1:=by
      have h1:=compact_le N
      have h2:=HN.out.2.2.1
      have h3:J.length=(Lib.compact (sortS N)).length:=by rw [hJ];unfold colsL;rw [List.length_map]
      omega
     rw [<- hJ] at Hnc
     simp only [PC.val] at Hnc
     clear hN hJ hns cG2 hdl HA0 hk
     go_upto_region 10 with fail
     go_cut [8] (fun v8 wx=>∃ (JA:Option Addr) (jc:Nat),v8=.slice JA J.length jc/\Hid (RdK btE wx JA J/\(∀ b∈fpo JA,w6.heap.size<=b)/\Touch [] w6 wx))
     case first =>
      refine wp_region_lit (l:=[_,_,_]) ?_
      refine wpList_load_mid rfl 49 (.tmp 5) rfl G 0 rfl [.int .i64 k0,.string k1,.slice A n c,.int .i64 ck,.string cn,.int .i64 cvk,.int .i64 cvn,.string cvt,.string cop,.slice CA cnn cc,.slice NA nn nc,.slice EA en ec,.slice OA ol oc,.slice GA gn gc,.slice BA bn bc,.int .i64 count] _ (rangeAt_blk G6.out) Tryz.underlying49 rfl (by kernel_rfl) ?_
      simp only [Act.put,List.setIfInBounds_toArray,List.set_cons_zero,List.set_cons_succ]
      go_wp2_with fail
      refine Hnc.out.mono ?_
      rintro e0 w0 ⟨JA,jc,rfl,hr,hf,t0⟩
      have H0:=lh (And.intro hr (And.intro hf t0))
      clear hr hf t0
      go_wp2_with fail
      go_meet
      exact ⟨JA,jc,rfl,H0⟩
     case rest =>
      obtain ⟨JA,jc,rfl,H7⟩:=hcut
      obtain ⟨w7,hw7⟩:∃ w7,w7=wc:=⟨_,rfl⟩
      subst hw7
      clear Hnc
      have hmm:=@run_makeMap Tryz.prog
      go_wp2_with fail
      clear hmm
      go_loopw [73] (fun i wr=>∃ k:Nat,k<=J.length/\i=.int .i64 k/\Hid (MapAt Tryz.prog 9 wr w7.heap.size (setL (J.take k)))/\Hid (Touch [] w7 wr)) (fun i _=>J.length-(intOf i).toNat)
      case atStart=>exact ⟨0,by omega,rfl,lh (MapAt.made _),lh ((Touch.refl _ _).alloc _)⟩
      case round =>
       obtain ⟨k,hk,rfl,HM,HTl⟩:=hrel
       by_cases hlt:k < J.length
       ·have hnin:J[k]∉J.take k:=fun hm=>by
         obtain ⟨j,hj,he⟩:=List.mem_iff_getElem.1 hm
         rw [List.getElem_take] at he
         have hj':j < k:=by rw [List.length_take] at hj;omega
         exact List.pairwise_iff_getElem.1 HJ.out.2.1 j k (by omega) hlt hj' he
        have hsz:∀ s∈J,s.size<=1048576:=fun s hs=>HN.out.2.2.2.1 s ((HJ.out.1 s).1 hs)
        have hkey:=Go.WideMaps.keyOf_string_mk Tryz.underlying9 (s:=J[k]) (by have:=hsz _ (List.getElem_mem hlt);unfold maxLen;omega)
        have hsn:setL (J.take (k+1))=setL (J.take k)++[(.string J[k],.bool true)]:=by rw [List.take_succ_eq_append_getElem hlt,setL_snoc]
        have Hmiss:=lh fun w' (t:Touch [] wr w')=>(HM.out.touch t (by simp)).miss (string_keyed Tryz.underlying9) Tryz.underlying75 hkey (setL_miss hnin) _ (zeroBool _) false
        have Hput:=lh fun w' (t:Touch [] wr w')=>(HM.out.touch t (by simp)).put_new (string_keyed Tryz.underlying9) Tryz.underlying75 hkey (setL_miss hnin) (.bool true)
        have Hsn:=lh hsn
        by_cases hk0:k=0
        ·as_aux_lemma =>
         subst hk0
         obtain ⟨ad,b1,o1,rfl,hadd1,hc1⟩:=names_at (RdK.touch0 H7.out.1 HTl.out) 0 hlt
         obtain ⟨s,hs⟩:∃ s,s=J[0]:=⟨_,rfl⟩
         rw [<- hs] at hc1 Hmiss Hput Hsn
         have hkI:(0:Int) < (J.length:Int):=by omega
         clear hnin hsz hkey hsn hs
         go_wp2_with (at_lookup;refine stop ?_)
         refine go ?_
         refine wpList_lookup_is rfl (.tmp 78) (.tmp 79) 75 false rfl _ _ _ rfl rfl (Hmiss.out _ (Touch.refl _ _)) ?_
         obtain ⟨w3r,hrun,hmap2,ht3⟩:=Hput.out _ (Touch.refl _ _)
         have Hrun:=lh hrun
         have HM2:=lh hmap2
         have HT3:=lh ht3
         clear hrun hmap2 ht3
         go_wp2_with (at_mapUpdate;refine stop ?_)
         refine go ?_
         refine wpList_update_is rfl (.tmp 95) (.tmp 96) (.const (.bool true)) 75 rfl _ _ _ rfl rfl rfl Hrun.out ?_
         go_wp2_with fail
         go_roundw
         case rel=>exact ⟨1,by omega,by go_num,lh (by rw [Hsn.out];exact HM2.out),lh (HTl.out.trans HT3.out (fun b hb=>.inr (by simp at hb;omega)))⟩
         case measure=>simp [intOf];omega
        ·as_aux_lemma =>
         obtain ⟨j,hj⟩:∃ j,k=j+1:=⟨k-1,by omega⟩
         have hlt':j+1 < J.length:=by omega
         obtain ⟨ad,b1,o1,b2,o2,rfl,hadd1,hc1,hadd2,hc2⟩:=names_at2 (RdK.touch0 H7.out.1 HTl.out) j hlt'
         have hcmp:=fun w'=>refBytes_anyB J[j] J[j+1] (by have:=hsz _ (List.getElem_mem (show j < J.length by omega));omega) (by have:=hsz _ (List.getElem_mem hlt');omega) w'
         rw [HJ.out.2.2 j hlt'] at hcmp
         obtain ⟨s,hs⟩:∃ s,s=J[k]:=⟨_,rfl⟩
         have hs2:J[j+1]=s:=by rw [hs];simp [hj]
         obtain ⟨s1,hs1⟩:∃ s,s=J[j]:=⟨_,rfl⟩
         rw [hs2,<- hs1] at hcmp
         rw [<- hs1] at hc1
         rw [hs2] at hc2
         rw [<- hj] at hadd2
         rw [<- hs] at Hmiss Hput Hsn
         have Hcmp:=lh hcmp
         have hkI:(k:Int) < (J.length:Int):=by omega
         have hkp:(0 < (k:Int))=True:=eq_true (by omega)
         have hI1:(k:Int)-1=(j:Int):=by omega
         have hIw:IntKind.i64.wrap (j:Int)=(j:Int):=IntWalk.i64_in _ (by omega)
         have hI5:(j:Int) < (J.length:Int):=by omega
         have hI6:(0:Int)<=(j:Int):=by omega
         have HK:=lh (And.intro hlt hk0)
         clear hnin hsz hkey hsn hs hs2 hs1 hcmp hj hlt' hlt hk0
         go_wp2_with (at_lookup;refine stop ?_)
         refine go ?_
         refine wpList_lookup_is rfl (.tmp 78) (.tmp 79) 75 false rfl _ _ _ rfl rfl (Hmiss.out _ (Touch.refl _ _)) ?_
         go_wp2_with fail
         refine (Hcmp.out _).mono ?_
         rintro e4 w4 ⟨rfl,u4⟩
         obtain ⟨w3r,hrun,hmap2,ht3⟩:=Hput.out _ u4
         have Hrun:=lh hrun
         have HM2:=lh hmap2
         have HT3:=lh ((show Touch [w7.heap.size] wr w3r from ⟨ht3.os.trans u4.os,ht3.tape.trans u4.tape,ht3.output.trans u4.output,Nat.le_trans u4.size ht3.size,fun b hb hn=>(ht3.block b (Nat.lt_of_lt_of_le hb u4.size) hn).trans (u4.block b hb (by simp))⟩))
         clear hrun hmap2 ht3 u4
         go_wp2_with (at_mapUpdate;refine stop ?_)
         refine go ?_
         refine wpList_update_is rfl (.tmp 95) (.tmp 96) (.const (.bool true)) 75 rfl _ _ _ rfl rfl rfl Hrun.out ?_
         go_wp2_with fail
         go_roundw
         case rel=>exact ⟨k+1,by have:=HK.out.1;omega,by go_num,lh (by rw [Hsn.out];exact HM2.out),lh (HTl.out.trans HT3.out (fun b hb=>.inr (by simp at hb;omega)))⟩
         case measure=>have:=HK.out.1;simp [intOf];omega
       ·obtain rfl:J.length=k:=by omega
        rw [List.take_length] at HM
        obtain ⟨w8,hw8⟩:∃ w8,w8=wr:=⟨_,rfl⟩
        subst hw8
        have T68:=lh (H7.out.2.2.trans0 HTl.out)
        have G8:=lh (T68.out.blk G6.out (by simp))
        have cG8:w8.cell? ⟨G,2,none⟩=some (.slice A n c):=cell_blk G8.out rfl
        have hkf:((J.length:Int) < (J.length:Int))=False:=eq_false (by omega)
        have hszN:=lh (show ∀ s∈N,s.size<=1048576 from HN.out.2.2.2.1)
        clear hlt hk
        go_wp2_with fail
        clear hkf cG8
        go_loopw [101] (fun i wr=>∃ k:Nat,k<=n/\i=.int .i64 k/\Hid (Touch [] w8 wr)) (fun i _=>n-(intOf i).toNat)
        case atStart=>exact ⟨0,by omega,rfl,lh (Touch.refl _ _)⟩
        case round =>
         obtain ⟨k,hk,rfl,HTm⟩:=hrel
         by_cases hlt:k < n
         ·as_aux_lemma =>
          have hkl:k < (ns.map scanC).length:=by rw [List.length_map,hnl];exact hlt
          obtain ⟨ad,b1,o1,rfl,hadd,hc⟩:=RdK.cells (RdK.touch0 HO.out.rd (T68.out.trans0 HTm.out)) 16 pcE_length (by omega) k hkl
          obtain ⟨s,hs⟩:∃ s,s=ns[k]'(by rw [hnl];exact hlt):=⟨_,rfl⟩
          have hy:(ns.map scanC)[k]=scanC s:=by rw [List.getElem_map,hs]
          rw [hy] at hc
          have hsN:s∈N:=HN.out.1 s (hs ▸ List.getElem_mem _)
          have hkey:=Go.WideMaps.keyOf_string_mk Tryz.underlying9 (s:=s) (by have:=hszN.out s hsN;unfold maxLen;omega)
          have Hhit:=lh fun w' (t:Touch [] wr w')=>((HM.out.touch HTm.out (by simp)).touch t (by simp)).hit (string_keyed Tryz.underlying9) Tryz.underlying75 hkey (setL_mem ((HJ.out.1 s).2 hsN)) false
          have e0:=hc 0 _ rfl;have e1:=hc 1 _ rfl;have e2:=hc 2 _ rfl;have e3:=hc 3 _ rfl;have e4:=hc 4 _ rfl;have e5:=hc 5 _ rfl;have e6:=hc 6 _ rfl;have e7:=hc 7 _ rfl
          have e8:=hc 8 _ rfl;have e9:=hc 9 _ rfl;have e10:=hc 10 _ rfl;have e11:=hc 11 _ rfl;have e12:=hc 12 _ rfl;have e13:=hc 13 _ rfl;have e14:=hc 14 _ rfl;have e15:=hc 15 _ rfl
          rw [Nat.add_zero] at e0
          dsimp only [scanC,zeroX,noS] at e0 e1 e2 e3 e4 e5 e6 e7 e8 e9 e10 e11 e12 e13 e14 e15
          have ta:=lh ((Touch.refl [] wr).alloc (.cells #[.int .i64 1,.string s,.slice none 0 0,.int .i64 0,.string ⟨#[]⟩,.int .i64 0,.int .i64 0,.string ⟨#[]⟩,.string ⟨#[]⟩,.slice none 0 0,.slice none 0 0,.slice none 0 0,.slice none 0 0,.slice none 0 0,.slice none 0 0,.int .i64 0] 49))
          have hkI:(k:Int) < (n:Int):=by omega
          clear hc hy hs hsN hkey hkl
          go_wp2_with (at_lookup;refine stop ?_)
          refine go ?_
          refine wpList_lookup_is rfl (.tmp 105) (.tmp 107) 75 false rfl _ _ _ rfl rfl (Hhit.out _ ta.out) ?_
          go_wp2_with fail
          go_roundw
          case rel=>exact ⟨k+1,by omega,by go_num,lh (HTm.out.trans0 ta.out)⟩
          case measure=>simp [intOf];omega
         ·obtain rfl:n=k:=by omega
          obtain ⟨w9,hw9⟩:∃ w9,w9=wr:=⟨_,rfl⟩
          subst hw9
          have G9:=lh (HTm.out.blk G8.out (by simp))
          have g0:w9.cell? ⟨G,0,none⟩=some (.int .i64 k0):=cell_blk G9.out rfl
          have g1:w9.cell? ⟨G,1,none⟩=some (.string k1):=cell_blk G9.out rfl
          have g2:w9.cell? ⟨G,2,none⟩=some (.slice A n c):=cell_blk G9.out rfl
          have hkf:((n:Int) < (n:Int))=False:=eq_false (by omega)
          have hwr:IntKind.i64.wrap ((n:Int)+1)=(n:Int)+1:=IntWalk.i64_in _ (by omega)
          have hlen:((n:Int)+1 < (J.length:Int))=False:=eq_false (by omega)
          have HM9:=lh (HM.out.touch HTm.out (by simp))
          clear hlt hk
          go_upto_region 25 with fail
          go_cut [129] (fun v wx=>v=.bool false/\Hid (Touch [] w9 wx))
          case first =>
           by_cases hk1:k0=1
           ·have hsN:k1∈N:=HN.out.2.1 hk1
            have hkey:=Go.WideMaps.keyOf_string_mk Tryz.underlying9 (s:=k1) (by have:=hszN.out _ hsN;unfold maxLen;omega)
            have Hhit:=lh (HM9.out.hit (string_keyed Tryz.underlying9) Tryz.underlying75 hkey (setL_mem ((HJ.out.1 _).2 hsN)) false)
            have hq1:(k0==1)=true:=by rw [hk1];rfl
            clear hsN hkey hk1
            have hit:=Hhit.out
            go_wp2_with fail
            go_meet
            exact ⟨rfl,lh (Touch.refl _ _)⟩
           ·have hq1:(k0==1)=false:=by rw [beq_eq_false_iff_ne];exact hk1
            clear hk1
            go_wp2_with fail
            go_meet
            exact ⟨rfl,lh (Touch.refl _ _)⟩
          case rest =>
           obtain ⟨rfl,H25⟩:=hcut
           obtain ⟨w10,hw10⟩:∃ w10,w10=wc:=⟨_,rfl⟩
           subst hw10
           clear g0 g1 g2 hkf hwr hlen
           have HM10:=lh (HM9.out.touch H25.out (by simp))
           have T610:=lh (T68.out.trans0 (HTm.out.trans0 H25.out))
           have G10:=lh (T610.out.blk G6.out (by simp))
           obtain ⟨S3,hl3,hR3,hA3⟩:=(HIn.out.touch0 T610.out).src
           have hS3:S3.length=3:=hl3
           have Hy:=lh (show ∀ i (h:i < S3.length),S3[i].name.size<=1048576 from fun i h=>by
            have q:=(hA3 i h (by rw [<- hl3];exact h)).1
            rw [q]
            have:i=0\/i=1\/i=2:=by omega
            rcases this with rfl | rfl | rfl
            ·show 1<=_;omega
            ·show 1<=_;omega
            ·show 1<=_;omega)
           have HR3:=lh hR3
           have HA3:=lh (And.intro hl3 hA3)
           clear hR3 hA3 hl3
           go_wp2_with fail
           go_loopw [14,132] (fun v14 i wr=>∃ (k:Nat) (Sa:Option Addr) (m' c':Nat),k<=3/\i=.int .i64 k/\v14=.slice Sa m' c'/\m'<=k/\Hid (m'=((S3.take k).filter fun y=>inB J y.name).length/\OwnK 36 3 srE wr Sa c' ((S3.take k).filter fun y=>inB J y.name)/\(∀ b∈fpo Sa,w10.heap.size<=b)/\Touch [] w10 wr)) (fun _ i _=>3-(intOf i).toNat)
           case atStart=>exact ⟨0,none,0,0,by omega,rfl,rfl,by omega,lh ⟨rfl,OwnK.nil _ _ _ _,by simp [fpo],Touch.refl _ _⟩⟩
           case round =>
            obtain ⟨k,Sa,m',c',hk,rfl,rfl,hmk,HK⟩:=hrel
            by_cases hlt:k < 3
            ·obtain ⟨ad,b1,o1,rfl,hadd,hc⟩:=RdK.cells (RdK.touch0 HR3.out HK.out.2.2.2) 3 srE_length (by omega) k (by omega)
             have hyn:=Hy.out k (by omega)
             have Hsn:=lh (show S3.take (k+1)=S3.take k++[S3[k]] from List.take_succ_eq_append_getElem (by omega))
             obtain ⟨y,hy⟩:∃ y,y=S3[k]'(by omega):=⟨_,rfl⟩
             rw [<- hy] at hc Hsn hyn
             clear hy
             obtain ⟨yn,⟨ysA,ysn,ysc⟩,⟨yrA,yrn,yrc⟩⟩:=y
             dsimp only at hyn
             have e0:=hc 0 _ rfl;have e1:=hc 1 _ rfl;have e2:=hc 2 _ rfl
             rw [Nat.add_zero] at e0
             dsimp only [srE] at e0 e1 e2
             have hkI:(k:Int) < 3:=by omega
             have hkey:=Go.WideMaps.keyOf_string_mk Tryz.underlying9 (s:=yn) (by unfold maxLen;omega)
             have Hta:=lh ((Touch.refl [] wr).alloc (.cells #[.string yn,.slice ysA ysn ysc,.slice yrA yrn yrc] 36))
             have Hmk:=lh hmk
             clear hc hyn hmk hk
             by_cases hin:yn∈J
             ·as_aux_lemma =>
              have Hhit:=lh fun w' (t:Touch [] wr w')=>((HM10.out.touch HK.out.2.2.2 (by simp)).touch t (by simp)).hit (string_keyed Tryz.underlying9) Tryz.underlying75 hkey (setL_mem hin) false
              have hrow:=RdK.one (enc:=srE) (wr.alloc (.cells #[.string yn,.slice ysA ysn ysc,.slice yrA yrn yrc] 36)) 36 ⟨yn,⟨ysA,ysn,ysc⟩,⟨yrA,yrn,yrc⟩⟩ #[.string yn,.slice ysA ysn ysc,.slice yrA yrn yrc] rfl
              rw [World.size_alloc] at hrow
              have Hrow:=lh hrow
              have Htb:=lh (Hta.out.alloc (.cells #[.string yn,.slice ysA ysn ysc,.slice yrA yrn yrc] 36))
              have Hin:=lh hin
              clear hkey hrow hin
              go_wp2_with (at_lookup;refine stop ?_)
              refine go ?_
              refine wpList_lookup_is rfl (.tmp 136) (.tmp 138) 75 false rfl _ _ _ rfl rfl (Hhit.out _ Hta.out) ?_
              go_wp2_with (at_builtin;refine stop ?_)
              refine go ?_
              refine wpList_appK (enc:=srE) rfl (.tmp 140) (.tmp 142) 37 rfl 36 _ 3 64 info_src Tryz.underlying37 rfl (by omega) srE_length srE_one Sa m' c' _ HK.out.1.symm rfl (HK.out.2.1.touch0 Htb.out) (some ⟨wr.heap.size+1,0,none⟩) 1 1 [⟨yn,⟨ysA,ysn,ysc⟩,⟨yrA,yrn,yrc⟩⟩] rfl rfl Hrow.out (by have:=Hmk.out;omega) (by omega) ?_
              intro A' c2 w' hO ht hf
              have HO':=lh hO
              have HT':=lh ht
              have HF':=lh hf
              clear hO ht hf
              go_wp2_with fail
              go_roundw
              case rel =>
               have hfl:((S3.take (k+1)).filter fun y=>inB J y.name)=((S3.take k).filter fun y=>inB J y.name)++[⟨yn,⟨ysA,ysn,ysc⟩,⟨yrA,yrn,yrc⟩⟩]:=by
                rw [Hsn.out,List.filter_append,List.filter_cons_of_pos (by exact inB_yes Hin.out),List.filter_nil]
               exact ⟨k+1,A',m'+1,c2,by omega,by go_num,rfl,by have:=Hmk.out;omega,lh ⟨by rw [hfl,List.length_append,<- HK.out.1];rfl,by rw [hfl];exact HO'.out,fun b hb=>by
                rcases HF'.out b hb with q | q
                ·exact HK.out.2.2.1 b q
                ·have:=HK.out.2.2.2.size;have:=Htb.out.size;omega,(HK.out.2.2.2.trans0 Htb.out).trans HT'.out (fun b hb=>.inr (HK.out.2.2.1 b hb))⟩⟩
              case measure=>simp [intOf];omega
             ·as_aux_lemma =>
              have Hmiss:=lh fun w' (t:Touch [] wr w')=>((HM10.out.touch HK.out.2.2.2 (by simp)).touch t (by simp)).miss (string_keyed Tryz.underlying9) Tryz.underlying75 hkey (setL_miss hin) _ (zeroBool _) false
              have Hin:=lh hin
              clear hkey hin
              go_wp2_with (at_lookup;refine stop ?_)
              refine go ?_
              refine wpList_lookup_is rfl (.tmp 136) (.tmp 138) 75 false rfl _ _ _ rfl rfl (Hmiss.out _ Hta.out) ?_
              go_wp2_with fail
              go_roundw
              case rel =>
               have hfl:((S3.take (k+1)).filter fun y=>inB J y.name)=((S3.take k).filter fun y=>inB J y.name):=by
                rw [Hsn.out,List.filter_append,List.filter_cons_of_neg (by exact inB_no Hin.out),List.filter_nil,List.append_nil]
               exact ⟨k+1,Sa,m',c',by omega,by go_num,rfl,by have:=Hmk.out;omega,lh ⟨by rw [hfl];exact HK.out.1,by rw [hfl];exact HK.out.2.1.touch0 Hta.out,HK.out.2.2.1,HK.out.2.2.2.trans0 Hta.out⟩⟩
              case measure=>simp [intOf];omega
            ·obtain rfl:k=3:=by omega
             obtain ⟨w11,hw11⟩:∃ w11,w11=wr:=⟨_,rfl⟩
             subst hw11
             rw [List.take_of_length_le (by omega)] at HK
             have T611:=lh (T610.out.trans0 HK.out.2.2.2)
             have G11:=lh (HK.out.2.2.2.blk G10.out (by simp))
             have hI11:=HIn.out.touch0 T611.out
             have hsf:=srcs_filter (fun s=>inB J s) S3 (srcs2 a ra b rb) HA3.out.1 (fun i h1 h2=>⟨(HA3.out.2 i h1 h2).1,(HA3.out.2 i h1 h2).2.touch0 HK.out.2.2.2⟩) _ _ rfl rfl
             have hI2:InAt w11 d (⟨k0,k1,⟨A,n,c⟩,⟨⟨ck,cn,⟨cvk,cvn,cvt⟩,cop⟩,CA,cnn,cc⟩,⟨NA,nn,nc⟩,⟨EA,en,ec⟩,⟨OA,ol,oc⟩,⟨GA,gn,gc⟩,⟨BA,bn,bc⟩,count⟩:PC) Sa ((srcs2 a ra b rb).filter fun q=>inB J q.name) ns:={ hI11 with
              ok:=fun s hs=>hI11.ok s (List.mem_filter.1 hs).1
              ln:=Nat.le_trans (List.length_filter_le _ _) hI11.ln
              src:=⟨_,hsf.1,HK.out.2.1.rd,hsf.2⟩ }
             have hsame:=hI11.same (fun s=>inB J s) (fun q=>inB_yes ((HJ.out.1 _).2 (by
              have h1:=HN.out.2.1 (Hkd.out.trans q)
              have hnm:k1=d.name:=HP.out.name
              rw [hnm] at h1
              exact h1))) (fun s hs=>inB_yes ((HJ.out.1 s).2 (HN.out.1 s hs)))
             have Hva:=lh hI11.evLe
             have hlm:((srcs2 a ra b rb).filter fun q=>inB J q.name).length=m':=by rw [HK.out.1];exact hsf.1.symm
             have h34:Calls Tryz.prog 12 #[PC.val (⟨k0,k1,⟨A,n,c⟩,⟨⟨ck,cn,⟨cvk,cvn,cvt⟩,cop⟩,CA,cnn,cc⟩,⟨NA,nn,nc⟩,⟨EA,en,ec⟩,⟨OA,ol,oc⟩,⟨GA,gn,gc⟩,⟨BA,bn,bc⟩,count⟩:PC),.slice I 3 3] w11 (EvPost (topV (typF d (srcV (srcs2 a ra b rb)) ns) (evF d (srcV (srcs2 a ra b rb)) ns)) w11):=hI11.eval 3
             have h35:=fun w' (t:Touch [] w11 w')=>(hI2.touch0 t).eval c'
             rw [hlm,hsame] at h35
             obtain ⟨V,hV⟩:∃ V,V=topV (typF d (srcV (srcs2 a ra b rb)) ns) (evF d (srcV (srcs2 a ra b rb)) ns):=⟨_,rfl⟩
             rw [<- hV] at h34 h35 Hva
             obtain ⟨er,vcs,vrows⟩:=V
             dsimp only at Hva
             simp only [PC.val] at h34 h35
             have H34:=lh h34
             have H35:=lh h35
             have TW11:=lh (TW6.out.trans0 T611.out)
             clear h34 h35 hV hsame hlm hI2 hsf hI11 hlt hk hmk
             go_upto_region 34 with fail
             go_cut [17,18] (fun v1 v2 wx=>∃ (ag:Nat) (aA:Option Addr) (ak ad:Nat) (aB:Option Addr) (aj af:Nat),v1=.pointer (some ⟨ag,0,none⟩)/\v2=.int .i64 er/\Hid (Touch [] w11 wx/\wx.heap[ag]?=some (.cells #[.slice aA ak ad,.slice aB aj af] 27 (0,0))/\TabAt wx ⟨aA,ak,ad⟩ ⟨aB,aj,af⟩ vcs vrows))
             case first =>
              refine wp_region_lit (l:=[_,_,_,_,_,_,_,_,_]) ?_
              refine wpList_load_mid rfl 49 (.tmp 5) rfl G 0 rfl [.int .i64 k0,.string k1,.slice A n c,.int .i64 ck,.string cn,.int .i64 cvk,.int .i64 cvn,.string cvt,.string cop,.slice CA cnn cc,.slice NA nn nc,.slice EA en ec,.slice OA ol oc,.slice GA gn gc,.slice BA bn bc,.int .i64 count] _ (rangeAt_blk G11.out) Tryz.underlying49 rfl (by kernel_rfl) ?_
              simp only [Act.put,List.setIfInBounds_toArray,List.set_cons_zero,List.set_cons_succ]
              go_wp2_with fail
              refine H34.out.mono ?_
              rintro e0 w0 ⟨⟨A1,k1',d1⟩,⟨B1,j1',f1⟩,rfl,hnt,t0⟩
              have H0:=lh (And.intro hnt.tab t0)
              clear hnt t0
              go_wp2_with fail
              go_meet
              have tb:=(Touch.refl [] w0).alloc (.cells #[.slice A1 k1' d1,.slice B1 j1' f1] 27)
              exact ⟨_,A1,k1',d1,B1,j1',f1,rfl,rfl,lh ⟨H0.out.2.trans0 tb,heap_alloc_new w0 _,H0.out.1.touch0 tb⟩⟩
             case rest =>
              obtain ⟨ag,aA,ak,ad,aB,aj,af,rfl,rfl,Ha⟩:=hcut
              obtain ⟨w12,hw12⟩:∃ w12,w12=wc:=⟨_,rfl⟩
              subst hw12
              have G12:=lh (Ha.out.1.blk G11.out (by simp))
              have H35':=lh (H35.out w12 Ha.out.1)
              go_upto_region 35 with fail
              go_cut [19,20] (fun v1 v2 wx=>∃ (bg:Nat) (bA:Option Addr) (bk bd:Nat) (bB:Option Addr) (bj bf:Nat),v1=.pointer (some ⟨bg,0,none⟩)/\v2=.int .i64 er/\Hid (Touch [] w12 wx/\wx.heap[bg]?=some (.cells #[.slice bA bk bd,.slice bB bj bf] 27 (0,0))/\TabAt wx ⟨bA,bk,bd⟩ ⟨bB,bj,bf⟩ vcs vrows))
              case first =>
               refine wp_region_lit (l:=[_,_,_,_,_,_,_,_,_]) ?_
               refine wpList_load_mid rfl 49 (.tmp 5) rfl G 0 rfl [.int .i64 k0,.string k1,.slice A n c,.int .i64 ck,.string cn,.int .i64 cvk,.int .i64 cvn,.string cvt,.string cop,.slice CA cnn cc,.slice NA nn nc,.slice EA en ec,.slice OA ol oc,.slice GA gn gc,.slice BA bn bc,.int .i64 count] _ (rangeAt_blk G12.out) Tryz.underlying49 rfl (by kernel_rfl) ?_
               simp only [Act.put,List.setIfInBounds_toArray,List.set_cons_zero,List.set_cons_succ]
               go_wp2_with fail
               refine H35'.out.mono ?_
               rintro e0 w0 ⟨⟨A1,k1',d1⟩,⟨B1,j1',f1⟩,rfl,hnt,t0⟩
               have H0:=lh (And.intro hnt.tab t0)
               clear hnt t0
               go_wp2_with fail
               go_meet
               have tb:=(Touch.refl [] w0).alloc (.cells #[.slice A1 k1' d1,.slice B1 j1' f1] 27)
               exact ⟨_,A1,k1',d1,B1,j1',f1,rfl,rfl,lh ⟨H0.out.2.trans0 tb,heap_alloc_new w0 _,H0.out.1.touch0 tb⟩⟩
              case rest =>
               obtain ⟨bg,bA,bk,bd,bB,bj,bf,rfl,rfl,Hb⟩:=hcut
               obtain ⟨w13,hw13⟩:∃ w13,w13=wc:=⟨_,rfl⟩
               subst hw13
               have TW13:=lh (TW11.out.trans0 (Ha.out.1.trans0 Hb.out.1))
               have Ag:=lh (Hb.out.1.blk Ha.out.2.1 (by simp))
               have At:=lh (Ha.out.2.2.touch0 Hb.out.1)
               obtain ⟨g0,g1, -, -⟩:=blk2 Ag.out
               obtain ⟨y0,y1, -, -⟩:=blk2 Hb.out.2.1
               obtain rfl:ak=vcs.length:=At.out.n
               obtain rfl:aj=vrows.length:=At.out.m
               obtain rfl:bk=vcs.length:=Hb.out.2.2.n
               obtain rfl:bj=vrows.length:=Hb.out.2.2.m
               have Heq:=lh (tabEqual_same aA aB bA bB ad af bd bf vcs.length vrows.length vcs vrows rfl rfl Hva.out.2.2 w13 At.out.cols Hb.out.2.2.cols At.out.rws Hb.out.2.2.rws Hva.out.1 Hva.out.2.1)
               go_wp2_with fail
               refine Heq.out.mono ?_
               rintro e14 w14 ⟨rfl,t14⟩
               have H14:=lh (TW13.out.trans0 t14)
               clear t14
               go_wp2_with fail
               refine (Haw.out _ H14.out).mono ?_
               rintro e15 w15 ⟨rfl,t15⟩
               have H15:=lh (H14.out.trans0 t15)
               clear t15
               go_wp2_with fail
               go_ret
               exact ⟨rfl,H15.out⟩
theorem inp_law {m:Nat} (x:PC) (d:PD m) (sx rx sy ry:SL) (a b:List CD) (ra rb:List (List VD)) (QA:Option Addr) (qc:Nat) (names:List ByteArray) (w:World) (hP:PlanAt w x d) (hX:TabAt w sx rx a ra) (hY:TabAt w sy ry b rb) (hN:RdK btE w QA names) (hnb:∀ s∈names,s.size<=1048576) (hnl:names.length<=2000000) (hd:d.In) (hta:TbIn a ra) (htb:TbIn b rb) (hG:NeedsAt w) (hPw:PowAt w) :
  Calls Tryz.prog 8 #[stVal x sx rx sy ry,.slice QA names.length qc] w fun e w'=>e=.returned (.bool true)/\Touch [] w w':=by
 rcases Bool.eq_false_or_eq_true (smallT a ra) with h1 | h1
 ·rcases Bool.eq_false_or_eq_true (smallT b rb) with h2 | h2
  ·rcases Bool.eq_false_or_eq_true (smallPl d) with h3 | h3
   ·by_cases h4:names.length<=20
    ·exact inp_b x d sx rx sy ry a b ra rb QA qc names w hP hX hY hN hnb hnl hd hta htb hG hPw h1 h2 h3 h4
    ·exact inp_a4 x d sx rx sy ry a b ra rb QA qc names w hP hX hY hN hnb hnl hd hta htb hG hPw h1 h2 h3 h4
   ·exact inp_a3 x d sx rx sy ry a b ra rb QA qc names w hP hX hY hN hnb hnl hd hta htb hG hPw h1 h2 h3
  ·exact inp_a2 x d sx rx sy ry a b ra rb QA qc names w hP hX hY hN hnb hnl hd hta htb hG hPw h1 h2
 ·exact inp_a1 x d sx rx sy ry a b ra rb QA qc names w hP hX hY hN hnb hnl hd hta htb hG hPw h1
end
section
open Go.RowKit Go.ChangeShapes Go.WideShapes Go.ChangeAt
theorem open_names {H:Type} {enc:TypeId × Value->H} {w:World} {base:Nat} {spare:Nat->Bool} {held:Bool} {v:Value} {r:Go.Reach} {b0:Nat} {d:DataW H} {p:List MemPlace} (hv:Value.okWide Tryz.prog w r b0 45 v) (h:DataW.Trod enc Tryz.prog w base spare held 45 v d p) :
  ∃ (A:Option Addr) (c:Nat) (l:List ByteArray),v=.slice A l.length c/\RdK btE w A l/\(Rows.uptoBulk d<=1048576->l.length<=2000000/\∀ x∈l,x.size<=1048576):=by
 obtain ⟨A,n,c,rfl⟩:=okWide_slice Tryz.underlying45 hv
 obtain ⟨m,hm⟩:=h
 obtain ⟨⟨sA,sn,sc⟩,h1,h2⟩:=opn_strs m m [.slice A n c] (d,p) (Nat.le_refl _) rfl (by simpa [Value.cells] using hm)
 obtain ⟨l,n1,n2,n3,n4,n5⟩:=h2.mem
 cases h1
 dsimp only at n1 n2
 subst n1
 exact ⟨_,_,l,rfl,n2,fun hb=>⟨by dsimp only at n4;omega,fun x hx=>by obtain ⟨k,hk,hq⟩:=n5 x hx;dsimp only at hk hq;omega⟩⟩
end
section
theorem bulk_le {H:Type} {d:DataW H} {ds gs:List (DataW H)} (h:Rows.uptoSmall H ((d :: ds)++gs)=true):Rows.uptoBulk d<=1048576:=by
 have h':Rows.uptoBulkAll ((d :: ds)++gs)<=1048576:=of_decide_eq_true h
 rw [List.cons_append] at h'
 simp only [Rows.uptoBulkAll] at h'
 omega
theorem bulk_le2 {H:Type} {c d:DataW H} {ds gs:List (DataW H)} (h:Rows.uptoSmall H ((c :: d :: ds)++gs)=true):Rows.uptoBulk d<=1048576:=by
 have h':Rows.uptoBulkAll ((c :: d :: ds)++gs)<=1048576:=of_decide_eq_true h
 rw [List.cons_append,List.cons_append] at h'
 simp only [Rows.uptoBulkAll] at h'
 omega
end
end Go.Proofs.YtafoklilkdnepaaGreatDoor
