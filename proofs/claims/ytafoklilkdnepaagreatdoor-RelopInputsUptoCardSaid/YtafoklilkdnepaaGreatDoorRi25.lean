/- Part 25 of the texts of this proof, one behind the other. No condition beyond those that its theorems state. -/
import Derived.Test.YtafoklilkdnepaaGreatDoorRi24
set_option maxRecDepth 40000
set_option maxHeartbeats 25600000
namespace Go.Proofs.YtafoklilkdnepaaGreatDoor
section
open Go.RowKit Go.Maps Go.ChangeMaps
theorem join_any (x:PC) (kk:Int) (left:Bool) (hlv:left=decide (kk=5)) (hleft:kk=x.kind) (on:List (ByteArray × ByteArray)) (ho:x.on.n=on.length) (hlo:on.length<=1000) (sa ra sb rb:SL) (csA csB:List CD) (rowsA rowsB:List (List VD)) (w:World)
  (hTA:TabAt w sa ra csA rowsA) (hTB:TabAt w sb rb csB rowsB) (hr:RdK prE w x.on.A on) (hgA:GoodR w rowsA csA.length) (hgB:GoodR w rowsB csB.length)
  (hA0:0 < csA.length) (hB0:0 < csB.length) (hA1:csA.length<=16) (hB1:csB.length<=16) (hA2:rowsA.length<=4096) (hB2:rowsB.length<=4096) :
  Calls Tryz.prog 96 #[x.val,.agg #[.slice sa.A sa.n sa.c,.slice ra.A ra.n ra.c],.agg #[.slice sb.A sb.n sb.c,.slice rb.A rb.n rb.c]] w
   (JoinP left csB.length rowsA rowsB (placesV csA (on.map (·.1))) (placesV csB (on.map (·.2))) w):=by
 obtain ⟨PO,hPO⟩:∃ PO,PO=JoinP left csB.length rowsA rowsB (placesV csA (on.map (·.1))) (placesV csB (on.map (·.2))) w:=⟨_,rfl⟩
 rw [<- hPO]
 have HPO:=lh hPO
 obtain ⟨SA,sn,sc⟩:=sa
 obtain ⟨RA,rn,rc⟩:=ra
 obtain ⟨SB,tn,tc⟩:=sb
 obtain ⟨RB,un,uc⟩:=rb
 obtain ⟨k0,k1,⟨A2,n2,c2'⟩,⟨⟨ck,cn,⟨cvk,cvn,cvt⟩,cop⟩,CA,cnn,cc⟩,⟨NA,nn,nc⟩,⟨EA,en,ec⟩,⟨OA,ol,oc⟩,⟨GA,gn,gc⟩,⟨BA,bn,bc⟩,count⟩:=x
 dsimp only at hleft ho hr ⊢
 simp only [PC.val]
 obtain ⟨hA3,hA4,hA5,hA6,slA,hA7,hA8⟩:=hTA
 obtain ⟨hB3,hB4,hB5,hB6,slB,hB7,hB8⟩:=hTB
 dsimp only at hA3 hA4 hA5 hA6 hA7 hA8 hB3 hB4 hB5 hB6 hB7 hB8
 subst ho
 obtain ⟨W,hW⟩:∃ W,W=((w.alloc (.cells #[.int .i64 kk,.string k1,.slice A2 n2 c2',.int .i64 ck,.string cn,.int .i64 cvk,.int .i64 cvn,.string cvt,.string cop,.slice CA cnn cc,.slice NA nn nc,.slice EA en ec,.slice OA on.length oc,.slice GA gn gc,.slice BA bn bc,.int .i64 count] 49)).alloc (.cells #[.slice SA sn sc,.slice RA rn rc] 27)).alloc (.cells #[.slice SB tn tc,.slice RB un uc] 27):=⟨_,rfl⟩
 have t0:Touch [] w W:=hW ▸ (((Touch.refl [] w).alloc _).alloc _).alloc _
 have hbp:W.heap[w.heap.size]?=some (.cells #[.int .i64 kk,.string k1,.slice A2 n2 c2',.int .i64 ck,.string cn,.int .i64 cvk,.int .i64 cvn,.string cvt,.string cop,.slice CA cnn cc,.slice NA nn nc,.slice EA en ec,.slice OA on.length oc,.slice GA gn gc,.slice BA bn bc,.int .i64 count] 49 (0,0)):=hW ▸ (((Touch.refl [] (w.alloc (.cells #[.int .i64 kk,.string k1,.slice A2 n2 c2',.int .i64 ck,.string cn,.int .i64 cvk,.int .i64 cvn,.string cvt,.string cop,.slice CA cnn cc,.slice NA nn nc,.slice EA en ec,.slice OA on.length oc,.slice GA gn gc,.slice BA bn bc,.int .i64 count] 49))).alloc (.cells #[.slice SA sn sc,.slice RA rn rc] 27)).alloc (.cells #[.slice SB tn tc,.slice RB un uc] 27)).blk (heap_alloc_new w _) (by simp)
 have hba:W.heap[w.heap.size+1]?=some (.cells #[.slice SA sn sc,.slice RA rn rc] 27 (0,0)):=by
  have h1:=heap_alloc_new (w.alloc (.cells #[.int .i64 kk,.string k1,.slice A2 n2 c2',.int .i64 ck,.string cn,.int .i64 cvk,.int .i64 cvn,.string cvt,.string cop,.slice CA cnn cc,.slice NA nn nc,.slice EA en ec,.slice OA on.length oc,.slice GA gn gc,.slice BA bn bc,.int .i64 count] 49)) (.cells #[.slice SA sn sc,.slice RA rn rc] 27)
  rw [World.size_alloc] at h1
  exact hW ▸ ((Touch.refl [] ((w.alloc (.cells #[.int .i64 kk,.string k1,.slice A2 n2 c2',.int .i64 ck,.string cn,.int .i64 cvk,.int .i64 cvn,.string cvt,.string cop,.slice CA cnn cc,.slice NA nn nc,.slice EA en ec,.slice OA on.length oc,.slice GA gn gc,.slice BA bn bc,.int .i64 count] 49)).alloc (.cells #[.slice SA sn sc,.slice RA rn rc] 27))).alloc (.cells #[.slice SB tn tc,.slice RB un uc] 27)).blk h1 (by simp)
 have hbb:W.heap[w.heap.size+1+1]?=some (.cells #[.slice SB tn tc,.slice RB un uc] 27 (0,0)):=by
  have h1:=heap_alloc_new ((w.alloc (.cells #[.int .i64 kk,.string k1,.slice A2 n2 c2',.int .i64 ck,.string cn,.int .i64 cvk,.int .i64 cvn,.string cvt,.string cop,.slice CA cnn cc,.slice NA nn nc,.slice EA en ec,.slice OA on.length oc,.slice GA gn gc,.slice BA bn bc,.int .i64 count] 49)).alloc (.cells #[.slice SA sn sc,.slice RA rn rc] 27)) (.cells #[.slice SB tn tc,.slice RB un uc] 27)
  rw [World.size_alloc,World.size_alloc] at h1
  exact hW ▸ h1
 have HLF:=lh hlv
 clear hlv
 subst hleft
 have HW:=lh hW
 have HT0:=lh t0
 have HBP:=lh (And.intro hbp (And.intro hba hbb))
 have HON:=lh (RdK.touch0 hr t0)
 have HAS:=lh (And.intro hA3 (And.intro (hA5.touch0 t0) (And.intro hA6 (And.intro (hA7.touch t0 (by simp)) (RdK.touch0 hA8 t0)))))
 have HBS:=lh (And.intro hB3 (And.intro (hB5.touch0 t0) (And.intro hB6 (And.intro (hB7.touch t0 (by simp)) (RdK.touch0 hB8 t0)))))
 have HGA:=lh (hgA.touch0 t0)
 have HGB:=lh (hgB.touch0 t0)
 have HLN:=lh (And.intro hA0 (And.intro hB0 (And.intro hA1 hB1)))
 clear hW t0 hbp hba hbb hr hA3 hA4 hA5 hA6 hA7 hA8 hB3 hB4 hB5 hB6 hB7 hB8 hgA hgB hPO hA0 hB0
 go_enter Tryz.func96,Tryz.ntmps96
 go_wp2_with fail
 rw [<- HW.out]
 go_loopw [8,9,28] (fun o o2 i wr=>∃ (k:Nat) (A:Option Addr) (c:Nat) (B:Option Addr) (d:Nat),k<=on.length/\i=.int .i64 k/\o=.slice A k c/\o2=.slice B k d/\Hid (OwnK 9 1 btE wr A c ((on.take k).map (·.1)))/\Hid (OwnK 9 1 btE wr B d ((on.take k).map (·.2)))/\Hid (∀ b∈fpo A,W.heap.size<=b/\b∉fpo B)/\Hid (∀ b∈fpo B,W.heap.size<=b)/\Hid (Touch [] W wr)) (fun _ _ i _=>on.length-(intOf i).toNat)
 case atStart=>exact ⟨0,none,0,none,0,by omega,rfl,rfl,rfl,lh (OwnK.nil _ _ _ _),lh (OwnK.nil _ _ _ _),lh (by simp [fpo]),lh (by simp [fpo]),lh (Touch.refl _ _)⟩
 case round =>
  obtain ⟨k,A,c,B,d,hk,rfl,rfl,rfl,HO1,HO2,HF1,HF2,HT⟩:=hrel
  by_cases hlt:k < on.length
  ·obtain ⟨ad,b1,o1,rfl,hadd,hc⟩:=RdK.cells (HON.out.touch0 HT.out) 2 prE_length (by omega) k hlt
   have htk:=List.take_succ_eq_append_getElem hlt
   obtain ⟨p,hp⟩:∃ p,p=on[k]:=⟨_,rfl⟩
   rw [<- hp] at hc htk
   obtain ⟨p1,p2⟩:=p
   have e0:=hc 0 _ rfl
   have e1:=hc 1 _ rfl
   rw [Nat.add_zero] at e0
   have ta:=(Touch.refl [] wr).alloc (.cells #[.string p1,.string p2] 39)
   have hbl:=heap_alloc_new wr (.cells #[.string p1,.string p2] 39)
   have hl1:Hid (((on.take k).map (·.1)).length=k):=lh (by rw [List.length_map,List.length_take];omega)
   have hl2:Hid (((on.take k).map (·.2)).length=k):=lh (by rw [List.length_map,List.length_take];omega)
   have hn1:Hid ((on.take (k+1)).map (·.1)=(on.take k).map (·.1)++[p1]):=lh (by rw [htk,List.map_append];rfl)
   have hn2:Hid ((on.take (k+1)).map (·.2)=(on.take k).map (·.2)++[p2]):=lh (by rw [htk,List.map_append];rfl)
   have hkn:(k:Int) < (on.length:Int):=by omega
   have HTa:=lh (And.intro ta hbl)
   clear hc htk hp ta hbl
   go_wp2_with (at_builtin;refine stop ?_)
   refine go ?_
   have tb:=HTa.out.1.alloc (.cells #[.string p1] 9)
   have hrd:=RdK.one (enc:=btE) (wr.alloc (.cells #[.string p1,.string p2] 39)) 9 p1 #[.string p1] rfl
   rw [World.size_alloc] at hrd
   refine wpList_appK (enc:=btE) rfl (.tmp 32) (.tmp 35) 45 rfl 9 _ 1 16 info_str5 Tryz.underlying45 rfl (by omega) btE_length btE_one A k c _ hl1.out rfl (HO1.out.touch0 tb)
    (some ⟨wr.heap.size+1,0,none⟩) 1 1 [p1] rfl rfl hrd (by omega) (by omega) ?_
   intro A' c' w1 hown ht hf
   rw [World.size_alloc,World.size_alloc] at hf
   have hlA:=HO1.out.lt
   have hlB:=HO2.out.lt
   have hWr:=HT.out.size
   have hbq:=ht.blk (((Touch.refl [] (wr.alloc (.cells #[.string p1,.string p2] 39))).alloc (.cells #[.string p1] 9)).blk HTa.out.2 (by simp)) (fun q=>by have:=hlA _ q;omega)
   obtain ⟨g0,g1,_,_⟩:=blk2 hbq
   have hob:OwnK 9 1 btE w1 B d ((on.take k).map (·.2)):=(HO2.out.touch0 tb).touch ht (fun b hb hm=>(HF1.out b hm).2 hb)
   have hsz:=ht.size
   rw [World.size_alloc,World.size_alloc] at hsz
   have HX:=lh (And.intro hown (And.intro hob (And.intro ((HT.out.trans0 tb).trans ht (fun b hb=>.inr (HF1.out b hb).1)) (And.intro hf (And.intro hlB (And.intro hlA (And.intro hWr hsz)))))))
   clear hown ht hf hbq hob hlA hlB tb hrd hWr hsz
   go_wp2_with (at_builtin;refine stop ?_)
   refine go ?_
   have tc:=(Touch.refl [] w1).alloc (.cells #[.string p2] 9)
   refine wpList_appK (enc:=btE) rfl (.tmp 37) (.tmp 40) 45 rfl 9 _ 1 16 info_str5 Tryz.underlying45 rfl (by omega) btE_length btE_one B k d _ hl2.out rfl (HX.out.2.1.touch0 tc)
    (some ⟨w1.heap.size,0,none⟩) 1 1 [p2] rfl rfl (RdK.one (enc:=btE) w1 9 p2 _ rfl) (by omega) (by omega) ?_
   intro B' d' w2 hown2 ht2 hf2
   rw [World.size_alloc] at hf2
   have HY:=lh (And.intro hown2 (And.intro ht2 hf2))
   clear hown2 ht2 hf2 tc
   go_wp2_with fail
   go_roundw
   case rel =>
    obtain ⟨hown2,ht2,hf2⟩:=HY.out
    obtain ⟨hown,hob,hT1,hf,hlB,hlA,hWr,hsz⟩:=HX.out
    have tc:=(Touch.refl [] w1).alloc (.cells #[.string p2] 9)
    have hA'B:∀ b∈fpo A',W.heap.size<=b/\b∉fpo B/\b < w1.heap.size:=fun b hb=>by
     refine ⟨?_, ?_,hown.lt b hb⟩
     ·rcases hf b hb with q | q
      ·exact (HF1.out b q).1
      ·omega
     ·rcases hf b hb with q | q
      ·exact (HF1.out b q).2
      ·intro q2;have:=hlB b q2;omega
    refine ⟨k+1,A',c',B',d',by omega,by go_num,rfl,rfl,lh ?_,lh (by rw [hn2.out];exact hown2),lh (fun b hb=>⟨(hA'B b hb).1,fun q => ?_⟩),lh (fun b hb => ?_),lh ((hT1.trans0 tc).trans ht2 (fun b hb=>.inr (HF2.out b hb)))⟩
    ·rw [hn1.out]
     exact (hown.touch0 tc).touch ht2 (fun b hb hm=>(hA'B b hb).2.1 hm)
    ·rcases hf2 b q with z | z
     ·exact (hA'B b hb).2.1 z
     ·have:=(hA'B b hb).2.2;omega
    ·rcases hf2 b hb with z | z
     ·exact HF2.out b z
     ·have:=hT1.size;omega
   case measure=>simp [intOf];omega
  ·obtain rfl:k=on.length:=by omega
   have hO1:=HO1.out
   have hO2:=HO2.out
   rw [List.take_length] at hO1 hO2
   obtain ⟨n1,hn1⟩:∃ n1,n1=on.map (·.1):=⟨_,rfl⟩
   obtain ⟨n2',hn2⟩:∃ n2,n2=on.map (·.2):=⟨_,rfl⟩
   rw [<- hn1] at hO1
   rw [<- hn2] at hO2
   have hn1l:n1.length=on.length:=by rw [hn1,List.length_map]
   have hn2l:n2'.length=on.length:=by rw [hn2,List.length_map]
   obtain ⟨p0,_⟩:=blk16 (HT.out.blk HBP.out.1 (by simp))
   obtain ⟨qa0,qa1,_,_⟩:=blk2 (HT.out.blk HBP.out.2.1 (by simp))
   obtain ⟨qb0,qb1,_,_⟩:=blk2 (HT.out.blk HBP.out.2.2 (by simp))
   have td:=(Touch.refl [] wr).drew
   have qa0d:=td.cell qa0 (by simp)
   have qb0d:=td.cell qb0 (by simp)
   have Hpl1:=lh fun w' (t:Touch [] wr w')=>places_any SA sc sn csA HAS.out.1.symm (by have:=HAS.out.1;have:=HLN.out.2.2.1;omega) A c on.length n1 hn1l (by omega) w' (HAS.out.2.1.touch0 (HT.out.trans0 t)) (RdK.touch0 hO1.rd t)
   have Hpl2:=lh fun w' (t:Touch [] wr w')=>places_any SB tc tn csB HBS.out.1.symm (by have:=HBS.out.1;have:=HLN.out.2.2.2;omega) B d on.length n2' hn2l (by omega) w' (HBS.out.2.1.touch0 (HT.out.trans0 t)) (RdK.touch0 hO2.rd t)
   have HTD:=lh td
   have HN:=lh (And.intro hn1 (And.intro hn2 (And.intro hn1l hn2l)))
   obtain ⟨W1,hW1⟩:∃ W1,W1=wr:=⟨_,rfl⟩
   subst hW1
   clear hO1 hO2 hn1 hn2 hn1l hn2l HO1 HO2 HF1 HF2 td hlt HON p0 qa0 qa1 qb0 qb1
   go_wp2_with fail
   go_region_held3 (fun w'=>w'.cell? ⟨w.heap.size+1,0,none⟩=some (.slice SA sn sc)/\w'.cell? ⟨w.heap.size+1+1,0,none⟩=some (.slice SB tn tc)) (first | exact ⟨qa0d,qb0d⟩ | exact ⟨ra0,rb0⟩ | exact ⟨sa0,sb0⟩) (first
    | (go_at_call 133;refine (Hpl2.out _ (HTD.out.trans0 M1.out.t)).mono ?_;rintro e w2 ⟨B1,m2,rfl,M2'⟩;have M2:=lh M2';clear M2';have sa0:=M2.out.t.cell ra0 (by simp);have sb0:=M2.out.t.cell rb0 (by simp))
    | (go_at_call 133;refine (Hpl1.out _ HTD.out).mono ?_;rintro e w1 ⟨A1,m1,rfl,M1'⟩;have M1:=lh M1';clear M1';have ra0:=M1.out.t.cell qa0d (by simp);have rb0:=M1.out.t.cell qb0d (by simp)))
   obtain ⟨at_,hat⟩:∃ at_,at_=placesV csA n1:=⟨_,rfl⟩
   obtain ⟨bt,hbt⟩:∃ bt,bt=placesV csB n2':=⟨_,rfl⟩
   rw [<- hat] at M1
   rw [<- hbt] at M2
   have HATL:=lh (show at_.length=on.length/\∀ i∈at_,i < csA.length from ⟨by rw [hat];unfold placesV;rw [List.length_map];exact HN.out.2.2.1,by rw [hat];exact places_lt HLN.out.1⟩)
   have HBTL:=lh (show bt.length=on.length/\∀ i∈bt,i < csB.length from ⟨by rw [hbt];unfold placesV;rw [List.length_map];exact HN.out.2.2.2,by rw [hbt];exact places_lt HLN.out.2.1⟩)
   have HPE:=lh (show PO=JoinP left csB.length rowsA rowsB at_ bt w by rw [HPO.out,hat,hbt,HN.out.1,HN.out.2.1])
   clear hat hbt HPO
   have HT2:=lh ((HT.out.trans0 HTD.out).trans0 (M1.out.t.trans0 M2.out.t))
   have HRA:=lh (RdK.touch0 M1.out.own.rd M2.out.t)
   have HRB:=lh M2.out.own.rd
   have hmm:=@run_makeMap Tryz.prog
   have qb1:=((HT2.out.alloc (.map #[] 0)).cell (blk2 HBP.out.2.2).2.1 (by simp))
   clear qa0d qb0d ra0 rb0 sa0 sb0 M1 M2 Hpl1 Hpl2 HTD HN
   go_wp2_with fail
   clear hmm qb1
   go_loopw [55] (fun i wr=>∃ (k:Nat) (es:List EN),k<=un/\i=.int .i64 k/\Hid (IdxAt slB w2.heap.size wr w2.heap.size es)/\Hid (IdxIs (okI rowsB bt) (keyI rowsB bt) k es)/\Hid (Touch [] w2 wr)) (fun i _=>un-(intOf i).toNat)
   case atStart=>exact ⟨0,[],by omega,rfl,lh (IdxAt.made slB w2),lh (IdxIs.zero _ _),lh ((Touch.refl _ _).alloc _)⟩
   case round =>
    obtain ⟨k,es,hk,rfl,HIX,HIS,HTw⟩:=hrel
    by_cases hlt:k < un
    ·have hkB:k < rowsB.length:=by rw [<- HBS.out.2.2.1];exact hlt
     have hkS:k < slB.length:=by rw [HBS.out.2.2.2.1.1];exact hkB
     have HTr:=lh (HT2.out.trans0 HTw.out)
     obtain ⟨bd,b1,o1,rfl,hadd,hc⟩:=RdK.cells (RdK.touch0 HBS.out.2.2.2.2 HTr.out) 1 slE_length (by omega) k hkS
     rw [Nat.mul_one] at hadd
     have e0:=hc 0 _ rfl
     rw [Nat.add_zero] at e0
     have hsl:=HBS.out.2.2.2.1.2 k hkS hkB
     have hgr:=HGB.out _ (List.getElem_mem hkB)
     have hsk:slAt slB k=slB[k]:=by unfold slAt;simp [hkS]
     have hrk:rowsB.getD k []=rowsB[k]:=by simp [hkB]
     have hok0:okI rowsB bt k = !nullV (pickV rowsB[k] bt):=by unfold okI;rw [hrk]
     have hky0:keyI rowsB bt k=keyL (pickV rowsB[k] bt):=by unfold keyI;rw [hrk]
     obtain ⟨s,hs⟩:∃ s,s=slB[k]:=⟨_,rfl⟩
     obtain ⟨r,hr⟩:∃ r,r=rowsB[k]:=⟨_,rfl⟩
     rw [<- hs] at e0 hsl hsk
     rw [<- hr] at hsl hgr hok0 hky0
     obtain ⟨A9,n9,c9⟩:=s
     dsimp only at e0 hsl
     obtain ⟨hn9,hv9⟩:=hsl
     have hpl:(pickV r bt).length=on.length:=by unfold pickV;rw [List.length_map];exact HBTL.out.1
     have Hpk:=lh (picked_any A9 c9 n9 r hn9.symm (by rw [hn9,hgr.1];have:=HLN.out.2.2.2;omega) B1 m2 on.length bt HBTL.out.1 (by omega) (by rw [hn9,hgr.1];exact HBTL.out.2) wr (RdK.touch0 hv9 HTr.out) (RdK.touch0 HRB.out HTw.out))
     have Hnl:=lh fun A c w' (hv:ValsAt w' A (pickV r bt))=>null_any A c on.length (pickV r bt) hpl w' hv (by omega)
     have hkp:=fun A c w' (ht:Touch [] W w') (hv:ValsAt w' A (pickV r bt))=>key_pick (w:=W) (at_:=bt) hgr.1 HBTL.out.2 (by rw [HBTL.out.1];omega) hgr.2 A c w' ht hv
     rw [HBTL.out.1,<- hky0] at hkp
     have hkl:(keyI rowsB bt k).length<=1000000:=by
      rw [hky0]
      have:=key_le (pickV r bt) fun v hv=>(hgr.2 v (pick_mem (by rw [hgr.1];exact HBTL.out.2) v hv)).2
      omega
     have Hkp:=lh hkp
     have HSK:=lh hsk
     obtain ⟨K,hK⟩:∃ K,K=keyI rowsB bt k:=⟨_,rfl⟩
     rw [<- hK] at Hkp hkl
     have HK:=lh hK
     obtain ⟨nb,hnb⟩:∃ nb,nb=nullV (pickV r bt):=⟨_,rfl⟩
     rw [<- hnb] at Hnl hok0
     have Hok0:=lh hok0
     have hkn:(k:Int) < (un:Int):=by omega
     clear hc hgr hsk hrk hok0 hky0 hs hr hn9 hv9 hpl hkp hK hnb
     cases nb
     ·by_cases hex:∃ e∈es,e.key=K
      ·obtain ⟨e0',hem,hek⟩:=hex
       obtain ⟨l1,l2,rfl⟩:=List.append_of_mem hem
       subst hek
       have HHIT:=lh fun w' (t:Touch [] wr w')=>(HIX.out.touch0 t).hit e0' hem (by omega) false
       clear hem
       obtain ⟨ek,eA,ec,eix⟩:=e0'
       dsimp only at HHIT Hkp HK hkl
       go_wp2_with fail
       refine Hpk.out.mono ?_
       rintro e w5 ⟨A5,c5,rfl,m5⟩
       have M5:=lh m5
       have Hn5:=lh (Hnl.out A5 c5 w5 m5.own.rd)
       clear m5 Hpk Hnl
       go_wp2_with fail
       refine Hn5.out.mono ?_
       rintro e w6 ⟨rfl,t6⟩
       have HT6:=lh (M5.out.t.trans0 t6)
       have Hk6:=lh (Hkp.out A5 c5 w6 (HTr.out.trans0 HT6.out) (RdK.touch0 M5.out.own.rd t6))
       have HV6:=lh (RdK.touch0 M5.out.own.rd t6)
       clear t6 Hn5
       go_wp2_with fail
       refine Hk6.out.mono ?_
       rintro e w7 ⟨rfl,t7⟩
       have HT7:=lh (HT6.out.trans0 t7)
       have Hk7:=lh (Hkp.out A5 c5 w7 (HTr.out.trans0 HT7.out) (RdK.touch0 HV6.out t7))
       clear t7 Hk6
       go_wp2_with fail
       refine Hk7.out.mono ?_
       rintro e w8 ⟨rfl,t8⟩
       have HT8:=lh (HT7.out.trans0 t8)
       clear t8 Hk7
       go_wp2_with (at_lookup;refine stop ?_)
       refine go ?_
       refine wpList_lookup_is rfl (.tmp 68) (.tmp 70) 191 false rfl _ _ _ rfl rfl (HHIT.out _ HT8.out) ?_
       go_wp2_with (at_builtin;refine stop ?_)
       refine go ?_
       have ta:=(Touch.refl [] w8).alloc (.cells #[.slice A9 n9 c9] 33)
       have hix8:=(HIX.out.touch0 HT8.out).touch0 ta
       have hmem0:(⟨ek,eA,ec,eix⟩:EN)∈l1++⟨ek,eA,ec,eix⟩ :: l2:=by simp
       have hxl:eix.length<=4096:=by
        have:=HIS.out.ix _ hmem0
        dsimp only at this
        rw [this]
        unfold selK
        refine Nat.le_trans (List.length_filter_le _ _) ?_
        rw [List.length_range];omega
       refine wpList_appK (enc:=slE) rfl (.tmp 71) (.tmp 73) 25 rfl 33 _ 1 24 info_r5 Tryz.underlying25 rfl (by omega) slE_length slE_one eA eix.length ec (eix.map (slAt slB)) (by rw [List.length_map]) rfl (hix8.own _ hmem0)
        (some ⟨w8.heap.size,0,none⟩) 1 1 [⟨A9,n9,c9⟩] rfl rfl (RdK.one (enc:=slE) w8 33 ⟨A9,n9,c9⟩ _ rfl) (by omega) (by omega) ?_
       intro A' c' w' hown ht hf
       have hsz8:w2.heap.size<=w8.heap.size:=(HTw.out.trans0 HT8.out).size
       rw [<- HSK.out,show (eix.map (slAt slB))++[slAt slB k]=(eix++[k]).map (slAt slB) by rw [List.map_append];rfl] at hown
       obtain ⟨w'',hrun,hix2,t2⟩:=hix8.put_old (by dsimp only;omega) k A' c' hown ht (fun a ha=>by
        rcases hf a ha with q | q
        ·exact .inl q
        ·exact .inr (by rw [q];exact Nat.le_refl _)) (by rw [World.size_alloc];omega)
       have Hrun:=lh hrun
       have HX:=lh (And.intro hix2 (And.intro ((HTw.out.trans0 HT8.out).trans0 ta |>.trans ht (fun b hb=>.inr ((HIX.out.low _ hmem0 b hb).1))) t2))
       clear hrun hix2 t2 hown ht hf ta hix8 hmem0 hsz8
       go_wp2_with (at_mapUpdate;refine stop ?_)
       refine go ?_
       refine wpList_update_is rfl (.tmp 65) (.tmp 67) (.tmp 74) 191 rfl _ _ _ rfl rfl rfl Hrun.out ?_
       go_wp2_with fail
       go_roundw
       case rel=>exact ⟨k+1,_,by omega,by go_num,lh HX.out.1,lh (HIS.out.put_old (by rw [Hok0.out];rfl) HK.out A' c'),lh (HX.out.2.1.trans HX.out.2.2 (fun b hb=>.inr (by simp at hb;omega)))⟩
       case measure=>simp [intOf];omega
      ·have hno:∀ e∈es,e.key≠K:=fun e he h=>hex ⟨e,he,h⟩
       have HMISS:=lh fun w' (t:Touch [] wr w')=>(HIX.out.touch0 t).miss K (by omega) hno false
       have HNO:=lh hno
       clear hex hno
       go_wp2_with fail
       refine Hpk.out.mono ?_
       rintro e w5 ⟨A5,c5,rfl,m5⟩
       have M5:=lh m5
       have Hn5:=lh (Hnl.out A5 c5 w5 m5.own.rd)
       clear m5 Hpk Hnl
       go_wp2_with fail
       refine Hn5.out.mono ?_
       rintro e w6 ⟨rfl,t6⟩
       have HT6:=lh (M5.out.t.trans0 t6)
       have Hk6:=lh (Hkp.out A5 c5 w6 (HTr.out.trans0 HT6.out) (RdK.touch0 M5.out.own.rd t6))
       have HV6:=lh (RdK.touch0 M5.out.own.rd t6)
       clear t6 Hn5
       go_wp2_with fail
       refine Hk6.out.mono ?_
       rintro e w7 ⟨rfl,t7⟩
       have HT7:=lh (HT6.out.trans0 t7)
       have Hk7:=lh (Hkp.out A5 c5 w7 (HTr.out.trans0 HT7.out) (RdK.touch0 HV6.out t7))
       clear t7 Hk6
       go_wp2_with fail
       refine Hk7.out.mono ?_
       rintro e w8 ⟨rfl,t8⟩
       have HT8:=lh (HT7.out.trans0 t8)
       clear t8 Hk7
       go_wp2_with (at_lookup;refine stop ?_)
       refine go ?_
       refine wpList_lookup_is rfl (.tmp 68) (.tmp 70) 191 false rfl _ _ _ rfl rfl (HMISS.out _ HT8.out) ?_
       go_wp2_with (at_builtin;refine stop ?_)
       refine go ?_
       have ta:=(Touch.refl [] w8).alloc (.cells #[.slice A9 n9 c9] 33)
       have hix8:=(HIX.out.touch0 HT8.out).touch0 ta
       refine wpList_appK (enc:=slE) rfl (.tmp 71) (.tmp 73) 25 rfl 33 _ 1 24 info_r5 Tryz.underlying25 rfl (by omega) slE_length slE_one none 0 0 [] rfl rfl (OwnK.nil _ _ _ _)
        (some ⟨w8.heap.size,0,none⟩) 1 1 [⟨A9,n9,c9⟩] rfl rfl (RdK.one (enc:=slE) w8 33 ⟨A9,n9,c9⟩ _ rfl) (by omega) (by omega) ?_
       intro A' c' w' hown ht hf
       have hsz8:w2.heap.size<=w8.heap.size:=(HTw.out.trans0 HT8.out).size
       rw [List.nil_append,<- HSK.out] at hown
       obtain ⟨w'',hrun,hix2,t2⟩:=hix8.put_new K (by omega) HNO.out k A' c' hown ht (fun a ha=>by
        rcases hf a ha with q | q
        ·simp [fpo] at q
        ·rw [q];exact Nat.le_refl _) (by rw [World.size_alloc];omega)
       have Hrun:=lh hrun
       have HX:=lh (And.intro hix2 (And.intro (((HTw.out.trans0 HT8.out).trans0 ta).trans0 ht) t2))
       clear hrun hix2 t2 hown ht hf ta hix8 hsz8
       go_wp2_with (at_mapUpdate;refine stop ?_)
       refine go ?_
       refine wpList_update_is rfl (.tmp 65) (.tmp 67) (.tmp 74) 191 rfl _ _ _ rfl rfl rfl Hrun.out ?_
       go_wp2_with fail
       go_roundw
       case rel=>exact ⟨k+1,_,by omega,by go_num,lh HX.out.1,lh (by have:=HIS.out.put_new (by rw [Hok0.out];rfl) (by rw [<- HK.out];exact HNO.out) A' c';rw [<- HK.out] at this;exact this),lh (HX.out.2.1.trans HX.out.2.2 (fun b hb=>.inr (by simp at hb;omega)))⟩
       case measure=>simp [intOf];omega
     ·go_wp2_with fail
      refine Hpk.out.mono ?_
      rintro e w5 ⟨A5,c5,rfl,m5⟩
      have M5:=lh m5
      have Hn5:=lh (Hnl.out A5 c5 w5 m5.own.rd)
      clear m5 Hpk Hnl
      go_wp2_with fail
      refine Hn5.out.mono ?_
      rintro e w6 ⟨rfl,t6⟩
      have HT6:=lh (M5.out.t.trans0 t6)
      clear t6 Hn5
      go_wp2_with fail
      go_roundw
      case rel=>exact ⟨k+1,es,by omega,by go_num,lh (HIX.out.touch0 HT6.out),lh (HIS.out.skip (by rw [Hok0.out];rfl)),lh (HTw.out.trans0 HT6.out)⟩
      case measure=>simp [intOf];omega
    ·obtain rfl:k=un:=by omega
     obtain ⟨W3,hW3⟩:∃ W3,W3=wr:=⟨_,rfl⟩
     subst hW3
     have hra1:=(HT2.out.trans0 HTw.out).cell (blk2 HBP.out.2.1).2.1 (by simp)
     have HP16:=lh (blk16 ((HT2.out.trans0 HTw.out).blk HBP.out.1 (by simp)))
     have hIS:IdxIs (okI rowsB bt) (keyI rowsB bt) rowsB.length es:=by rw [<- HBS.out.2.2.1];exact HIS.out
     have HISB:=lh hIS
     clear hIS HIS hlt hk
     go_wp2_with fail
     clear hra1
     go_loopw [18,79] (fun o i w4=>∃ (k q:Nat) (B:Option Addr) (c:Nat),k<=rn/\q<=4096/\i=.int .i64 k/\o=.slice B q c/\Hid (OwnR 33 0 w4 B c (joinL left csB.length (rowsA.take k) rowsB at_ bt))/\Hid (q=(joinL left csB.length (rowsA.take k) rowsB at_ bt).length)/\Hid (∀ b∈fpo B,W3.heap.size<=b)/\Hid (Touch [] W3 w4)) (fun _ i _=>rn-(intOf i).toNat)
     case atStart=>exact ⟨0,0,none,0,by omega,by omega,rfl,rfl,lh (OwnR.nil _ _ _),lh rfl,lh (by simp [fpo]),lh (Touch.refl _ _)⟩
     case round =>
      obtain ⟨k,q,B,c,hk,hq,rfl,rfl,HOR,HPQ,HBF,HTq⟩:=hrel
      by_cases hlt:k < rn
      ·have hkA:k < rowsA.length:=by rw [<- HAS.out.2.2.1];exact hlt
       have hkS:k < slA.length:=by rw [HAS.out.2.2.2.1.1];exact hkA
       have HT3r:=lh (HT2.out.trans0 HTw.out)
       have HTr:=lh (HT3r.out.trans0 HTq.out)
       obtain ⟨bd,b1,o1,rfl,hadd,hc⟩:=RdK.cells (RdK.touch0 HAS.out.2.2.2.2 HTr.out) 1 slE_length (by omega) k hkS
       rw [Nat.mul_one] at hadd
       have e0:=hc 0 _ rfl
       rw [Nat.add_zero] at e0
       have hsl:=HAS.out.2.2.2.1.2 k hkS hkA
       have hgr:=HGA.out _ (List.getElem_mem hkA)
       have hjn0:=joinL_snoc left csB.length rowsA rowsB at_ bt k hkA
       obtain ⟨s,hs⟩:∃ s,s=slA[k]:=⟨_,rfl⟩
       obtain ⟨r,hr⟩:∃ r,r=rowsA[k]:=⟨_,rfl⟩
       rw [<- hs] at e0 hsl
       rw [<- hr] at hsl hgr hjn0
       obtain ⟨A6,n6,c6⟩:=s
       dsimp only at e0 hsl
       obtain ⟨hn9,hv9⟩:=hsl
       have HR6:=lh (And.intro hn9.symm (And.intro (show n6<=16 by rw [hn9,hgr.1];exact HLN.out.2.2.1) fun w' (t:Touch [] W3 w')=>(RdK.touch0 hv9 (HT3r.out.trans0 t):ValsAt w' A6 r)))
       have hpl:(pickV r at_).length=on.length:=by unfold pickV;rw [List.length_map];exact HATL.out.1
       have Hpk:=lh (picked_any A6 c6 n6 r hn9.symm (by have:=HR6.out.2.1;omega) A1 m1 on.length at_ HATL.out.1 (by omega) (by rw [hn9,hgr.1];exact HATL.out.2) wr (RdK.touch0 hv9 HTr.out) (RdK.touch0 HRA.out (HTw.out.trans0 HTq.out)))
       have Hnl:=lh fun A c w' (hv:ValsAt w' A (pickV r at_))=>null_any A c on.length (pickV r at_) hpl w' hv (by omega)
       have hkp:=fun A c w' (ht:Touch [] W w') (hv:ValsAt w' A (pickV r at_))=>key_pick (w:=W) (at_:=at_) hgr.1 HATL.out.2 (by rw [HATL.out.1];omega) hgr.2 A c w' ht hv
       rw [HATL.out.1] at hkp
       have hkl:(keyL (pickV r at_)).length<=1000000:=by
        have:=key_le (pickV r at_) fun v hv=>(hgr.2 v (pick_mem (by rw [hgr.1];exact HATL.out.2) v hv)).2
        omega
       have Hkp:=lh hkp
       obtain ⟨K,hK⟩:∃ K,K=keyL (pickV r at_):=⟨_,rfl⟩
       rw [<- hK] at Hkp hkl
       obtain ⟨nb,hnb⟩:∃ nb,nb=nullV (pickV r at_):=⟨_,rfl⟩
       rw [<- hnb] at Hnl
       have hfi:foundI rowsB bt at_ r=if nb=true then [] else selK (okI rowsB bt) (keyI rowsB bt) rowsB.length K:=by unfold foundI;rw [hnb,hK]
       have HFI:=lh hfi
       have HJN0:=lh hjn0
       obtain ⟨PR,hPR⟩:∃ PR,PR=joinL left csB.length (rowsA.take k) rowsB at_ bt:=⟨_,rfl⟩
       rw [<- hPR] at HOR HPQ HJN0
       have HPR:Hid (PR.length=q):=lh HPQ.out.symm
       have hkn:(k:Int) < (rn:Int):=by omega
       clear hc hgr hs hr hn9 hv9 hpl hkp hK hnb hfi hjn0 hPR
       cases nb
       ·by_cases hex:∃ e∈es,e.key=K
        ·obtain ⟨e0',hem,hek⟩:=hex
         subst hek
         have HHIT:=lh fun w' (t:Touch [] W3 w')=>(HIX.out.touch0 t).hit e0' hem (by omega) false
         have hix:=HISB.out.ix e0' hem
         have hne:=HISB.out.some e0' hem
         have hlow:=HIX.out.own e0' hem
         obtain ⟨ek,eA,ec,eix⟩:=e0'
         dsimp only at HHIT Hkp hkl hix hne hlow HFI
         have hfx:foundI rowsB bt at_ r=eix:=by rw [HFI.out,if_neg (by simp),<- hix]
         have hxl:eix.length<=4096:=by
          rw [hix];unfold selK
          refine Nat.le_trans (List.length_filter_le _ _) ?_
          rw [List.length_range];omega
         obtain ⟨fn,hfn⟩:∃ fn,fn=eix.length:=⟨_,rfl⟩
         rw [<- hfn] at HHIT hxl
         have hfnz:fn≠0:=by rw [hfn];intro z;exact hne (List.eq_nil_of_length_eq_zero z)
         have hxlt:∀ i∈eix,i < rowsB.length:=by rw [hix];exact selK_lt
         obtain ⟨FS,hFS⟩:∃ FS,FS=eix.map (slAt slB):=⟨_,rfl⟩
         obtain ⟨FR,hFR⟩:∃ FR,FR=eix.map fun i=>rowsB.getD i []:=⟨_,rfl⟩
         have HFS:=lh (show FS.length=fn/\FS.length=FR.length/\(∀ w',Touch [] W3 w'->∀ i (h1:i < FS.length) (h2:i < FR.length),FS[i].n=FR[i].length/\ValsAt w' FS[i].A FR[i])/\(∀ w',Touch [] W3 w'->RdK slE w' eA FS)/\∀ o∈FR,o.length<=1000 from
          ⟨by rw [hFS,hfn,List.length_map],by rw [hFS,hFR,List.length_map,List.length_map],fun w' t=>by rw [hFS,hFR];exact ((HBS.out.2.2.2.1.touch (HT3r.out.trans0 t) (by simp)).pick eix hxlt).2,fun w' t=>by rw [hFS];exact RdK.touch0 hlow.rd t,fun o ho=>by
           rw [hFR] at ho
           obtain ⟨i,hi,rfl⟩:=List.mem_map.1 ho
           have hib:=hxlt i hi
           have:=(HGB.out _ (List.getElem_mem hib)).1
           have:=HLN.out.2.2.2
           simp [hib];omega⟩)
         have HJN:=lh (show joinL left csB.length (rowsA.take (k+1)) rowsB at_ bt=PR++FR.map fun o=>r++o by
          rw [HJN0.out];congr 2;unfold foundR;rw [hfx,if_neg (fun z=>hne z.1),hFR])
         have hfb:((fn:Int)==0)=false:=by rw [beq_eq_false_iff_ne];omega
         clear hem hix hne hlow hfx hfn hFS hFR hxlt HJN0 HFI
         go_wp2_with fail
         refine Hpk.out.mono ?_
         rintro e w5 ⟨A5,c5,rfl,m5⟩
         have M5:=lh m5
         have Hn5:=lh (Hnl.out A5 c5 w5 m5.own.rd)
         clear m5 Hpk Hnl
         go_wp2_with fail
         refine Hn5.out.mono ?_
         rintro e w6 ⟨rfl,t6⟩
         have HT6:=lh (M5.out.t.trans0 t6)
         have Hk6:=lh (Hkp.out A5 c5 w6 (HTr.out.trans0 HT6.out) (RdK.touch0 M5.out.own.rd t6))
         clear t6 Hn5
         go_wp2_with fail
         refine Hk6.out.mono ?_
         rintro e w7 ⟨rfl,t7⟩
         have HT4:=lh (HT6.out.trans0 t7)
         clear t7 Hk6
         go_wp2_with (at_lookup;refine stop ?_)
         refine go ?_
         refine wpList_lookup_is rfl (.tmp 89) (.tmp 91) 191 false rfl _ _ _ rfl rfl (HHIT.out _ (HTq.out.trans0 HT4.out)) ?_
         go_wp2_with fail
         go_loopw [18,108] (fun o i w4=>∃ (j q2:Nat) (B:Option Addr) (c:Nat),j<=fn/\q2<=9000/\i=.int .i64 j/\o=.slice B q2 c/\Hid (OwnR 33 0 w4 B c (PR++(FR.take j).map fun o=>r++o))/\Hid (q2=q+j)/\Hid (∀ b∈fpo B,W3.heap.size<=b)/\Hid (Touch [] W3 w4)) (fun _ i _=>fn-(intOf i).toNat)
         case atStart=>exact ⟨0,q,B,c,by omega,by omega,rfl,rfl,lh (by rw [List.take_zero,List.map_nil,List.append_nil];exact HOR.out.touch0 HT4.out),lh (by omega),HBF,lh (HTq.out.trans0 HT4.out)⟩
         case round =>
          obtain ⟨j,q2,B,c,hj,hq2,rfl,rfl,HOQ,HQ2,HBQ,HT5⟩:=hrel
          by_cases hlj:j < fn
          ·have hjS:j < FS.length:=by rw [HFS.out.1];exact hlj
           have hjR:j < FR.length:=by rw [<- HFS.out.2.1];exact hjS
           obtain ⟨ad,b1,o1,rfl,hadd,hc⟩:=RdK.cells (HFS.out.2.2.2.1 wr (by exact HT5.out)) 1 slE_length (by omega) j hjS
           rw [Nat.mul_one] at hadd
           have e0:=hc 0 _ rfl
           rw [Nat.add_zero] at e0
           have hsl:=HFS.out.2.2.1 wr (by exact HT5.out) j hjS hjR
           have hol:=HFS.out.2.2.2.2 _ (List.getElem_mem hjR)
           have htk:=List.take_succ_eq_append_getElem hjR
           obtain ⟨s,hs⟩:∃ s,s=FS[j]:=⟨_,rfl⟩
           obtain ⟨o,ho⟩:∃ o,o=FR[j]:=⟨_,rfl⟩
           rw [<- hs] at e0 hsl
           rw [<- ho] at hsl hol htk
           obtain ⟨A7,n7,c7⟩:=s
           dsimp only at e0 hsl
           have hcc:=concatV_any A6 A7 n6 n7 c6 c7 r o HR6.out.1 hsl.1.symm (by have:=HR6.out.2.1;omega) (by omega) wr (HR6.out.2.2 wr HT5.out) hsl.2
           obtain ⟨M,hM⟩:∃ M,M=(r++o).length:=⟨_,rfl⟩
           rw [<- hM] at hcc
           have Hcc:=lh hcc
           have HM:=lh hM
           have Htk:=lh htk
           have hjn:(j:Int) < (fn:Int):=by omega
           clear hcc hM htk hsl hs ho hc
           go_wp2_with fail
           refine Hcc.out.mono ?_
           rintro e w7 ⟨A8,c8,rfl,m8⟩
           have M8:=lh m8
           clear m8 Hcc
           go_wp2_with (at_builtin;refine stop ?_)
           refine go ?_
           have hBlt:=HOQ.out.lt
           have hs7:=M8.out.t.size
           have HML:=lh (show (PR++(FR.take j).map fun o=>r++o).length=q2 by rw [List.length_append,List.length_map,List.length_take,HPR.out,HQ2.out];omega)
           refine wpList_appR rfl (.tmp 112) (.tmp 117) 25 rfl 33 info_r5 Tryz.underlying25 0 B q2 c _ HML.out rfl (HOQ.out.touch0 M8.out.t) A8 c8 (r++o) M8.out.own.rd
            (fun b hb=>⟨fun z=>by have:=hBlt b z;have:=M8.out.f b hb;omega,M8.out.own.lt b hb,Nat.zero_le _⟩) 1 rfl (by omega) (by rw [HM.out]) ?_
           intro B' c' w' hown ht hf
           have HX:=lh (And.intro hown (And.intro (((HT5.out.trans0 M8.out.t).alloc _).trans ht (fun b hb=>.inr (HBQ.out b hb))) hf))
           clear hown ht hf hBlt hs7
           go_wp2_with fail
           go_roundw
           case rel =>
            obtain ⟨hown,ht,hf⟩:=HX.out
            refine ⟨j+1,q2+1,B',c',by omega,by have:=HQ2.out;omega,by go_num,by rfl,lh (by rw [Htk.out,List.map_append,<- List.append_assoc];exact hown),lh (by have:=HQ2.out;omega),lh (fun b hb => ?_),lh ht⟩
            rcases hf b hb with z | z
            ·exact HBQ.out b z
            ·have:=HT5.out.size;have:=M8.out.t.size;omega
           case measure=>simp [intOf];omega
          ·obtain rfl:j=fn:=by omega
           have HOE:Hid (OwnR 33 0 wr B c (joinL left csB.length (rowsA.take (k+1)) rowsB at_ bt)):=lh (by
            have:=HOQ.out
            rwa [<- HFS.out.1,HFS.out.2.1,List.take_length,<- HJN.out] at this)
           have HQE:Hid (q2=(joinL left csB.length (rowsA.take (k+1)) rowsB at_ bt).length):=lh (by
            rw [HJN.out,List.length_append,List.length_map,<- HFS.out.2.1,HFS.out.1,HPR.out,HQ2.out])
           by_cases hbig:4096 < q2
           ·have hbg:4096 < (q2:Int):=by omega
            have HB:=lh (show 4096 < (joinL left csB.length rowsA rowsB at_ bt).length by
             have:=joinL_le left csB.length rowsA rowsB at_ bt (k+1);have:=HQE.out;omega)
            go_wp2_with fail
            rw [HPE.out]
            refine ⟨((HT0.out.trans0 HT2.out).trans0 HTw.out).trans0 HT5.out, ?_⟩
            rw [if_pos HB.out]
            rfl
           ·have hbg:(4096 < (q2:Int))=False:=by simp;omega
            go_wp2_with fail
            go_roundw
            case rel=>exact ⟨k+1,q2,B,c,by omega,by omega,by go_num,rfl,HOE,HQE,HBQ,HT5⟩
            case measure=>simp [intOf];omega
        ·have hno:∀ e∈es,e.key≠K:=fun e he h=>hex ⟨e,he,h⟩
         have HMISS:=lh fun w' (t:Touch [] W3 w')=>(HIX.out.touch0 t).miss K (by omega) hno false
         have hfx:foundI rowsB bt at_ r=[]:=by rw [HFI.out,if_neg (by simp)];exact HISB.out.none_ hno
         clear hex hno
         by_cases hkk:kk=5
         ·have hf1:foundR left csB.length rowsB bt at_ r=[List.replicate csB.length (⟨0,0,⟨#[]⟩⟩:VD)]:=by
           unfold foundR
           rw [hfx,HLF.out,decide_eq_true hkk,if_pos ⟨rfl,rfl⟩]
          have hkq:(kk==5)=true:=by rw [hkk];rfl
          have HJN:=lh (show joinL left csB.length (rowsA.take (k+1)) rowsB at_ bt=PR++[r++List.replicate csB.length (⟨0,0,⟨#[]⟩⟩:VD)] by
           rw [HJN0.out,hf1];rfl)
          clear hfx hf1 hkk HJN0 HFI
          go_wp2_with fail
          refine Hpk.out.mono ?_
          rintro e w5 ⟨A5,c5,rfl,m5⟩
          have M5:=lh m5
          have Hn5:=lh (Hnl.out A5 c5 w5 m5.own.rd)
          clear m5 Hpk Hnl
          go_wp2_with fail
          refine Hn5.out.mono ?_
          rintro e w6 ⟨rfl,t6⟩
          have HT6:=lh (M5.out.t.trans0 t6)
          have Hk6:=lh (Hkp.out A5 c5 w6 (HTr.out.trans0 HT6.out) (RdK.touch0 M5.out.own.rd t6))
          clear t6 Hn5
          go_wp2_with fail
          refine Hk6.out.mono ?_
          rintro e w7 ⟨rfl,t7⟩
          have HT4:=lh (HT6.out.trans0 t7)
          clear t7 Hk6
          have hp0:=(HTq.out.trans0 HT4.out).cell HP16.out.1 (by simp)
          have hqb:=(blk2 ((HT3r.out.trans0 (HTq.out.trans0 HT4.out)).blk HBP.out.2.2 (by simp))).1
          have hmk:=fun w'=>run_mkV tn (by have:=HBS.out.1;have:=HLN.out.2.2.2;omega) w'
          go_wp2_with (at_lookup;refine stop ?_)
          refine go ?_
          refine wpList_lookup_is rfl (.tmp 89) (.tmp 91) 191 false rfl _ _ _ rfl rfl (HMISS.out _ (HTq.out.trans0 HT4.out)) ?_
          obtain ⟨W8,hW8⟩:∃ W8,W8=w7.alloc (.cells (madeCells #[.int .i64 0,.int .i64 0,.string ⟨#[]⟩] (tn*3)) 31):=⟨_,rfl⟩
          have hv8:=vals_made tn w7
          have t8:=(Touch.refl [] w7).alloc (.cells (madeCells #[.int .i64 0,.int .i64 0,.string ⟨#[]⟩] (tn*3)) 31)
          rw [<- hW8] at hv8 t8
          have hs8:W8.heap.size=w7.heap.size+1:=by rw [hW8,World.size_alloc]
          have ta:=(Touch.refl [] W8).alloc (.cells #[.slice (some ⟨w7.heap.size,0,none⟩) tn tn] 33)
          have hrow:=cell_blk (i:=0) (v:=.slice (some ⟨w7.heap.size,0,none⟩) tn tn) (heap_alloc_new W8 (.cells #[.slice (some ⟨w7.heap.size,0,none⟩) tn tn] 33)) rfl
          obtain ⟨W9,hW9⟩:∃ W9,W9=W8.alloc (.cells #[.slice (some ⟨w7.heap.size,0,none⟩) tn tn] 33):=⟨_,rfl⟩
          rw [<- hW9] at ta hrow
          rw [hs8] at hrow
          have HT9:=lh (HTq.out.trans0 (HT4.out.trans0 (t8.trans0 ta)))
          have HV9:=lh (RdK.touch0 hv8 ta:ValsAt W9 (some ⟨w7.heap.size,0,none⟩) (List.replicate tn (⟨0,0,⟨#[]⟩⟩:VD)))
          have HT79:=lh (HT4.out.trans0 (t8.trans0 ta))
          have HW9:=lh (And.intro hW8 hW9)
          have hcc:=concatV_any A6 (some ⟨w7.heap.size,0,none⟩) n6 tn c6 tn r (List.replicate tn (⟨0,0,⟨#[]⟩⟩:VD)) HR6.out.1 (by rw [List.length_replicate]) (by have:=HR6.out.2.1;omega) (by have:=HBS.out.1;have:=HLN.out.2.2.2;omega) W9 (HR6.out.2.2 W9 HT9.out) HV9.out
          obtain ⟨M,hM⟩:∃ M,M=(r++List.replicate tn (⟨0,0,⟨#[]⟩⟩:VD)).length:=⟨_,rfl⟩
          rw [<- hM] at hcc
          have Hcc:=lh hcc
          have HM:=lh hM
          clear hv8 t8 ta hcc hM hW8 hW9
          go_wp2_with fail
          rw [<- HW9.out.1,<- HW9.out.2]
          clear hmk hs8
          refine wp_loop_rounds 2 ?_
          rw [rounds_succ]
          go_wp2_with fail
          refine Hcc.out.mono ?_
          rintro e w10 ⟨A8,c8,rfl,m8⟩
          have M8:=lh m8
          clear m8 Hcc
          go_wp2_with (at_builtin;refine stop ?_)
          refine go ?_
          have hBlt:=HOR.out.lt
          have hs7:=HT79.out.size
          refine wpList_appR rfl (.tmp 112) (.tmp 117) 25 rfl 33 info_r5 Tryz.underlying25 0 B q c PR HPR.out rfl (HOR.out.touch0 (HT79.out.trans0 M8.out.t)) A8 c8 (r++List.replicate tn (⟨0,0,⟨#[]⟩⟩:VD)) M8.out.own.rd
           (fun b hb=>⟨fun z=>by have:=hBlt b z;have:=M8.out.f b hb;omega,M8.out.own.lt b hb,Nat.zero_le _⟩) 1 rfl (by omega) (by rw [HM.out]) ?_
          intro B' c' w' hown ht hf
          have hsz:=M8.out.t.size
          have hsq:=HTq.out.size
          have HX:=lh (And.intro (show OwnR 33 0 w' B' c' (joinL left csB.length (rowsA.take (k+1)) rowsB at_ bt) by rw [HJN.out,<- HBS.out.1];exact hown) (And.intro (((HTq.out.trans0 (HT79.out.trans0 M8.out.t)).alloc _).trans ht (fun b hb=>.inr (HBF.out b hb))) (fun b (hb:b∈fpo B')=>show W3.heap.size<=b by
           rcases hf b hb with z | z
           ·exact HBF.out b z
           ·omega)))
          have HQE:Hid (q+1=(joinL left csB.length (rowsA.take (k+1)) rowsB at_ bt).length):=lh (by rw [HJN.out,List.length_append,HPR.out];rfl)
          clear hown ht hf hBlt hs7 hsz hsq hrow
          by_cases hbig:4096 < q+1
          ·have hbg:4096 < ((q:Int)+1):=by omega
           have HB:=lh (show 4096 < (joinL left csB.length rowsA rowsB at_ bt).length by
            have:=joinL_le left csB.length rowsA rowsB at_ bt (k+1);have:=HQE.out;omega)
           go_wp2_with fail
           rw [rounds_succ]
           go_wp2_with fail
           rw [HPE.out]
           refine ⟨((HT0.out.trans0 HT2.out).trans0 HTw.out).trans0 HX.out.2.1, ?_⟩
           rw [if_pos HB.out]
           rfl
          ·have hbg:(4096 < ((q:Int)+1))=False:=by simp;omega
           go_wp2_with fail
           rw [rounds_succ]
           go_wp2_with fail
           go_roundw
           case rel=>exact ⟨k+1,q+1,B',c',by omega,by omega,by go_num,rfl,lh HX.out.1,HQE,lh HX.out.2.2,lh HX.out.2.1⟩
           case measure=>simp [intOf];omega
         ·have HLF2:=lh (HLF.out.trans (decide_eq_false hkk))
          have hkq:(kk==5)=false:=by rw [beq_eq_false_iff_ne];exact hkk
          clear hkk
          obtain ⟨FS,hFS⟩:∃ FS:List SL,FS=[]:=⟨_,rfl⟩
          obtain ⟨FR,hFR⟩:∃ FR:List (List VD),FR=[]:=⟨_,rfl⟩
          have HJN:=lh (show joinL left csB.length (rowsA.take (k+1)) rowsB at_ bt=PR++FR.map fun o=>r++o by
           rw [HJN0.out,hFR];congr 1;unfold foundR;rw [hfx,HLF2.out,if_neg (fun z=>by cases z.2)];rfl)
          have HFS:=lh (show FS.length=0/\FS.length=FR.length/\(∀ w',Touch [] W3 w'->∀ i (h1:i < FS.length) (h2:i < FR.length),FS[i].n=FR[i].length/\ValsAt w' FS[i].A FR[i])/\(∀ w',Touch [] W3 w'->RdK slE w' none FS)/\∀ o∈FR,o.length<=1000 from
           ⟨by rw [hFS];rfl,by rw [hFS,hFR];rfl,fun w' t i h1=>absurd h1 (by rw [hFS];simp),fun w' t=>by rw [hFS];exact RdK.nil _ _ _,fun o ho=>by rw [hFR] at ho;simp at ho⟩)
          clear hfx hFS hFR HJN0 HFI
          go_wp2_with fail
          refine Hpk.out.mono ?_
          rintro e w5 ⟨A5,c5,rfl,m5⟩
          have M5:=lh m5
          have Hn5:=lh (Hnl.out A5 c5 w5 m5.own.rd)
          clear m5 Hpk Hnl
          go_wp2_with fail
          refine Hn5.out.mono ?_
          rintro e w6 ⟨rfl,t6⟩
          have HT6:=lh (M5.out.t.trans0 t6)
          have Hk6:=lh (Hkp.out A5 c5 w6 (HTr.out.trans0 HT6.out) (RdK.touch0 M5.out.own.rd t6))
          clear t6 Hn5
          go_wp2_with fail
          refine Hk6.out.mono ?_
          rintro e w7 ⟨rfl,t7⟩
          have HT4:=lh (HT6.out.trans0 t7)
          have hp0:=(HTq.out.trans0 HT4.out).cell HP16.out.1 (by simp)
          clear t7 Hk6
          go_wp2_with (at_lookup;refine stop ?_)
          refine go ?_
          refine wpList_lookup_is rfl (.tmp 89) (.tmp 91) 191 false rfl _ _ _ rfl rfl (HMISS.out _ (HTq.out.trans0 HT4.out)) ?_
          go_wp2_with fail
          go_loopw [18,108] (fun o i w4=>∃ (j q2:Nat) (B:Option Addr) (c:Nat),j<=0/\q2<=9000/\i=.int .i64 j/\o=.slice B q2 c/\Hid (OwnR 33 0 w4 B c (PR++(FR.take j).map fun o=>r++o))/\Hid (q2=q+j)/\Hid (∀ b∈fpo B,W3.heap.size<=b)/\Hid (Touch [] W3 w4)) (fun _ i _=>0-(intOf i).toNat)
          case atStart=>exact ⟨0,q,B,c,by omega,by omega,rfl,rfl,lh (by rw [List.take_zero,List.map_nil,List.append_nil];exact HOR.out.touch0 HT4.out),lh (by omega),HBF,lh (HTq.out.trans0 HT4.out)⟩
          case round =>
           obtain ⟨j,q2,B,c,hj,hq2,rfl,rfl,HOQ,HQ2,HBQ,HT5⟩:=hrel
           by_cases hlj:j < 0
           ·exact absurd hlj (by omega)
           ·obtain rfl:j=0:=by omega
            have HOE:Hid (OwnR 33 0 wr B c (joinL left csB.length (rowsA.take (k+1)) rowsB at_ bt)):=lh (by
             have hfr:FR=[]:=List.eq_nil_of_length_eq_zero (by rw [<- HFS.out.2.1];exact HFS.out.1)
             have:=HOQ.out
             rw [HJN.out]
             rw [hfr] at this ⊢
             exact this)
            have HQE:Hid (q2=(joinL left csB.length (rowsA.take (k+1)) rowsB at_ bt).length):=lh (by
             rw [HJN.out,List.length_append,List.length_map,<- HFS.out.2.1,HFS.out.1,HPR.out,HQ2.out])
            by_cases hbig:4096 < q2
            ·have hbg:4096 < (q2:Int):=by omega
             have HB:=lh (show 4096 < (joinL left csB.length rowsA rowsB at_ bt).length by
              have:=joinL_le left csB.length rowsA rowsB at_ bt (k+1);have:=HQE.out;omega)
             go_wp2_with fail
             rw [HPE.out]
             refine ⟨((HT0.out.trans0 HT2.out).trans0 HTw.out).trans0 HT5.out, ?_⟩
             rw [if_pos HB.out]
             rfl
            ·have hbg:(4096 < (q2:Int))=False:=by simp;omega
             go_wp2_with fail
             go_roundw
             case rel=>exact ⟨k+1,q2,B,c,by omega,by omega,by go_num,rfl,HOE,HQE,HBQ,HT5⟩
             case measure=>simp [intOf];omega
       ·have hfx:foundI rowsB bt at_ r=[]:=by rw [HFI.out,if_pos rfl]
        by_cases hkk:kk=5
        ·have hf1:foundR left csB.length rowsB bt at_ r=[List.replicate csB.length (⟨0,0,⟨#[]⟩⟩:VD)]:=by
          unfold foundR
          rw [hfx,HLF.out,decide_eq_true hkk,if_pos ⟨rfl,rfl⟩]
         have hkq:(kk==5)=true:=by rw [hkk];rfl
         have HJN:=lh (show joinL left csB.length (rowsA.take (k+1)) rowsB at_ bt=PR++[r++List.replicate csB.length (⟨0,0,⟨#[]⟩⟩:VD)] by
          rw [HJN0.out,hf1];rfl)
         clear hfx hf1 hkk HJN0 HFI
         go_wp2_with fail
         refine Hpk.out.mono ?_
         rintro e w5 ⟨A5,c5,rfl,m5⟩
         have M5:=lh m5
         have Hn5:=lh (Hnl.out A5 c5 w5 m5.own.rd)
         clear m5 Hpk Hnl
         go_wp2_with fail
         refine Hn5.out.mono ?_
         rintro e w6 ⟨rfl,t6⟩
         have HT4:=lh (M5.out.t.trans0 t6)
         obtain ⟨w7,hw7⟩:∃ w7,w7=w6:=⟨_,rfl⟩
         subst hw7
         clear t6 Hn5
         have hp0:=(HTq.out.trans0 HT4.out).cell HP16.out.1 (by simp)
         have hqb:=(blk2 ((HT3r.out.trans0 (HTq.out.trans0 HT4.out)).blk HBP.out.2.2 (by simp))).1
         have hmk:=fun w'=>run_mkV tn (by have:=HBS.out.1;have:=HLN.out.2.2.2;omega) w'
         obtain ⟨W8,hW8⟩:∃ W8,W8=w7.alloc (.cells (madeCells #[.int .i64 0,.int .i64 0,.string ⟨#[]⟩] (tn*3)) 31):=⟨_,rfl⟩
         have hv8:=vals_made tn w7
         have t8:=(Touch.refl [] w7).alloc (.cells (madeCells #[.int .i64 0,.int .i64 0,.string ⟨#[]⟩] (tn*3)) 31)
         rw [<- hW8] at hv8 t8
         have hs8:W8.heap.size=w7.heap.size+1:=by rw [hW8,World.size_alloc]
         have ta:=(Touch.refl [] W8).alloc (.cells #[.slice (some ⟨w7.heap.size,0,none⟩) tn tn] 33)
         have hrow:=cell_blk (i:=0) (v:=.slice (some ⟨w7.heap.size,0,none⟩) tn tn) (heap_alloc_new W8 (.cells #[.slice (some ⟨w7.heap.size,0,none⟩) tn tn] 33)) rfl
         obtain ⟨W9,hW9⟩:∃ W9,W9=W8.alloc (.cells #[.slice (some ⟨w7.heap.size,0,none⟩) tn tn] 33):=⟨_,rfl⟩
         rw [<- hW9] at ta hrow
         rw [hs8] at hrow
         have HT9:=lh (HTq.out.trans0 (HT4.out.trans0 (t8.trans0 ta)))
         have HV9:=lh (RdK.touch0 hv8 ta:ValsAt W9 (some ⟨w7.heap.size,0,none⟩) (List.replicate tn (⟨0,0,⟨#[]⟩⟩:VD)))
         have HT79:=lh (HT4.out.trans0 (t8.trans0 ta))
         have HW9:=lh (And.intro hW8 hW9)
         have hcc:=concatV_any A6 (some ⟨w7.heap.size,0,none⟩) n6 tn c6 tn r (List.replicate tn (⟨0,0,⟨#[]⟩⟩:VD)) HR6.out.1 (by rw [List.length_replicate]) (by have:=HR6.out.2.1;omega) (by have:=HBS.out.1;have:=HLN.out.2.2.2;omega) W9 (HR6.out.2.2 W9 HT9.out) HV9.out
         obtain ⟨M,hM⟩:∃ M,M=(r++List.replicate tn (⟨0,0,⟨#[]⟩⟩:VD)).length:=⟨_,rfl⟩
         rw [<- hM] at hcc
         have Hcc:=lh hcc
         have HM:=lh hM
         clear hv8 t8 ta hcc hM hW8 hW9
         go_wp2_with fail
         rw [<- HW9.out.1,<- HW9.out.2]
         clear hmk hs8
         refine wp_loop_rounds 2 ?_
         rw [rounds_succ]
         go_wp2_with fail
         refine Hcc.out.mono ?_
         rintro e w10 ⟨A8,c8,rfl,m8⟩
         have M8:=lh m8
         clear m8 Hcc
         go_wp2_with (at_builtin;refine stop ?_)
         refine go ?_
         have hBlt:=HOR.out.lt
         have hs7:=HT79.out.size
         refine wpList_appR rfl (.tmp 112) (.tmp 117) 25 rfl 33 info_r5 Tryz.underlying25 0 B q c PR HPR.out rfl (HOR.out.touch0 (HT79.out.trans0 M8.out.t)) A8 c8 (r++List.replicate tn (⟨0,0,⟨#[]⟩⟩:VD)) M8.out.own.rd
          (fun b hb=>⟨fun z=>by have:=hBlt b z;have:=M8.out.f b hb;omega,M8.out.own.lt b hb,Nat.zero_le _⟩) 1 rfl (by omega) (by rw [HM.out]) ?_
         intro B' c' w' hown ht hf
         have hsz:=M8.out.t.size
         have hsq:=HTq.out.size
         have HX:=lh (And.intro (show OwnR 33 0 w' B' c' (joinL left csB.length (rowsA.take (k+1)) rowsB at_ bt) by rw [HJN.out,<- HBS.out.1];exact hown) (And.intro (((HTq.out.trans0 (HT79.out.trans0 M8.out.t)).alloc _).trans ht (fun b hb=>.inr (HBF.out b hb))) (fun b (hb:b∈fpo B')=>show W3.heap.size<=b by
          rcases hf b hb with z | z
          ·exact HBF.out b z
          ·omega)))
         have HQE:Hid (q+1=(joinL left csB.length (rowsA.take (k+1)) rowsB at_ bt).length):=lh (by rw [HJN.out,List.length_append,HPR.out];rfl)
         clear hown ht hf hBlt hs7 hsz hsq hrow
         by_cases hbig:4096 < q+1
         ·have hbg:4096 < ((q:Int)+1):=by omega
          have HB:=lh (show 4096 < (joinL left csB.length rowsA rowsB at_ bt).length by
           have:=joinL_le left csB.length rowsA rowsB at_ bt (k+1);have:=HQE.out;omega)
          go_wp2_with fail
          rw [rounds_succ]
          go_wp2_with fail
          rw [HPE.out]
          refine ⟨((HT0.out.trans0 HT2.out).trans0 HTw.out).trans0 HX.out.2.1, ?_⟩
          rw [if_pos HB.out]
          rfl
         ·have hbg:(4096 < ((q:Int)+1))=False:=by simp;omega
          go_wp2_with fail
          rw [rounds_succ]
          go_wp2_with fail
          go_roundw
          case rel=>exact ⟨k+1,q+1,B',c',by omega,by omega,by go_num,rfl,lh HX.out.1,HQE,lh HX.out.2.2,lh HX.out.2.1⟩
          case measure=>simp [intOf];omega
        ·have HLF2:=lh (HLF.out.trans (decide_eq_false hkk))
         have hkq:(kk==5)=false:=by rw [beq_eq_false_iff_ne];exact hkk
         clear hkk
         obtain ⟨FS,hFS⟩:∃ FS:List SL,FS=[]:=⟨_,rfl⟩
         obtain ⟨FR,hFR⟩:∃ FR:List (List VD),FR=[]:=⟨_,rfl⟩
         have HJN:=lh (show joinL left csB.length (rowsA.take (k+1)) rowsB at_ bt=PR++FR.map fun o=>r++o by
          rw [HJN0.out,hFR];congr 1;unfold foundR;rw [hfx,HLF2.out,if_neg (fun z=>by cases z.2)];rfl)
         have HFS:=lh (show FS.length=0/\FS.length=FR.length/\(∀ w',Touch [] W3 w'->∀ i (h1:i < FS.length) (h2:i < FR.length),FS[i].n=FR[i].length/\ValsAt w' FS[i].A FR[i])/\(∀ w',Touch [] W3 w'->RdK slE w' none FS)/\∀ o∈FR,o.length<=1000 from
          ⟨by rw [hFS];rfl,by rw [hFS,hFR];rfl,fun w' t i h1=>absurd h1 (by rw [hFS];simp),fun w' t=>by rw [hFS];exact RdK.nil _ _ _,fun o ho=>by rw [hFR] at ho;simp at ho⟩)
         clear hfx hFS hFR HJN0 HFI
         go_wp2_with fail
         refine Hpk.out.mono ?_
         rintro e w5 ⟨A5,c5,rfl,m5⟩
         have M5:=lh m5
         have Hn5:=lh (Hnl.out A5 c5 w5 m5.own.rd)
         clear m5 Hpk Hnl
         go_wp2_with fail
         refine Hn5.out.mono ?_
         rintro e w6 ⟨rfl,t6⟩
         have HT4:=lh (M5.out.t.trans0 t6)
         have hp0:=(HTq.out.trans0 HT4.out).cell HP16.out.1 (by simp)
         clear t6 Hn5
         go_wp2_with fail
         go_loopw [18,108] (fun o i w4=>∃ (j q2:Nat) (B:Option Addr) (c:Nat),j<=0/\q2<=9000/\i=.int .i64 j/\o=.slice B q2 c/\Hid (OwnR 33 0 w4 B c (PR++(FR.take j).map fun o=>r++o))/\Hid (q2=q+j)/\Hid (∀ b∈fpo B,W3.heap.size<=b)/\Hid (Touch [] W3 w4)) (fun _ i _=>0-(intOf i).toNat)
         case atStart=>exact ⟨0,q,B,c,by omega,by omega,rfl,rfl,lh (by rw [List.take_zero,List.map_nil,List.append_nil];exact HOR.out.touch0 HT4.out),lh (by omega),HBF,lh (HTq.out.trans0 HT4.out)⟩
         case round =>
          obtain ⟨j,q2,B,c,hj,hq2,rfl,rfl,HOQ,HQ2,HBQ,HT5⟩:=hrel
          by_cases hlj:j < 0
          ·exact absurd hlj (by omega)
          ·obtain rfl:j=0:=by omega
           have HOE:Hid (OwnR 33 0 wr B c (joinL left csB.length (rowsA.take (k+1)) rowsB at_ bt)):=lh (by
            have hfr:FR=[]:=List.eq_nil_of_length_eq_zero (by rw [<- HFS.out.2.1];exact HFS.out.1)
            have:=HOQ.out
            rw [HJN.out]
            rw [hfr] at this ⊢
            exact this)
           have HQE:Hid (q2=(joinL left csB.length (rowsA.take (k+1)) rowsB at_ bt).length):=lh (by
            rw [HJN.out,List.length_append,List.length_map,<- HFS.out.2.1,HFS.out.1,HPR.out,HQ2.out])
           by_cases hbig:4096 < q2
           ·have hbg:4096 < (q2:Int):=by omega
            have HB:=lh (show 4096 < (joinL left csB.length rowsA rowsB at_ bt).length by
             have:=joinL_le left csB.length rowsA rowsB at_ bt (k+1);have:=HQE.out;omega)
            go_wp2_with fail
            rw [HPE.out]
            refine ⟨((HT0.out.trans0 HT2.out).trans0 HTw.out).trans0 HT5.out, ?_⟩
            rw [if_pos HB.out]
            rfl
           ·have hbg:(4096 < (q2:Int))=False:=by simp;omega
            go_wp2_with fail
            go_roundw
            case rel=>exact ⟨k+1,q2,B,c,by omega,by omega,by go_num,rfl,HOE,HQE,HBQ,HT5⟩
            case measure=>simp [intOf];omega
      ·obtain rfl:k=rn:=by omega
       have hO:=HOR.out
       have hQ:=HPQ.out
       rw [HAS.out.2.2.1,List.take_length] at hO hQ
       have HB:=lh (show ¬ 4096 < (joinL left csB.length rowsA rowsB at_ bt).length by omega)
       have HOR2:=lh hO
       have HPQ2:=lh hQ
       clear hO hQ HOR HPQ
       go_wp2_with fail
       rw [HPE.out]
       refine ⟨((HT0.out.trans0 HT2.out).trans0 HTw.out).trans0 HTq.out, ?_⟩
       rw [if_neg HB.out]
       exact ⟨B,c,by rw [<- HPQ2.out];rfl,HOR2.out.rowsAt⟩
end
end Go.Proofs.YtafoklilkdnepaaGreatDoor
