/- Part 20 of the texts of this proof, one behind the other. No condition beyond those that its theorems state. -/
import Derived.Test.YtafoklilkdnepaaGreatDoorRi19
set_option maxRecDepth 40000
set_option maxHeartbeats 25600000
namespace Go.Proofs.YtafoklilkdnepaaGreatDoor
section
open Go.RowKit
def kept (p:List VD->Bool) (sl:List SL) (rows:List (List VD)) (k:Nat):List (SL × List VD):=((sl.zip rows).take k).filter fun x=>p x.2
theorem kept_zero (p:List VD->Bool) (sl:List SL) (rows:List (List VD)):kept p sl rows 0=[]:=by simp [kept]
theorem kept_succ (p:List VD->Bool) (sl:List SL) (rows:List (List VD)) (hl:sl.length=rows.length) (k:Nat) (h1:k < sl.length) (h2:k < rows.length):kept p sl rows (k+1)=kept p sl rows k++if p rows[k]=true then [(sl[k],rows[k])] else []:=by
 have hz:k < (sl.zip rows).length:=by rw [List.length_zip];omega
 unfold kept
 rw [List.take_succ_eq_append_getElem hz,List.filter_append,List.getElem_zip]
 congr 1
 rw [List.filter_cons,List.filter_nil]
theorem kept_all (p:List VD->Bool) (sl:List SL) (rows:List (List VD)) (hl:sl.length=rows.length):(kept p sl rows rows.length).map (·.2)=rows.filter p:=by
 unfold kept
 have hz:(sl.zip rows).length=rows.length:=by rw [List.length_zip];omega
 rw [List.take_of_length_le (by omega)]
 have hm:(sl.zip rows).map (·.2)=rows:=List.map_snd_zip (by omega)
 conv=>rhs;rw [<- hm]
 rw [List.filter_map]
 rfl
theorem kept_mem {p:List VD->Bool} {sl:List SL} {rows:List (List VD)} {k:Nat} {x:SL × List VD} (h:x∈kept p sl rows k):x∈sl.zip rows:=List.mem_of_mem_take (List.mem_filter.1 h).1
theorem kept_sls {w:World} {p:List VD->Bool} {sl:List SL} {rows:List (List VD)} (h:SlsAt w sl rows) (k:Nat):SlsAt w ((kept p sl rows k).map (·.1)) ((kept p sl rows k).map (·.2)):=by
 refine ⟨by simp,fun i h1 h2 => ?_⟩
 rw [List.getElem_map,List.getElem_map]
 have hi:i < (kept p sl rows k).length:=by simpa using h1
 obtain ⟨j,hj,e⟩:=List.mem_iff_getElem.1 (kept_mem (List.getElem_mem hi))
 rw [List.length_zip] at hj
 rw [<- e,List.getElem_zip]
 exact h.2 j (by omega) (by omega)
theorem SlsAt.touch0 {w w':World} {sl:List SL} {rows:List (List VD)} (h:SlsAt w sl rows) (ht:Touch [] w w'):SlsAt w' sl rows:=⟨h.1,fun i a b=>⟨(h.2 i a b).1,ValsAt.touch0 (h.2 i a b).2 ht⟩⟩
def whereV {m:Nat} (cs:List CD) (e:TX m) (rows:List (List VD)):Int × List (List VD) :=
 if errF (fun r=>(topX cs r m e).2) rows=0 then (0,rows.filter fun r=>(topX cs r m e).1.tru) else (errF (fun r=>(topX cs r m e).2) rows,[])
theorem where_any {m:Nat} (x:PC) (e:TX m) (s r:SL) (cs:List CD) (rows:List (List VD)) (w:World) (hc:ExP xcE anyB m w x.cond e) (hT:TabAt w s r cs rows) (hok:∀ c∈cs,c.Ok) (hl1:cs.length<=1000000) (hl2:rows.length<=1000000) (hrk:RowsOk rows)
  (hs:sizeX m e<=1000000) (hall:allX (fun q=>q.v.text.size<=140737000000000) m e) :
  Calls Tryz.prog 94 #[x.val,.agg #[.slice s.A s.n s.c,.slice r.A r.n r.c]] w (RowsPost (whereV cs e rows) w):=by
 obtain ⟨V,hV⟩:∃ V,V=whereV cs e rows:=⟨_,rfl⟩
 rw [<- hV]
 obtain ⟨PO,hPO⟩:∃ PO,PO=RowsPost V w:=⟨_,rfl⟩
 rw [<- hPO]
 have HV:=lh hV
 have HPO:=lh hPO
 obtain ⟨tn, -,tcols,tm,sl,hsl,hrd⟩:=hT
 have Hev:=lh fun (row:List VD) (B:Option Addr) (rc:Nat) w' (t:Touch [] w w') (hm:row∈rows) (hr:ValsAt w' B row)=>topX_any m e x.cond s.A s.c cs.length cs rfl hok B rc row.length row rfl (fun v hv=>(hrk row hm).2 v hv) w' (hc.touch0 t) (tcols.touch0 t) hr (by omega) (by have:=(hrk row hm).1;omega) hs hall
 have HSL:=lh hsl
 have HRD:=lh hrd
 have Hlr:=lh (show ∀ i (h:i < rows.length),rows[i].length<=140737000000000 from fun i h=>(hrk _ (List.getElem_mem h)).1)
 clear hV hPO hc tcols hsl hrd hok hrk hs hall
 obtain ⟨k0,k1,⟨A2,n2,c2'⟩,⟨⟨ck,cn,⟨cvk,cvn,cvt⟩,cop⟩,CA,cnn,cc⟩,⟨NA,nn,nc⟩,⟨EA,en,ec⟩,⟨OA,ol,oc⟩,⟨GA,gn,gc⟩,⟨BA,bn,bc⟩,count⟩:=x
 obtain ⟨sA,sn,sc⟩:=s
 obtain ⟨rA,rn,rc⟩:=r
 dsimp only at tn tm
 subst tn tm
 simp only [PC.val,XC.val] at *
 obtain ⟨W,hW⟩:∃ W,W=(w.alloc (.cells #[.int .i64 k0,.string k1,.slice A2 n2 c2',.int .i64 ck,.string cn,.int .i64 cvk,.int .i64 cvn,.string cvt,.string cop,.slice CA cnn cc,.slice NA nn nc,.slice EA en ec,.slice OA ol oc,.slice GA gn gc,.slice BA bn bc,.int .i64 count] 49)).alloc (.cells #[.slice sA cs.length sc,.slice rA rows.length rc] 27):=⟨_,rfl⟩
 have t0:Touch [] w W:=hW ▸ ((Touch.refl [] w).alloc _).alloc _
 have hb0:=hW ▸ ((Touch.refl [] (w.alloc (.cells #[.int .i64 k0,.string k1,.slice A2 n2 c2',.int .i64 ck,.string cn,.int .i64 cvk,.int .i64 cvn,.string cvt,.string cop,.slice CA cnn cc,.slice NA nn nc,.slice EA en ec,.slice OA ol oc,.slice GA gn gc,.slice BA bn bc,.int .i64 count] 49))).alloc (.cells #[.slice sA cs.length sc,.slice rA rows.length rc] 27)).blk (heap_alloc_new w _) (by simp)
 have hb1:W.heap[w.heap.size+1]?=some (.cells #[.slice sA cs.length sc,.slice rA rows.length rc] 27 (0,0)):=by
  have h1:=heap_alloc_new (w.alloc (.cells #[.int .i64 k0,.string k1,.slice A2 n2 c2',.int .i64 ck,.string cn,.int .i64 cvk,.int .i64 cvn,.string cvt,.string cop,.slice CA cnn cc,.slice NA nn nc,.slice EA en ec,.slice OA ol oc,.slice GA gn gc,.slice BA bn bc,.int .i64 count] 49)) (.cells #[.slice sA cs.length sc,.slice rA rows.length rc] 27)
  rw [World.size_alloc] at h1
  exact hW ▸ h1
 have HW:=lh hW
 have HT0:=lh (And.intro t0 (And.intro hb0 hb1))
 have z1:W.cell? ⟨w.heap.size+1,1,none⟩=some (.slice rA rows.length rc):=cell_blk hb1 rfl
 clear hW t0 hb0 hb1
 go_enter Tryz.func94,Tryz.ntmps94
 go_wp2_with fail
 rw [<- HW.out]
 go_loopw [6,14] (fun o i wr=>∃ (k:Nat) (B:Option Addr) (c:Nat),k<=rows.length/\i=.int .i64 k/\o=.slice B (kept (fun r=>(topX cs r m e).1.tru) sl rows k).length c/\Hid (∀ i (hi:i < k) (h2:i < rows.length),(topX cs rows[i] m e).2=0)/\Hid (OwnK 33 1 slE wr B c ((kept (fun r=>(topX cs r m e).1.tru) sl rows k).map (·.1)))/\Hid (∀ b∈fpo B,W.heap.size<=b)/\Hid (Touch [] W wr)) (fun _ i _=>rows.length-(intOf i).toNat)
 case atStart=>exact ⟨0,none,0,by omega,rfl,by rw [kept_zero];rfl,lh (fun i h=>absurd h (by omega)),lh (by rw [kept_zero];exact OwnK.nil _ _ _ _),lh (by simp [fpo]),lh (Touch.refl _ _)⟩
 case round =>
  obtain ⟨k,B,c,hk,rfl,rfl,HZ,HO,HF,HT⟩:=hrel
  by_cases hlt:k < rows.length
  ·have hks:k < sl.length:=by rw [HSL.out.1];exact hlt
   obtain ⟨ad,b1,o1,rfl,hadd,hcell⟩:=RdK.cells (RdK.touch0 HRD.out (HT0.out.1.trans0 HT.out)) 1 slE_length (by omega) k hks
   have hsn:=(HSL.out.2 k hks hlt).1
   have hva:=ValsAt.touch0 (HSL.out.2 k hks hlt).2 (HT0.out.1.trans0 HT.out)
   have hKs:=kept_succ (fun r=>(topX cs r m e).1.tru) sl rows HSL.out.1 k hks hlt
   have hev:=Hev.out rows[k] sl[k].A sl[k].c wr (HT0.out.1.trans0 HT.out) (List.getElem_mem hlt) hva
   have her:=fun h0=>errF_at (g:=fun r=>(topX cs r m e).2) hlt (fun i hi=>HZ.out i hi (by omega)) h0
   obtain ⟨u,hu⟩:∃ u,u=sl[k]:=⟨_,rfl⟩
   obtain ⟨row,hrow⟩:∃ row,row=rows[k]:=⟨_,rfl⟩
   rw [<- hu] at hcell hsn hev hKs
   rw [<- hrow] at hsn hev hKs her
   have HZ2:=lh (fun h0:(topX cs row m e).2=0=>fun i (hi:i < k+1) (h2:i < rows.length)=>show (topX cs rows[i] m e).2=0 by
    by_cases hik:i < k
    ·exact HZ.out i hik h2
    ·obtain rfl:i=k:=by omega
     rw [<- hrow];exact h0)
   obtain ⟨uA,un,uc⟩:=u
   have e0:=hcell 0 _ rfl
   rw [Nat.mul_one] at hadd
   rw [Nat.add_zero] at e0
   dsimp only at e0 hsn hev
   subst hsn
   obtain ⟨tv,htv⟩:∃ tv,tv=topX cs row m e:=⟨_,rfl⟩
   rw [<- htv] at hev hKs her HZ2
   obtain ⟨v,er⟩:=tv
   dsimp only at hev hKs her HZ2
   obtain ⟨p0,p1,p2,p3,p4,p5,p6,p7,p8,p9,p10,p11,p12,p13,p14,p15⟩:=blk16 (HT.out.blk HT0.out.2.1 (by simp))
   obtain ⟨y0,y1,_,_⟩:=blk2 (HT.out.blk HT0.out.2.2 (by simp))
   have Hev2:=lh hev
   have HKs:=lh hKs
   have Her:=lh her
   have hkI:(k:Int) < (rows.length:Int):=by omega
   obtain ⟨K,hK⟩:∃ K,K=kept (fun r=>(topX cs r m e).1.tru) sl rows k:=⟨_,rfl⟩
   have hKl:Hid (K.length<=k):=lh (by
    rw [hK];unfold kept
    exact Nat.le_trans (List.length_filter_le _ _) (by rw [List.length_take];omega))
   rw [<- hK] at HKs HO ⊢
   have HKK:=lh hK
   clear hcell hu hrow htv hev hKs her hva hK
   obtain ⟨vk,vn,vt⟩:=v
   simp only [VD.val] at Hev2
   by_cases h0:er=0
   ·subst h0
    clear Her
    have Ht:=lh fun w'=>true_any ⟨vk,vn,vt⟩ w'
    simp only [VD.val] at Ht
    by_cases hv:VD.tru ⟨vk,vn,vt⟩=true
    ·as_aux_lemma =>
     rw [hv] at Ht
     have HK1:=lh (show kept (fun r=>(topX cs r m e).1.tru) sl rows (k+1)=K++[(⟨uA,row.length,uc⟩,row)] by rw [HKs.out,if_pos hv])
     clear hv
     go_wp2_with fail
     refine Hev2.out.mono ?_
     rintro e1 w1 ⟨rfl,t1⟩
     have U1:=lh t1
     clear t1 Hev2
     go_wp2_with fail
     refine (Ht.out _).mono ?_
     rintro e2 w2 ⟨rfl,t2⟩
     have U2:=lh (U1.out.trans0 (((Touch.refl [] w1).alloc _).trans0 t2))
     clear t2
     go_wp2_with (at_builtin;refine stop ?_)
     refine go ?_
     have tc:=(Touch.refl [] w2).alloc (.cells #[.slice uA row.length uc] 33)
     have hrd1:=RdK.one (enc:=slE) w2 33 ⟨uA,row.length,uc⟩ #[.slice uA row.length uc] rfl
     refine wpList_appK (enc:=slE) rfl (.tmp 32) (.tmp 34) 25 rfl 33 _ 1 24 info_r5 Tryz.underlying25 rfl (by omega) slE_length slE_one B K.length c (K.map (·.1)) (by simp) rfl (HO.out.touch0 (U2.out.trans0 tc))
      (some ⟨w2.heap.size,0,none⟩) 1 1 [⟨uA,row.length,uc⟩] rfl rfl hrd1 (by have:=hKl.out;omega) (by omega) ?_
     intro B' c' w' hown ht hf
     have HN2:=lh (And.intro hown (And.intro ht (And.intro hf tc)))
     clear hown ht hf tc hrd1
     go_wp2_with fail
     go_roundw
     case rel =>
      obtain ⟨hown,ht,hf,tc⟩:=HN2.out
      refine ⟨k+1,B',c',by omega,by go_num,by rw [HK1.out,List.length_append];rfl,lh (HZ2.out (by first | trivial | rfl)),lh (by rw [HK1.out,List.map_append];exact hown),lh (fun b hb => ?_),lh (((HT.out.trans0 U2.out).trans0 tc).trans ht (fun b hb=>.inr (HF.out b hb)))⟩
      rcases hf b hb with q | q
      ·exact HF.out b q
      ·rw [World.size_alloc] at q;have:=HT.out.size;have:=U2.out.size;omega
     case measure=>simp [intOf];omega
    ·as_aux_lemma =>
     have HK1:=lh (show kept (fun r=>(topX cs r m e).1.tru) sl rows (k+1)=K by rw [HKs.out,if_neg hv,List.append_nil])
     have hv':VD.tru ⟨vk,vn,vt⟩=false:=by simpa using hv
     rw [hv'] at Ht
     clear hv hv'
     go_wp2_with fail
     refine Hev2.out.mono ?_
     rintro e1 w1 ⟨rfl,t1⟩
     have U1:=lh t1
     clear t1 Hev2
     go_wp2_with fail
     refine (Ht.out _).mono ?_
     rintro e2 w2 ⟨rfl,t2⟩
     have U2:=lh (U1.out.trans0 (((Touch.refl [] w1).alloc _).trans0 t2))
     clear t2
     go_wp2_with fail
     go_roundw
     case rel=>exact ⟨k+1,B,c,by omega,by go_num,by rw [HK1.out],lh (HZ2.out (by first | trivial | rfl)),lh (by rw [HK1.out];exact HO.out.touch0 U2.out),HF,lh (HT.out.trans0 U2.out)⟩
     case measure=>simp [intOf];omega
   ·as_aux_lemma =>
    have HVe:=lh (show V=(er,[]) by rw [HV.out];unfold whereV;rw [Her.out h0,if_neg h0])
    have hq:(er==0)=false:=by rw [beq_eq_false_iff_ne];exact h0
    have hq':(er != 0)=true:=by rw [bne,hq];rfl
    clear h0 Her
    go_wp2_with fail
    refine Hev2.out.mono ?_
    rintro e1 w1 ⟨rfl,t1⟩
    have U1:=lh t1
    clear t1 Hev2
    go_wp2_with fail
    rw [HPO.out,HVe.out]
    exact ⟨⟨none,0,0⟩,rfl,rfl,⟨[],⟨rfl,fun i h=>absurd h (by simp)⟩,RdK.nil _ _ _⟩,(HT0.out.1.trans0 HT.out).trans0 (U1.out.trans0 ((Touch.refl [] w1).alloc _))⟩
  ·as_aux_lemma =>
   obtain rfl:k=rows.length:=by omega
   have HVe:=lh (show V=(0,(kept (fun r=>(topX cs r m e).1.tru) sl rows rows.length).map (·.2)) by
    rw [HV.out];unfold whereV
    rw [if_pos (errF_zero fun r hr=>by
     obtain ⟨i,hi,rfl⟩:=List.mem_iff_getElem.1 hr
     exact HZ.out i hi hi),kept_all _ _ _ HSL.out.1])
   go_wp2_with fail
   rw [HPO.out,HVe.out]
   exact ⟨⟨B,_,c⟩,rfl,by simp,⟨_,(kept_sls HSL.out _).touch0 (HT0.out.1.trans0 HT.out),HO.out.rd⟩,HT0.out.1.trans0 HT.out⟩
end
section
open Go.RowKit
def FirstPost (cs:List CD) (os:List (ByteArray × Bool)) (rows:List (List VD)) (count:Int) (w:World) (e:Ending) (w':World):Prop:=∃ (q:SL) (g:Nat->Nat),e=.returned (.slice q.A q.n q.c)/\Good (byD cs os rows) g 0 rows.length/\q.n=((pickL [] rows g).take count.toNat).length/\RowsAt w' q.A ((pickL [] rows g).take count.toNat)/\Touch [] w w'
theorem RdK.taken {α:Type} {enc:α->List Value} {w:World} {A:Option Addr} {xs:List α} (h:RdK enc w A xs) (k:Nat):RdK enc w A (xs.take k):=by
 intro h0
 have e:xs.flatMap enc=(xs.take k).flatMap enc++(xs.drop k).flatMap enc:=by rw [<- List.flatMap_append,List.take_append_drop]
 have h':Rd w A (xs.flatMap enc):=h
 rw [e] at h'
 obtain ⟨ad,hA,hc⟩:=h' (by rw [List.length_append];omega)
 refine ⟨ad,hA,fun j u hj=>hc j u ?_⟩
 have hl:=(List.getElem?_eq_some_iff.1 hj).1
 rw [List.getElem?_append_left hl];exact hj
theorem SlsAt.taken {w:World} {sl:List SL} {rows:List (List VD)} (h:SlsAt w sl rows) (k:Nat):SlsAt w (sl.take k) (rows.take k):=by
 refine ⟨by rw [List.length_take,List.length_take,h.1],fun i a b => ?_⟩
 rw [List.getElem_take,List.getElem_take]
 exact h.2 i _ _
theorem firstP_any (x:PC) (s r:SL) (cs:List CD) (os:List (ByteArray × Bool)) (rows:List (List VD)) (w:World) (hT:TabAt w s r cs rows) (hbn:x.by_.n=os.length) (hby:RdK odE w x.by_.A os) (hct:0<=x.count) (hl1:cs.length<=1000000) (hl2:rows.length<=100000) (hl4:os.length<=1000000)
  (hin:∀ r∈rows,r.length<=140737000000000/\∀ o∈os,(placeV cs o.1).getD 0 < r.length) :
  Calls Tryz.prog 101 #[x.val,.agg #[.slice s.A s.n s.c,.slice r.A r.n r.c]] w (FirstPost cs os rows x.count w):=by
 obtain ⟨tn, -,tcols,tm,sl,hsl,hrd⟩:=hT
 have HSL:=lh hsl
 have HRD:=lh hrd
 have HBY:=lh hby
 have HC:=lh tcols
 have HIN:=lh hin
 clear tcols hsl hrd hby hin
 obtain ⟨k0,k1,⟨A2,n2,c2'⟩,⟨⟨ck,cn,⟨cvk,cvn,cvt⟩,cop⟩,CA,cnn,cc⟩,⟨NA,nn,nc⟩,⟨EA,en,ec⟩,⟨OA,ol,oc⟩,⟨GA,gn,gc⟩,⟨BA,bn,bc⟩,count⟩:=x
 obtain ⟨sA,sn,sc⟩:=s
 obtain ⟨rA,rn,rc⟩:=r
 dsimp only at tn tm
 subst tn tm
 simp only [PC.val,XC.val] at *
 obtain ⟨W,hW⟩:∃ W,W=(w.alloc (.cells #[.int .i64 k0,.string k1,.slice A2 n2 c2',.int .i64 ck,.string cn,.int .i64 cvk,.int .i64 cvn,.string cvt,.string cop,.slice CA cnn cc,.slice NA nn nc,.slice EA en ec,.slice OA ol oc,.slice GA gn gc,.slice BA bn bc,.int .i64 count] 49)).alloc (.cells #[.slice sA cs.length sc,.slice rA rows.length rc] 27):=⟨_,rfl⟩
 have t0:Touch [] w W:=hW ▸ ((Touch.refl [] w).alloc _).alloc _
 have hb0:=hW ▸ ((Touch.refl [] (w.alloc (.cells #[.int .i64 k0,.string k1,.slice A2 n2 c2',.int .i64 ck,.string cn,.int .i64 cvk,.int .i64 cvn,.string cvt,.string cop,.slice CA cnn cc,.slice NA nn nc,.slice EA en ec,.slice OA ol oc,.slice GA gn gc,.slice BA bn bc,.int .i64 count] 49))).alloc (.cells #[.slice sA cs.length sc,.slice rA rows.length rc] 27)).blk (heap_alloc_new w _) (by simp)
 have hb1:W.heap[w.heap.size+1]?=some (.cells #[.slice sA cs.length sc,.slice rA rows.length rc] 27 (0,0)):=by
  have h1:=heap_alloc_new (w.alloc (.cells #[.int .i64 k0,.string k1,.slice A2 n2 c2',.int .i64 ck,.string cn,.int .i64 cvk,.int .i64 cvn,.string cvt,.string cop,.slice CA cnn cc,.slice NA nn nc,.slice EA en ec,.slice OA ol oc,.slice GA gn gc,.slice BA bn bc,.int .i64 count] 49)) (.cells #[.slice sA cs.length sc,.slice rA rows.length rc] 27)
  rw [World.size_alloc] at h1
  exact hW ▸ h1
 have HW:=lh hW
 have HT0:=lh (And.intro t0 (And.intro hb0 hb1))
 have z1:W.cell? ⟨w.heap.size+1,1,none⟩=some (.slice rA rows.length rc):=cell_blk hb1 rfl
 clear hW t0 hb0 hb1
 have HB:=lh (And.intro HBY.out HC.out)
 have hcl:=cloneR_any rA rc rows.length sl HSL.out.1 (by omega) W (RdK.touch0 HRD.out HT0.out.1)
 have Hcl:=lh hcl
 clear hcl
 subst hbn
 go_enter Tryz.func101,Tryz.ntmps101
 go_wp2_with fail
 rw [<- HW.out]
 go_wp2_with (go_at_call 141;refine Hcl.out.mono ?_;rintro e w1 ⟨A',c',rfl,hmd⟩)
 have hk:∀ wr,Touch (fpo A') w1 wr->SlsAt wr sl rows/\ByAt w.heap.size (w.heap.size+1) cs os wr:=fun wr ht=>by
  have tw:Touch [] W wr:=hmd.t.trans ht (fun b hb=>.inr (hmd.f b hb))
  have t0:=HT0.out.1.trans0 tw
  refine ⟨⟨HSL.out.1,fun i a b=>⟨(HSL.out.2 i a b).1,ValsAt.touch0 (HSL.out.2 i a b).2 t0⟩⟩,⟨_,_,cell_blk (tw.blk HT0.out.2.1 (by simp)) rfl,RdK.touch0 HBY.out t0⟩,⟨_,_,cell_blk (tw.blk HT0.out.2.2 (by simp)) rfl,HC.out.touch0 t0⟩⟩
 refine (sortBy_any _ _ cs os A' c' rows.length sl rows rfl hl2 HIN.out (by omega) (by omega) w1 HSL.out.1 hmd.own hk).mono ?_
 rintro e w2 ⟨rfl,g,hg,hown,hsls,t2⟩
 have tw:Touch [] W w2:=hmd.t.trans t2 (fun b hb=>.inr (hmd.f b hb))
 obtain ⟨p0,p1,p2,p3,p4,p5,p6,p7,p8,p9,p10,p11,p12,p13,p14,p15⟩:=blk16 (tw.blk HT0.out.2.1 (by simp))
 have hle:rows.length<=c':=by have:=hown.le;rw [pickL_length,HSL.out.1] at this;exact this
 have HF:=lh (And.intro hg (And.intro hown (And.intro hsls (HT0.out.1.trans0 tw))))
 clear hg hown hsls t2 tw hk hmd p0 p1 p2 p3 p4 p5 p6 p7 p8 p9 p10 p11 p12 p13 p14
 go_wp2_with fail
 go_ret
 obtain ⟨hg,hown,hsls,tt⟩:=HF.out
 have hlen:(min count (rows.length:Int)).toNat=((pickL [] rows g).take count.toNat).length:=by rw [List.length_take,pickL_length];omega
 exact ⟨⟨A',(min count (rows.length:Int)).toNat,c'⟩,g,rfl,hg,hlen,⟨_,hsls.taken _,hown.rd.taken _⟩,tt⟩
end
section
open Go.RowKit
theorem Good.one {D g h:Nat->Nat} {n:Nat} (hg:Good D g 0 n) (hh:Good D h 0 n):(List.range n).map g=(List.range n).map h:=by
 have pw:∀ f,Good D f 0 n->((List.range n).map f).Pairwise (ltL D):=fun f hf=>by
  rw [List.pairwise_map]
  refine List.Pairwise.imp_of_mem (R:=(· < ·)) (fun {a b} ha hb hab => ?_) List.pairwise_lt_range
  exact hf.1 a b (Nat.zero_le _) hab (List.mem_range.1 hb)
 have irr:∀ x y,ltL D x y->ltL D y x->False:=fun x y h1 h2=>by unfold ltL at h1 h2;omega
 have nd:∀ f,Good D f 0 n->((List.range n).map f).Nodup:=fun f hf=>by
  unfold List.Nodup
  refine (pw f hf).imp ?_
  intro a b hab he
  subst he
  exact irr _ _ hab hab
 have mem:∀ f,Good D f 0 n->∀ x,x∈(List.range n).map f ↔ x < n:=fun f hf x=>by
  rw [List.mem_map]
  constructor
  ·rintro ⟨i,hi,rfl⟩;exact ((hf.2 (f i)).1 ⟨i,Nat.zero_le _,List.mem_range.1 hi,rfl⟩).2
  ·intro hx
   obtain ⟨i,_,hi,he⟩:=(hf.2 x).2 ⟨Nat.zero_le _,hx⟩
   exact ⟨i,List.mem_range.2 hi,he⟩
 have hp:((List.range n).map g).Perm ((List.range n).map h):=(List.perm_ext_iff_of_nodup (nd g hg) (nd h hh)).2 fun a=>by rw [mem g hg,mem h hh]
 exact List.Perm.eq_of_pairwise (le:=ltL D) (fun a b _ _ h1 h2=>absurd h2 (fun q=>irr a b h1 q)) (pw g hg) (pw h hh) hp
open Classical in
noncomputable def firstL (cs:List CD) (os:List (ByteArray × Bool)) (rows:List (List VD)) (count:Nat):List (List VD):=if h:∃ g,Good (byD cs os rows) g 0 rows.length then (pickL [] rows h.choose).take count else []
theorem firstL_eq {cs:List CD} {os:List (ByteArray × Bool)} {rows:List (List VD)} (count:Nat) {g:Nat->Nat} (hg:Good (byD cs os rows) g 0 rows.length):firstL cs os rows count=(pickL [] rows g).take count:=by
 have h:∃ g,Good (byD cs os rows) g 0 rows.length:=⟨g,hg⟩
 unfold firstL
 rw [dif_pos h]
 congr 1
 have e:=Good.one h.choose_spec hg
 unfold pickL
 have e2:=congrArg (List.map fun k=>rows.getD k []) e
 simpa [List.map_map,Function.comp_def] using e2
theorem FirstPost.tell {cs:List CD} {os:List (ByteArray × Bool)} {rows:List (List VD)} {count:Int} {w w':World} {e:Ending} (h:FirstPost cs os rows count w e w'):∃ r:SL,e=.returned (.slice r.A r.n r.c)/\r.n=(firstL cs os rows count.toNat).length/\RowsAt w' r.A (firstL cs os rows count.toNat)/\Touch [] w w':=by
 obtain ⟨q,g,h1,h2,h3,h4,h5⟩:=h
 rw [firstL_eq _ h2]
 exact ⟨q,h1,h3,h4,h5⟩
theorem rows_first (x:PC) (hk0:x.kind=9) (rv:List (List VD)) (L:Option Addr) (lc:Nat) (ta:SL × SL) (w:World) (hL:RdK tbE w L [ta])
  (H:∀ w',Touch [] w w'->Calls Tryz.prog 101 #[x.val,.agg #[.slice ta.1.A ta.1.n ta.1.c,.slice ta.2.A ta.2.n ta.2.c]] w' (fun e w2=>∃ r:SL,e=.returned (.slice r.A r.n r.c)/\r.n=rv.length/\RowsAt w2 r.A rv/\Touch [] w' w2)) :
  Calls Tryz.prog 65 #[x.val,.slice L 1 lc] w (RowsPost (0,rv) w):=by
 obtain ⟨⟨SA,sn,sc⟩,⟨RA,rn,rc⟩⟩:=ta
 obtain ⟨k0,k1,⟨A2,n2,c2'⟩,⟨⟨ck,cn,⟨cvk,cvn,cvt⟩,cop⟩,CA,cnn,cc⟩,⟨NA,nn,nc⟩,⟨EA,en,ec⟩,⟨OA,ol,oc⟩,⟨GA,gn,gc⟩,⟨BA,bn,bc⟩,count⟩:=x
 dsimp only at hk0 H
 subst hk0
 obtain ⟨ad,bl,bo,rfl,hadd0,hc0⟩:=RdK.cells hL 2 tbE_length (by omega) 0 (by simp)
 have l0:=hc0 0 _ rfl
 have l1:=hc0 1 _ rfl
 simp only [Nat.zero_mul,Nat.add_zero] at hadd0 l0 l1
 simp only [List.getElem_cons_zero] at l0 l1
 have Hj:=lh H
 simp only [PC.val] at *
 obtain ⟨W,hW⟩:∃ W,W=w.alloc (.cells #[.int .i64 9,.string k1,.slice A2 n2 c2',.int .i64 ck,.string cn,.int .i64 cvk,.int .i64 cvn,.string cvt,.string cop,.slice CA cnn cc,.slice NA nn nc,.slice EA en ec,.slice OA ol oc,.slice GA gn gc,.slice BA bn bc,.int .i64 count] 49):=⟨_,rfl⟩
 have t0:Touch [] w W:=hW ▸ (Touch.refl [] w).alloc _
 have hb0:=hW ▸ heap_alloc_new w (.cells #[.int .i64 9,.string k1,.slice A2 n2 c2',.int .i64 ck,.string cn,.int .i64 cvk,.int .i64 cvn,.string cvt,.string cop,.slice CA cnn cc,.slice NA nn nc,.slice EA en ec,.slice OA ol oc,.slice GA gn gc,.slice BA bn bc,.int .i64 count] 49)
 have l0d:=t0.drew.cell l0 (by simp)
 have l1d:=t0.drew.cell l1 (by simp)
 obtain ⟨p0,p1,p2,p3,p4,p5,p6,p7,p8,p9,p10,p11,p12,p13,p14,p15⟩:=blk16 ((Touch.refl [] W).drew.blk hb0 (by simp))
 have HP:Hid (W.drew.cell? ⟨w.heap.size,0,none⟩=some (.int .i64 9)/\W.drew.cell? ⟨w.heap.size,1,none⟩=some (.string k1)/\W.drew.cell? ⟨w.heap.size,2,none⟩=some (.slice A2 n2 c2')/\W.drew.cell? ⟨w.heap.size,3,none⟩=some (.int .i64 ck)/\W.drew.cell? ⟨w.heap.size,4,none⟩=some (.string cn)/\W.drew.cell? ⟨w.heap.size,5,none⟩=some (.int .i64 cvk)/\W.drew.cell? ⟨w.heap.size,6,none⟩=some (.int .i64 cvn)/\W.drew.cell? ⟨w.heap.size,7,none⟩=some (.string cvt)/\W.drew.cell? ⟨w.heap.size,8,none⟩=some (.string cop)/\W.drew.cell? ⟨w.heap.size,9,none⟩=some (.slice CA cnn cc)/\W.drew.cell? ⟨w.heap.size,10,none⟩=some (.slice NA nn nc)/\W.drew.cell? ⟨w.heap.size,11,none⟩=some (.slice EA en ec)/\W.drew.cell? ⟨w.heap.size,12,none⟩=some (.slice OA ol oc)/\W.drew.cell? ⟨w.heap.size,13,none⟩=some (.slice GA gn gc)/\W.drew.cell? ⟨w.heap.size,14,none⟩=some (.slice BA bn bc)/\W.drew.cell? ⟨w.heap.size,15,none⟩=some (.int .i64 count)/\W.drew.cell? ⟨bl,bo,none⟩=some (.slice SA sn sc)/\W.drew.cell? ⟨bl,bo+1,none⟩=some (.slice RA rn rc)):=lh ⟨p0,p1,p2,p3,p4,p5,p6,p7,p8,p9,p10,p11,p12,p13,p14,p15,l0d,l1d⟩
 have HW:=lh hW
 have HT0:=lh t0.drew
 clear H hL hc0 hW t0 l0 l1 hb0 l0d l1d p0 p1 p2 p3 p4 p5 p6 p7 p8 p9 p10 p11 p12 p13 p14 p15
 go_enter Tryz.func65,Tryz.ntmps65
 go_wp2_with fail
 rw [<- HW.out]
 go_region_held3 (fun w'=>w'.cell? ⟨w.heap.size,0,none⟩=some (.int .i64 9)/\w'.cell? ⟨w.heap.size,1,none⟩=some (.string k1)/\w'.cell? ⟨w.heap.size,2,none⟩=some (.slice A2 n2 c2')/\w'.cell? ⟨w.heap.size,3,none⟩=some (.int .i64 ck)/\w'.cell? ⟨w.heap.size,4,none⟩=some (.string cn)/\w'.cell? ⟨w.heap.size,5,none⟩=some (.int .i64 cvk)/\w'.cell? ⟨w.heap.size,6,none⟩=some (.int .i64 cvn)/\w'.cell? ⟨w.heap.size,7,none⟩=some (.string cvt)/\w'.cell? ⟨w.heap.size,8,none⟩=some (.string cop)/\w'.cell? ⟨w.heap.size,9,none⟩=some (.slice CA cnn cc)/\w'.cell? ⟨w.heap.size,10,none⟩=some (.slice NA nn nc)/\w'.cell? ⟨w.heap.size,11,none⟩=some (.slice EA en ec)/\w'.cell? ⟨w.heap.size,12,none⟩=some (.slice OA ol oc)/\w'.cell? ⟨w.heap.size,13,none⟩=some (.slice GA gn gc)/\w'.cell? ⟨w.heap.size,14,none⟩=some (.slice BA bn bc)/\w'.cell? ⟨w.heap.size,15,none⟩=some (.int .i64 count)/\w'.cell? ⟨bl,bo,none⟩=some (.slice SA sn sc)/\w'.cell? ⟨bl,bo+1,none⟩=some (.slice RA rn rc)) (first | exact HP.out | exact keep18 M1.out.2.2 HP.out) (first
  | (go_at_call 101;refine (Hj.out _ HT0.out).mono ?_;rintro e w1 ⟨⟨A1,n1,c1⟩,rfl,m1⟩;have M1:=lh m1;clear m1))
 go_wp2_with fail
 go_ret2
 exact ⟨⟨A1,n1,c1⟩,rfl,M1.out.1,M1.out.2.1,HT0.out.trans0 M1.out.2.2⟩
end
section
open Go.RowKit
theorem rowsC_where {m:Nat} (x:PC) (hk0:x.kind=2) (e:TX m) (cs:List CD) (rows:List (List VD)) (w:World) (hc:ExP xcE anyB m w x.cond e) (hok:∀ c∈cs,c.Ok) (hl1:cs.length<=1000000) (hl2:rows.length<=1000000) (hrk:RowsOk rows)
  (hs:sizeX m e<=1000000) (hall:allX (fun q=>q.v.text.size<=140737000000000) m e):RowsC w x [(cs,rows)] (whereV cs e rows):=by
 intro w' L lc tl t hs' hL
 obtain ⟨hs1,hs2⟩:=hs'
 match tl,hs1 with
 | [t1],_=>exact rows_where x hk0 _ L lc t1 w' hL (fun w2 t2=>where_any x e t1.1 t1.2 cs rows w2 (hc.touch0 (t.trans0 t2)) ((hs2 0 (by simp) (by simp)).touch0 t2) hok hl1 hl2 hrk hs hall)
theorem rowsC_union (x:PC) (hk0:x.kind=7) (csA csB:List CD) (rowsA rowsB:List (List VD)) (w:World) (hA2:rowsA.length<=100000) (hB2:rowsB.length<=100000):RowsC w x [(csA,rowsA),(csB,rowsB)] (0,rowsA++rowsB):=by
 intro w' L lc tl t hs hL
 obtain ⟨hs1,hs2⟩:=hs
 match tl,hs1 with
 | [t1,t2],_=>exact rows_union x hk0 L lc t1 t2 csA csB rowsA rowsB w' hL (hs2 0 (by simp) (by simp)) (hs2 1 (by simp) (by simp)) hA2 hB2
theorem rowsC_first (x:PC) (hk0:x.kind=9) (cs:List CD) (os:List (ByteArray × Bool)) (rows:List (List VD)) (w:World) (hbn:x.by_.n=os.length) (hby:RdK odE w x.by_.A os) (hct:0<=x.count) (hl1:cs.length<=1000000) (hl2:rows.length<=100000) (hl4:os.length<=1000000)
  (hin:∀ r∈rows,r.length<=140737000000000/\∀ o∈os,(placeV cs o.1).getD 0 < r.length):RowsC w x [(cs,rows)] (0,firstL cs os rows x.count.toNat):=by
 intro w' L lc tl t hs hL
 obtain ⟨hs1,hs2⟩:=hs
 match tl,hs1 with
 | [t1],_ =>
  exact rows_first x hk0 _ L lc t1 w' hL (fun w2 t2=>(firstP_any x t1.1 t1.2 cs os rows w2 ((hs2 0 (by simp) (by simp)).touch0 t2) hbn (RdK.touch0 hby (t.trans0 t2)) hct hl1 hl2 hl4 hin).mono fun e w3 h=>h.tell)
end
section
open Go.RowKit
def keepRow {m:Nat} (cs:List CD) (es:List (TX m)) (r:List VD):List VD:=es.map fun e=>(topX cs r m e).1
def keepErr {m:Nat} (cs:List CD) (es:List (TX m)) (r:List VD):Int:=errF (fun e=>(topX cs r m e).2) es
def keepRV {m:Nat} (cs:List CD) (es:List (TX m)) (rows:List (List VD)):Int × List (List VD) :=
 if errF (keepErr cs es) rows=0 then (0,rows.map (keepRow cs es)) else (errF (keepErr cs es) rows,[])
theorem keep_any {m:Nat} (x:PC) (es:List (TX m)) (s r:SL) (cs:List CD) (rows:List (List VD)) (w:World) (hen:x.exprs.n=es.length) (hle:es.length<=1000000) (hex:ArgsP xcE anyB m w x.exprs.A es) (hT:TabAt w s r cs rows) (hok:∀ c∈cs,c.Ok) (hl1:cs.length<=1000000) (hl2:rows.length<=1000000) (hrk:RowsOk rows)
  (hs:∀ e∈es,sizeX m e<=1000000) (hall:∀ e∈es,allX (fun q=>q.v.text.size<=140737000000000) m e) :
  Calls Tryz.prog 95 #[x.val,.agg #[.slice s.A s.n s.c,.slice r.A r.n r.c]] w (RowsPost (keepRV cs es rows) w):=by
 obtain ⟨V,hV⟩:∃ V,V=keepRV cs es rows:=⟨_,rfl⟩
 rw [<- hV]
 obtain ⟨PO,hPO⟩:∃ PO,PO=RowsPost V w:=⟨_,rfl⟩
 rw [<- hPO]
 have HV:=lh hV
 have HPO:=lh hPO
 have HRA:=lh hT.rws
 obtain ⟨tn, -,tcols,tm, -⟩:=hT
 have Hev:=lh fun (row:List VD) (B:Option Addr) (rc:Nat) (e:TX m) (y:XC) w' (t:Touch [] w w') (hm:row∈rows) (he:e∈es) (hr:ValsAt w' B row) (hy:ExP xcE anyB m w' y e)=>topX_any m e y s.A s.c cs.length cs rfl hok B rc row.length row rfl (fun v hv=>(hrk row hm).2 v hv) w' hy (tcols.touch0 t) hr (by omega) (by have:=(hrk row hm).1;omega) (hs e he) (hall e he)
 have HEX:=lh hex
 have Hlr:=lh (show ∀ i (h:i < rows.length),rows[i].length<=140737000000000 from fun i h=>(hrk _ (List.getElem_mem h)).1)
 clear hV hPO hex tcols hok hrk hs hall
 obtain ⟨k0,k1,⟨A2,n2,c2'⟩,⟨⟨ck,cn,⟨cvk,cvn,cvt⟩,cop⟩,CA,cnn,cc⟩,⟨NA,nn,nc⟩,⟨EA,en,ec⟩,⟨OA,ol,oc⟩,⟨GA,gn,gc⟩,⟨BA,bn,bc⟩,count⟩:=x
 obtain ⟨sA,sn,sc⟩:=s
 obtain ⟨rA,rn,rc⟩:=r
 dsimp only at tn tm hen
 subst tn tm hen
 simp only [PC.val,XC.val] at *
 obtain ⟨W,hW⟩:∃ W,W=(w.alloc (.cells #[.int .i64 k0,.string k1,.slice A2 n2 c2',.int .i64 ck,.string cn,.int .i64 cvk,.int .i64 cvn,.string cvt,.string cop,.slice CA cnn cc,.slice NA nn nc,.slice EA es.length ec,.slice OA ol oc,.slice GA gn gc,.slice BA bn bc,.int .i64 count] 49)).alloc (.cells #[.slice sA cs.length sc,.slice rA rows.length rc] 27):=⟨_,rfl⟩
 have t0:Touch [] w W:=hW ▸ ((Touch.refl [] w).alloc _).alloc _
 have hb0:=hW ▸ ((Touch.refl [] (w.alloc (.cells #[.int .i64 k0,.string k1,.slice A2 n2 c2',.int .i64 ck,.string cn,.int .i64 cvk,.int .i64 cvn,.string cvt,.string cop,.slice CA cnn cc,.slice NA nn nc,.slice EA es.length ec,.slice OA ol oc,.slice GA gn gc,.slice BA bn bc,.int .i64 count] 49))).alloc (.cells #[.slice sA cs.length sc,.slice rA rows.length rc] 27)).blk (heap_alloc_new w _) (by simp)
 have hb1:W.heap[w.heap.size+1]?=some (.cells #[.slice sA cs.length sc,.slice rA rows.length rc] 27 (0,0)):=by
  have h1:=heap_alloc_new (w.alloc (.cells #[.int .i64 k0,.string k1,.slice A2 n2 c2',.int .i64 ck,.string cn,.int .i64 cvk,.int .i64 cvn,.string cvt,.string cop,.slice CA cnn cc,.slice NA nn nc,.slice EA es.length ec,.slice OA ol oc,.slice GA gn gc,.slice BA bn bc,.int .i64 count] 49)) (.cells #[.slice sA cs.length sc,.slice rA rows.length rc] 27)
  rw [World.size_alloc] at h1
  exact hW ▸ h1
 have HW:=lh hW
 have HT0:=lh (And.intro t0 (And.intro hb0 hb1))
 have z1:W.cell? ⟨w.heap.size+1,1,none⟩=some (.slice rA rows.length rc):=cell_blk hb1 rfl
 clear hW t0 hb0 hb1
 go_enter Tryz.func95,Tryz.ntmps95
 go_wp2_with fail
 rw [<- HW.out]
 go_loopw [6,17] (fun o i wr=>∃ (k:Nat) (B:Option Addr) (c:Nat),k<=rows.length/\i=.int .i64 k/\o=.slice B k c/\Hid (∀ i (hi:i < k) (h2:i < rows.length),keepErr cs es rows[i]=0)/\Hid (OwnR 33 W.heap.size wr B c ((rows.take k).map (keepRow cs es)))/\Hid (∀ b∈fpo B,W.heap.size<=b)/\Hid (Touch [] W wr)) (fun _ i _=>rows.length-(intOf i).toNat)
 case atStart=>exact ⟨0,none,0,by omega,rfl,rfl,lh (fun i h=>absurd h (by omega)),lh (OwnR.nil _ _ _),lh (by simp [fpo]),lh (Touch.refl _ _)⟩
 case round =>
  obtain ⟨k,B,c,hk,rfl,rfl,HZ,HO,HF,HT⟩:=hrel
  by_cases hlt:k < rows.length
  ·obtain ⟨bd,A1,c1,rfl,e0,hr1⟩:=(HRA.out.touch0 (HT0.out.1.trans0 HT.out)).at_ k hlt
   have htk:=List.take_succ_eq_append_getElem hlt
   have hmem:=List.getElem_mem hlt
   have her:=fun h0=>errF_at (g:=keepErr cs es) hlt (fun i hi=>HZ.out i hi (by omega)) h0
   obtain ⟨row,hre⟩:∃ row,row=rows[k]:=⟨_,rfl⟩
   rw [<- hre] at e0 hr1 htk hmem her
   have HZ2:=lh (fun h0:keepErr cs es row=0=>fun i (hi:i < k+1) (h2:i < rows.length)=>show keepErr cs es rows[i]=0 by
    by_cases hik:i < k
    ·exact HZ.out i hik h2
    ·obtain rfl:i=k:=by omega
     rw [<- hre];exact h0)
   have Htk:=lh htk
   have Hmem:=lh hmem
   have Her:=lh her
   have HR1:=lh hr1
   have hkn:(k:Int) < (rows.length:Int):=by omega
   obtain ⟨p0,p1,p2,p3,p4,p5,p6,p7,p8,p9,p10,p11,p12,p13,p14,p15⟩:=blk16 (HT.out.blk HT0.out.2.1 (by simp))
   clear hre htk hr1 hmem her p0 p1 p2 p3 p4 p5 p6 p7 p8 p9 p10 p12 p13 p14 p15
   go_wp2_with fail
   clear p11
   go_loopw [9,24] (fun v i wx=>∃ (j:Nat) (A':Option Addr) (c':Nat),j<=es.length/\i=.int .i64 j/\v=.slice A' j c'/\Hid (∀ i (hi:i < j) (h2:i < es.length),(topX cs row m es[i]).2=0)/\Hid (Made 31 3 vdE ((es.take j).map fun e=>(topX cs row m e).1) A' c' wr wx)) (fun _ i _=>es.length-(intOf i).toNat)
   case atStart=>exact ⟨0,none,0,by omega,rfl,rfl,lh (fun i h=>absurd h (by omega)),lh (Made.nil _ _ _ _)⟩
   case round =>
    obtain ⟨j,A',c',hj,rfl,rfl,HZj,HM⟩:=hrel
    by_cases hltj:j < es.length
    ·obtain ⟨ad,b,off,y,rfl,hadd,hy,hcell⟩:=(HEX.out.touch0 ((HT0.out.1.trans0 HT.out).trans0 HM.out.t)).at_ xcE_length j hltj
     have hsn:=List.take_succ_eq_append_getElem hltj
     have hej:=List.getElem_mem hltj
     have herj:=fun h0=>errF_at (g:=fun e=>(topX cs row m e).2) hltj (fun i hi=>HZj.out i hi (by omega)) h0
     obtain ⟨e,he⟩:∃ e,e=es[j]:=⟨_,rfl⟩
     rw [<- he] at hy hsn hej herj
     have HZ3:=lh (fun h0:(topX cs row m e).2=0=>fun i (hi:i < j+1) (h2:i < es.length)=>show (topX cs row m es[i]).2=0 by
      by_cases hij:i < j
      ·exact HZj.out i hij h2
      ·obtain rfl:i=j:=by omega
       rw [<- he];exact h0)
     have f0:=hcell 0 _ rfl;have f1:=hcell 1 _ rfl;have f2:=hcell 2 _ rfl;have f3:=hcell 3 _ rfl;have f4:=hcell 4 _ rfl;have f5:=hcell 5 _ rfl;have f6:=hcell 6 _ rfl
     rw [Nat.add_zero] at f0
     obtain ⟨⟨yk,yn,⟨yvk,yvn,yvt⟩,yop⟩,yA,yl,yc⟩:=y
     dsimp only at f0 f1 f2 f3 f4 f5 f6
     have ta:=(Touch.refl [] wr).alloc (.cells #[.int .i64 yk,.string yn,.int .i64 yvk,.int .i64 yvn,.string yvt,.string yop,.slice yA yl yc] 44)
     have hev:=Hev.out row A1 c1 e _ _ (((HT0.out.1.trans0 HT.out).trans0 HM.out.t).trans0 ta) Hmem.out hej (HR1.out.touch0 (HM.out.t.trans0 ta)) (hy.touch0 ta)
     obtain ⟨tv,htv⟩:∃ tv,tv=topX cs row m e:=⟨_,rfl⟩
     have hmv:(es.take (j+1)).map (fun e=>(topX cs row m e).1)=(es.take j).map (fun e=>(topX cs row m e).1)++[tv.1]:=by rw [hsn,List.map_append,htv];rfl
     rw [<- htv] at hev herj HZ3
     obtain ⟨⟨vk,vn,vt⟩,er⟩:=tv
     simp only [XC.val,VD.val] at hev
     dsimp only at herj HZ3 hmv
     obtain ⟨q0,q1,_,_⟩:=blk2 ((HM.out.t.trans0 ta).blk (HT.out.blk HT0.out.2.2 (by simp)) (by simp))
     have Hev2:=lh hev
     have HTa:=lh ta
     have Hmv:=lh hmv
     have Herj:=lh herj
     have hjI:(j:Int) < (es.length:Int):=by omega
     have Hlen:=lh (show ((es.take j).map fun e=>(topX cs row m e).1).length=j by rw [List.length_map,List.length_take];omega)
     clear hcell hy hev ta hmv herj hsn hej he htv
     by_cases h0:er=0
     ·subst h0
      clear Herj
      go_wp2_with fail
      refine Hev2.out.mono ?_
      rintro e1 w1 ⟨rfl,t1⟩
      have U1:=lh (HTa.out.trans0 t1)
      clear t1 Hev2 q0 q1
      go_wp2_with (at_builtin;refine stop ?_)
      refine go ?_
      have tb:=((Touch.refl [] w1).alloc (.cells #[.int .i64 vk,.int .i64 vn,.string vt] 31)).alloc (.cells #[.int .i64 vk,.int .i64 vn,.string vt] 31)
      have hrd1:=RdK.one (enc:=vdE) (w1.alloc (.cells #[.int .i64 vk,.int .i64 vn,.string vt] 31)) 31 ⟨vk,vn,vt⟩ #[.int .i64 vk,.int .i64 vn,.string vt] rfl
      rw [World.size_alloc] at hrd1
      refine wpList_appK (enc:=vdE) rfl (.tmp 39) (.tmp 41) 33 rfl 31 _ 3 32 info_v5 Tryz.underlying33 rfl (by omega) vdE_length vdE_one A' j c' ((es.take j).map fun e=>(topX cs row m e).1) Hlen.out rfl (HM.out.own.touch0 (U1.out.trans0 tb))
       (some ⟨w1.heap.size+1,0,none⟩) 1 1 [⟨vk,vn,vt⟩] rfl rfl hrd1 (by omega) (by omega) ?_
      intro A3 c3 w3 hown3 ht3 hf3
      have HX:=lh ((HM.out.touch0 (U1.out.trans0 tb)).step hown3 ht3 hf3)
      clear hown3 ht3 hf3 tb hrd1
      go_wp2_with fail
      go_roundw
      case rel=>exact ⟨j+1,A3,c3,by omega,by go_num,rfl,lh (HZ3.out (by first | trivial | rfl)),lh (by rw [Hmv.out];exact HX.out)⟩
      case measure=>simp [intOf];omega
     ·have HVe:=lh (show V=(er,[]) by
       have h1:keepErr cs es row=er:=Herj.out h0
       rw [HV.out];unfold keepRV;rw [Her.out (by rw [h1];exact h0),h1,if_neg h0])
      have hq:(er==0)=false:=by rw [beq_eq_false_iff_ne];exact h0
      have hq':(er != 0)=true:=by rw [bne,hq];rfl
      clear h0 Herj HZ3
      go_wp2_with fail
      refine Hev2.out.mono ?_
      rintro e1 w1 ⟨rfl,t1⟩
      have U1:=lh (HTa.out.trans0 t1)
      clear t1 Hev2 q0 q1
      go_wp2_with fail
      rw [HPO.out,HVe.out]
      exact ⟨⟨none,0,0⟩,rfl,rfl,⟨[],⟨rfl,fun i h=>absurd h (by simp)⟩,RdK.nil _ _ _⟩,((HT0.out.1.trans0 HT.out).trans0 HM.out.t).trans0 (U1.out.trans0 ((Touch.refl [] w1).alloc _))⟩
    ·obtain rfl:j=es.length:=by omega
     have HM2:Hid (Made 31 3 vdE (keepRow cs es row) A' c' _ wr):=lh (by have:=HM.out;rwa [List.take_length] at this)
     have hz:keepErr cs es row=0:=errF_zero fun e he=>by
      obtain ⟨i,hi,rfl⟩:=List.mem_iff_getElem.1 he
      exact HZj.out i hi hi
     have HZ4:=lh (HZ2.out hz)
     have Hkl:=lh (show (keepRow cs es row).length=es.length by unfold keepRow;rw [List.length_map])
     clear HM hz HZ2
     go_wp2_with (at_builtin;refine stop ?_)
     refine go ?_
     have hB:=HO.out.lt
     have hsz:=HM2.out.t.size
     refine wpList_appR rfl (.tmp 44) (.tmp 46) 25 rfl 33 info_r5 Tryz.underlying25 W.heap.size B k c ((rows.take k).map (keepRow cs es)) (by rw [List.length_map,List.length_take];omega) rfl (HO.out.touch0 HM2.out.t) A' c' (keepRow cs es row) HM2.out.own.rd
      (fun b hb=>⟨fun q=>by have:=hB b q;have:=HM2.out.f b hb;omega,HM2.out.own.lt b hb,by have:=HM2.out.f b hb;have:=HT.out.size;omega⟩) 1 rfl (by omega) (by rw [Hkl.out]) ?_
     intro B' c3 w' hown ht hf
     have HX:=lh (And.intro hown (And.intro ht hf))
     clear hown ht hf
     go_wp2_with fail
     go_roundw
     case rel =>
      obtain ⟨hown,ht,hf⟩:=HX.out
      refine ⟨k+1,B',c3,by omega,by go_num,rfl,HZ4,lh (by rw [Htk.out,List.map_append];exact hown),lh (fun b hb => ?_),lh (((HT.out.trans0 HM2.out.t).alloc _).trans ht (fun b hb=>.inr (HF.out b hb)))⟩
      rcases hf b hb with q | q
      ·exact HF.out b q
      ·have:=HT.out.size;omega
     case measure=>simp [intOf];omega
  ·obtain rfl:k=rows.length:=by omega
   have HVe:=lh (show V=(0,rows.map (keepRow cs es)) by
    rw [HV.out];unfold keepRV
    rw [if_pos (errF_zero fun r hr=>by
     obtain ⟨i,hi,rfl⟩:=List.mem_iff_getElem.1 hr
     exact HZ.out i hi hi)])
   have HO2:Hid (OwnR 33 W.heap.size wr B c (rows.map (keepRow cs es))):=lh (by have:=HO.out;rwa [List.take_length] at this)
   clear HO
   go_wp2_with fail
   rw [HPO.out,HVe.out]
   exact ⟨⟨B,_,c⟩,rfl,by simp,HO2.out.rowsAt,HT0.out.1.trans0 HT.out⟩
end
section
open Go.RowKit
theorem growV_any (n:Nat) (hn:n<=1000000) (w:World) :
  Calls Tryz.prog 171 #[.slice none 0 0,.int .i64 n] w fun e w'=>∃ A c,e=.returned (.slice A 0 c)/\Made 31 3 vdE [] A c w w':=by
 obtain ⟨i0,hi0,hz0,hz1,hz2⟩:=info_parts info_v5
 go_enter Tryz.func171,Tryz.ntmps171
 by_cases h0:n=0
 ·subst h0
  go_wp2
  go_ret
  exact ⟨none,0,rfl,Made.nil _ _ _ _⟩
 ·have hn0:0 < n:=by omega
  have hge:=grownCap_ge w n 0 31
  have hle:=grownCap_le_maxLen w n 0 31 (by simp only [maxLen];omega)
  have hold:(Builtin.firstCells i0.size 0 (.slice none 0 0)).run Tryz.prog w.drew=.ok ([]:List Value).toArray w.drew:=run_firstCells_none w.drew i0.size 0 0 0
  have hrz:∀ ty,(Builtin.append_ #[33,3] ty #[.slice none 0 0,.int .i64 (n:Int)]).run Tryz.prog w=_:=fun ty =>
   Lib.run_append_grow_zeros w 33 3 ty 31 i0 (.agg #[.int .i64 0,.int .i64 0,.string ⟨#[]⟩]) .i64 .i64 Tryz.underlying33 Tryz.underlying3 hi0 hz0 none 0 0 [] hold n hn0 (by omega) (by omega) (by omega)
    (by rw [hz2];omega) (by rw [hz2];exact growslice_fits (by omega) (by omega))
  simp only [Nat.zero_add] at hrz
  have hsz:(([]:List Value).toArray++Builtin.zeroCells (Value.agg #[.int .i64 0,.int .i64 0,.string ⟨#[]⟩]).cells n++Builtin.zeroCells (Value.agg #[.int .i64 0,.int .i64 0,.string ⟨#[]⟩]).cells (grownCap w n 0 31-n)).size=grownCap w n 0 31*3:=by
   rw [Array.size_append,Array.size_append,size_zeroCells,size_zeroCells]
   simp [Value.cells]
   omega
  have hcut:=OwnK.room 31 3 vdE w.drew (grownCap w n 0 31) _ hle hsz
  obtain ⟨W,hW⟩:∃ W,W=w.drew.alloc (.cells (([]:List Value).toArray++Builtin.zeroCells (Value.agg #[.int .i64 0,.int .i64 0,.string ⟨#[]⟩]).cells n++Builtin.zeroCells (Value.agg #[.int .i64 0,.int .i64 0,.string ⟨#[]⟩]).cells (grownCap w n 0 31-n)) 31):=⟨_,rfl⟩
  obtain ⟨G,hG⟩:∃ G,G=grownCap w n 0 31:=⟨_,rfl⟩
  have tW:Touch [] w W:=by rw [hW];exact ((Touch.refl [] w).drew).alloc _
  rw [<- hW] at hrz hcut
  rw [<- hG] at hrz hcut hge hle
  have hws:w.drew.heap.size=w.heap.size:=rfl
  rw [hws] at hcut
  unfold maxLen at hle
  clear hW hG hold hsz hws
  go_wp2_with (at_builtin;refine Lib.wpList_append_run _ rfl _ _ _ _ rfl _ _ rfl rfl _ _ (hrz _) ?_)
  go_ret
  exact ⟨_,G,rfl,hcut,tW,by simp [fpo]⟩
theorem concatV_any (A1 A2:Option Addr) (n1 n2 c1 c2:Nat) (l1 l2:List VD) (e1:l1.length=n1) (e2:l2.length=n2) (h1:n1<=1000) (h2:n2<=1000) (w:World) (r1:ValsAt w A1 l1) (r2:ValsAt w A2 l2) :
  Calls Tryz.prog 137 #[.slice (some ⟨w.heap.size,0,none⟩) 2 2] (w.alloc (.cells #[.slice A1 n1 c1,.slice A2 n2 c2] 33)) fun e w' =>
   ∃ A c,e=.returned (.slice A (l1++l2).length c)/\Made 31 3 vdE (l1++l2) A c w w':=by
 subst e1 e2
 have t0:=(Touch.refl [] w).alloc (.cells #[.slice A1 l1.length c1,.slice A2 l2.length c2] 33)
 have hb:=heap_alloc_new w (.cells #[.slice A1 l1.length c1,.slice A2 l2.length c2] 33)
 obtain ⟨W,hW⟩:∃ W,W=w.alloc (.cells #[.slice A1 l1.length c1,.slice A2 l2.length c2] 33):=⟨_,rfl⟩
 have hWs:w.heap.size < W.heap.size:=by rw [hW,World.size_alloc];omega
 rw [<- hW] at t0 hb ⊢
 have d0:=cell_blk hb (i:=0) rfl
 have d1:=cell_blk hb (i:=1) rfl
 have hlen:(l1++l2).length=l1.length+l2.length:=List.length_append
 have Hlen:=lh hlen
 clear hW hlen
 go_enter Tryz.func137,Tryz.ntmps137
 go_wp2
 refine wp_loop_rounds 3 ?_
 rw [rounds_succ]
 go_wp2
 rw [rounds_succ]
 go_wp2
 rw [rounds_succ]
 go_wp2_with fail
 have hgr:=growV_any (l1.length+l2.length) (by omega) W
 rw [Int.natCast_add] at hgr
 refine hgr.mono ?_
 rintro e w1 ⟨A3,c3,rfl,hm3⟩
 have b1:=hm3.t.blk hb (by simp)
 have f0:=cell_blk b1 (i:=0) rfl
 have f1:=cell_blk b1 (i:=1) rfl
 have T1:=t0.trans0 hm3.t
 go_wp2_with fail
 refine wp_loop_rounds 3 ?_
 rw [rounds_succ]
 go_wp2_with (at_builtin;refine stop ?_)
 refine go ?_
 refine wpList_appK rfl (.tmp 31) (.tmp 32) 33 rfl 31 _ 3 32 info_v5 Tryz.underlying33 rfl (by omega) vdE_length vdE_one A3 0 c3 [] rfl rfl hm3.own
  A1 l1.length c1 l1 rfl rfl (r1.touch0 T1) (by omega) (by omega) ?_
 intro A4 c4 w4 hown4 ht4 hf4
 have hm4:=hm3.step hown4 ht4 hf4
 have b4:=hm4.t.blk hb (by simp)
 have g0:=cell_blk b4 (i:=0) rfl
 have g1:=cell_blk b4 (i:=1) rfl
 rw [List.nil_append] at hm4
 go_wp2_with fail
 rw [rounds_succ]
 go_wp2_with (at_builtin;refine stop ?_)
 refine go ?_
 refine wpList_appK rfl (.tmp 31) (.tmp 32) 33 rfl 31 _ 3 32 info_v5 Tryz.underlying33 rfl (by omega) vdE_length vdE_one A4 l1.length c4 l1 rfl rfl hm4.own
  A2 l2.length c2 l2 rfl rfl (r2.touch0 (t0.trans0 hm4.t)) (by omega) (by omega) ?_
 intro A5 c5 w5 hown5 ht5 hf5
 have hm5:=hm4.step hown5 ht5 hf5
 go_wp2_with fail
 rw [rounds_succ]
 go_wp2
 go_ret
 exact ⟨A5,c5,ret_slice Hlen.out.symm,hm5.own,t0.trans0 hm5.t,fun b hb=>by have:=hm5.f b hb;omega⟩
end
end Go.Proofs.YtafoklilkdnepaaGreatDoor
