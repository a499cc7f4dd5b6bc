/- Part 23 of the texts of this proof, one behind the other. No condition beyond those that its theorems state. -/
import Derived.Test.YtafoklilkdnepaaGreatDoorRi22
import Derived.Deep.DeepCutAuto
set_option maxRecDepth 40000
set_option maxHeartbeats 25600000
namespace Go.Proofs.YtafoklilkdnepaaGreatDoor
section
open Go.RowKit Go.Maps Go.ChangeMaps
theorem inR_zero (A:Option Addr) (c:Nat) (fv:Value) (w:World):Calls Tryz.prog 177 #[.slice A 0 c,.int .i64 0,.int .i64 0,fv] w fun e w'=>e=.returned (.tuple #[])/\w'=w:=by
 go_enter Tryz.func177,Tryz.ntmps177
 go_wp2_with fail
 go_loop [8] (fun y=>y=.int .i64 1) (fun _=>0)
 case atStart=>rfl
 case round =>
  obtain rfl:=hrel
  go_wp2
  go_end0
  exact ⟨rfl,rfl⟩
theorem pdqR_zero (A:Option Addr) (c:Nat) (lim:Int) (fv:Value) (w:World):Calls Tryz.prog 172 #[.slice A 0 c,.int .i64 0,.int .i64 0,.int .i64 lim,fv] w fun e w'=>e=.returned (.tuple #[])/\w'=w:=by
 have Hi:=lh (inR_zero A c fv)
 go_enter Tryz.func172,Tryz.ntmps172
 go_wp2_with fail
 refine wp_loop_rounds 1 ?_
 rw [rounds_succ]
 go_wp2_with fail
 refine (Hi.out _).mono ?_
 rintro e w1 ⟨rfl,hw⟩
 have HW:=lh hw
 clear hw
 go_wp2_with fail
 refine bodyPost_ret (results_none rfl _ _ _) rfl ?_
 exact ⟨rfl,HW.out⟩
theorem sortFR_zero (A:Option Addr) (c:Nat) (fv:Value) (w:World):Calls Tryz.prog 138 #[.slice A 0 c,fv] w fun e w'=>e=.returned (.tuple #[])/\w'=w:=by
 have Hi:=lh fun lim w'=>pdqR_zero A c lim fv w'
 have Hb:=lh fun w'=>Tryz.bits_Len 0 w' (by omega) (by omega)
 go_enter Tryz.func138,Tryz.ntmps138
 go_wp2_with fail
 refine (Hb.out _).mono ?_
 rintro e w1 ⟨rfl,hw⟩
 have HW:=lh hw
 clear hw
 go_wp2_with fail
 refine (Hi.out _ _).mono ?_
 rintro e w2 ⟨rfl,hw⟩
 have HW2:=lh hw
 clear hw
 go_wp2_with fail
 go_end0
 exact ⟨rfl,by rw [HW2.out,HW.out]⟩
theorem sortK_all (B:Option Addr) (c:Nat) (sl:List SL) (ks:List (List VD)) (n:Nat) (hn:sl.length=n) (hbig:n<=1000000) (w:World) (h:SlsAt w sl ks) (hown:OwnK 33 1 slE w B c sl) (hG:∀ s∈sl,∀ x∈fpo s.A,x∉fpo B) (hrl:∀ r∈ks,r.length<=140737000000000) :
  Calls Tryz.prog 138 #[.slice B n c,.func (.func 81) #[] #[]] w fun e w'=>e=.returned (.tuple #[])/\Touch (fpo B) w w'/\∃ T,SortedK ks T sl/\RdK slE w' B (T.map (·.1)):=by
 subst hn
 rcases hown.head with ⟨rfl,h1,h2⟩ | ⟨G,rfl⟩
 ·subst h1
  have hk:ks=[]:=List.eq_nil_of_length_eq_zero h.1.symm
  subst hk
  refine (sortFR_zero none c _ w).mono ?_
  rintro e w' ⟨rfl,rfl⟩
  exact ⟨rfl,Touch.refl _ _,[],⟨.refl _,.nil⟩,RdK.nil _ _ _⟩
 ·by_cases h0:sl.length=0
  ·have h1:=List.eq_nil_of_length_eq_zero h0
   subst h1
   have hk:ks=[]:=List.eq_nil_of_length_eq_zero h.1.symm
   subst hk
   refine (sortFR_zero (some ⟨G,0,none⟩) c _ w).mono ?_
   rintro e w' ⟨rfl,rfl⟩
   exact ⟨rfl,Touch.refl _ _,[],⟨.refl _,.nil⟩,RdK.nil _ _ _⟩
  ·refine (sortK_any G c sl ks sl.length rfl (by omega) hbig w h hown (fun s hs hm=>hG s hs G hm (by simp [fpo])) hrl).mono ?_
   rintro e w' ⟨he,ht,T,h1,h2⟩
   exact ⟨he,by simpa [fpo] using ht,T,h1,h2⟩
theorem wpPO_here {PO:Ending->World->Prop} {e:Ending} {w:World} (h:∀ W,W=w->PO e W):PO e w:=h w rfl
theorem group_any (x:PC) (names:List ByteArray) (aggs:List AG) (hnn:x.names.n=names.length) (han:x.aggs.n=aggs.length) (hln:names.length<=1000) (hla:aggs.length<=1000) (s r:SL) (cs:List CD) (rows:List (List VD)) (w:World)
  (hT:TabAt w s r cs rows) (hN:RdK btE w x.names.A names) (hA:RdK agE w x.aggs.A aggs) (hg:GoodR w rows cs.length) (hc0:0 < cs.length) (hc1:cs.length<=16) (hr2:rows.length<=4096) :
  Calls Tryz.prog 97 #[x.val,.agg #[.slice s.A s.n s.c,.slice r.A r.n r.c]] w (RowsPost (grpE cs names aggs rows) w):=by
 obtain ⟨PO,hPO⟩:∃ PO,PO=RowsPost (grpE cs names aggs rows) w:=⟨_,rfl⟩
 rw [<- hPO]
 have HPO:=lh hPO
 obtain ⟨SA,sn,sc⟩:=s
 obtain ⟨RA,rn,rc⟩:=r
 obtain ⟨k0,k1,⟨A2,n2,c2'⟩,⟨⟨ck,cn,⟨cvk,cvn,cvt⟩,cop⟩,CA,cnn,cc⟩,⟨NA,nn,nc⟩,⟨EA,en,ec⟩,⟨OA,ol,oc⟩,⟨GA,gn,gc⟩,⟨BA,bn,bc⟩,count⟩:=x
 dsimp only at hnn han hN hA ⊢
 simp only [PC.val]
 obtain ⟨h3,h4,h5,h6,slR,h7,h8⟩:=hT
 dsimp only at h3 h4 h5 h6 h7 h8
 subst hnn han
 obtain ⟨W,hW⟩:∃ W,W=(w.alloc (.cells #[.int .i64 k0,.string k1,.slice A2 n2 c2',.int .i64 ck,.string cn,.int .i64 cvk,.int .i64 cvn,.string cvt,.string cop,.slice CA cnn cc,.slice NA names.length nc,.slice EA en ec,.slice OA ol oc,.slice GA aggs.length gc,.slice BA bn bc,.int .i64 count] 49)).alloc (.cells #[.slice SA sn sc,.slice RA rn rc] 27):=⟨_,rfl⟩
 have t0:Touch [] w W:=hW ▸ ((Touch.refl [] w).alloc _).alloc _
 have hbp:=hW ▸ ((Touch.refl [] (w.alloc (.cells #[.int .i64 k0,.string k1,.slice A2 n2 c2',.int .i64 ck,.string cn,.int .i64 cvk,.int .i64 cvn,.string cvt,.string cop,.slice CA cnn cc,.slice NA names.length nc,.slice EA en ec,.slice OA ol oc,.slice GA aggs.length gc,.slice BA bn bc,.int .i64 count] 49))).alloc (.cells #[.slice SA sn sc,.slice RA rn rc] 27)).blk (heap_alloc_new w _) (by simp)
 have hbt:W.heap[w.heap.size+1]?=some (.cells #[.slice SA sn sc,.slice RA rn rc] 27 (0,0)):=by
  have:=heap_alloc_new (w.alloc (.cells #[.int .i64 k0,.string k1,.slice A2 n2 c2',.int .i64 ck,.string cn,.int .i64 cvk,.int .i64 cvn,.string cvt,.string cop,.slice CA cnn cc,.slice NA names.length nc,.slice EA en ec,.slice OA ol oc,.slice GA aggs.length gc,.slice BA bn bc,.int .i64 count] 49)) (.cells #[.slice SA sn sc,.slice RA rn rc] 27)
  rw [World.size_alloc] at this
  exact hW ▸ this
 have q10:W.cell? ⟨w.heap.size,10,none⟩=some (.slice NA names.length nc):=cell_blk hbp rfl
 have q13:W.cell? ⟨w.heap.size,13,none⟩=some (.slice GA aggs.length gc):=cell_blk hbp rfl
 have HW:=lh hW
 have HT0:=lh t0
 have HB:=lh (And.intro hbt (And.intro q10 q13))
 have HRS:=lh (And.intro h3 (And.intro (h5.touch0 t0) (And.intro h6 (And.intro (h7.touch t0 (by simp)) (RdK.touch0 h8 t0)))))
 have HG:=lh (hg.touch0 t0)
 have HAG:=lh (RdK.touch0 hA t0)
 have Hpl:=lh (places_any SA sc sn cs h3.symm (by omega) NA nc names.length names rfl (by omega) W (h5.touch0 t0) (RdK.touch0 hN t0))
 have hmm:=@run_makeMap Tryz.prog
 have HCN:=lh (And.intro hc0 hc1)
 clear hW t0 hbp hbt h3 h4 h5 h6 h7 h8 hN hA hg hPO hc0
 go_enter Tryz.func97,Tryz.ntmps97
 go_wp2_with fail
 rw [<- HW.out]
 refine Hpl.out.mono ?_
 rintro e w1 ⟨A1,m1,rfl,M1'⟩
 have HT1:=lh M1'.t
 obtain ⟨at_,hat⟩:∃ at_,at_=placesV cs names:=⟨_,rfl⟩
 have HAT:=lh (show at_.length=names.length/\∀ i∈at_,i < cs.length from ⟨by rw [hat];unfold placesV;rw [List.length_map],by rw [hat];exact places_lt HCN.out.1⟩)
 have HRA:=lh (hat ▸ M1'.own.rd:RdK naE w1 A1 at_)
 have HPE:=lh (show PO=RowsPost (if errF (errR cs aggs rows at_) (sortR (ordV names.length rows at_))=0 then (0,(sortR (ordV names.length rows at_)).map (rowR_ cs aggs rows at_)) else (errF (errR cs aggs rows at_) (sortR (ordV names.length rows at_)),[])) w by rw [HPO.out,hat];rfl)
 have tm:=(HT1.out.alloc (.map #[] 0))
 obtain ⟨b0,b1,_,_⟩:=blk2 (tm.blk HB.out.1 (by simp))
 have HMP:=lh (IdxAt.made slR w1)
 clear M1' Hpl tm q10 q13 hat HPO
 go_wp2_with fail
 clear hmm b0 b1
 go_loopw [7,31] (fun o i wr=>∃ (k q:Nat) (B:Option Addr) (c:Nat) (es:List EN) (so:List SL),k<=rn/\i=.int .i64 k/\o=.slice B q c/\Hid ((ordK rows at_ k).length=q/\q<=k)/\Hid (IdxAt slR w1.heap.size wr w1.heap.size es)/\Hid (IdxIs yesI (keyI rows at_) k es)/\Hid (OrdAt wr w1.heap.size B c (ordK rows at_ k) es so)/\Hid (Touch [] w1 wr)) (fun _ i _=>rn-(intOf i).toNat)
 case atStart=>exact ⟨0,0,none,0,[],[],by omega,rfl,rfl,lh ⟨rfl,Nat.le_refl _⟩,HMP,lh (IdxIs.zero _ _),lh (OrdAt.nil _ _),lh ((Touch.refl _ _).alloc _)⟩
 case round =>
  obtain ⟨k,q,B,c,es,so,hk,rfl,rfl,HQ,HIX,HIS,HOR,HTw⟩:=hrel
  by_cases hlt:k < rn
  ·have hkR:k < rows.length:=by rw [<- HRS.out.2.2.1];exact hlt
   have hkS:k < slR.length:=by rw [HRS.out.2.2.2.1.1];exact hkR
   have HTr:=lh (HT1.out.trans0 HTw.out)
   obtain ⟨bd,b1,o1,rfl,hadd,hc⟩:=RdK.cells (RdK.touch0 HRS.out.2.2.2.2 HTr.out) 1 slE_length (by omega) k hkS
   rw [Nat.mul_one] at hadd
   have e0:=hc 0 _ rfl
   rw [Nat.add_zero] at e0
   have hsl:=HRS.out.2.2.2.1.2 k hkS hkR
   have hgr:=HG.out _ (List.getElem_mem hkR)
   have hsk:slAt slR k=slR[k]:=by unfold slAt;simp [hkS]
   have hrk:rows.getD k []=rows[k]:=by simp [hkR]
   have hky0:keyI rows at_ k=keyL (pickV rows[k] at_):=by unfold keyI;rw [hrk]
   have hpk0:pickV (rows.getD k []) at_=pickV rows[k] at_:=by rw [hrk]
   obtain ⟨s,hs⟩:∃ s,s=slR[k]:=⟨_,rfl⟩
   obtain ⟨r,hr⟩:∃ r,r=rows[k]:=⟨_,rfl⟩
   rw [<- hs] at e0 hsl hsk
   rw [<- hr] at hsl hgr hky0 hpk0
   obtain ⟨A9,n9,c9⟩:=s
   dsimp only at e0 hsl
   obtain ⟨hn9,hv9⟩:=hsl
   have hpl:(pickV r at_).length=names.length:=by unfold pickV;rw [List.length_map];exact HAT.out.1
   have Hpk:=lh (picked_any A9 c9 n9 r hn9.symm (by rw [hn9,hgr.1];have:=HCN.out.2;omega) A1 m1 names.length at_ HAT.out.1 (by omega) (by rw [hn9,hgr.1];exact HAT.out.2) wr (RdK.touch0 hv9 HTr.out) (RdK.touch0 HRA.out HTw.out))
   have hkp:=fun A c w' (ht:Touch [] W w') (hv:ValsAt w' A (pickV r at_))=>key_pick (w:=W) (at_:=at_) hgr.1 HAT.out.2 (by rw [HAT.out.1];omega) hgr.2 A c w' ht hv
   rw [HAT.out.1,<- hky0] at hkp
   have hkl:(keyI rows at_ k).length<=1000000:=by
    rw [hky0]
    have:=key_le (pickV r at_) fun v hv=>(hgr.2 v (pick_mem (by rw [hgr.1];exact HAT.out.2) v hv)).2
    omega
   have Hkp:=lh hkp
   have HSK:=lh hsk
   obtain ⟨K,hK⟩:∃ K,K=keyI rows at_ k:=⟨_,rfl⟩
   rw [<- hK] at Hkp hkl
   have HK:=lh hK
   have Hpk0:=lh (And.intro hpk0 hpl)
   have hkn:(k:Int) < (rn:Int):=by omega
   clear hc hgr hsk hrk hky0 hs hr hn9 hv9 hpl hkp hK hpk0
   by_cases hex:∃ e∈es,e.key=K
   ·obtain ⟨e0',hem,hek⟩:=hex
    have HLD:=lh (leads_old HIS.out hem (hek.trans HK.out))
    obtain ⟨l1,l2,rfl⟩:=List.append_of_mem hem
    subst hek
    have HHITt:=lh fun w' (t:Touch [] wr w')=>(HIX.out.touch0 t).hit e0' hem (by omega) true
    have HHIT:=lh fun w' (t:Touch [] wr w')=>(HIX.out.touch0 t).hit e0' hem (by omega) false
    clear hem
    obtain ⟨ek,eA,ec,eix⟩:=e0'
    dsimp only at HHIT HHITt Hkp HK hkl
    go_wp2_with fail
    refine Hpk.out.mono ?_
    rintro e w5 ⟨A5,c5,rfl,m5⟩
    have M5:=lh m5
    have Hk5:=lh (Hkp.out A5 c5 w5 (HTr.out.trans0 m5.t) m5.own.rd)
    clear m5 Hpk
    go_wp2_with fail
    refine Hk5.out.mono ?_
    rintro e w6 ⟨rfl,t6⟩
    have HT6:=lh (M5.out.t.trans0 t6)
    have HV6:=lh (RdK.touch0 M5.out.own.rd t6)
    have Hk6:=lh (Hkp.out A5 c5 w6 (HTr.out.trans0 HT6.out) HV6.out)
    clear t6 Hk5
    go_wp2_with (at_lookup;refine stop ?_)
    refine go ?_
    refine wpList_lookup_is rfl (.tmp 39) (.tmp 41) 191 true rfl _ _ _ rfl rfl (HHITt.out _ HT6.out) ?_
    go_wp2_with fail
    refine Hk6.out.mono ?_
    rintro e w7 ⟨rfl,t7⟩
    have HT7:=lh (HT6.out.trans0 t7)
    have Hk7:=lh (Hkp.out A5 c5 w7 (HTr.out.trans0 HT7.out) (RdK.touch0 HV6.out t7))
    clear t7 Hk6
    go_wp2_with fail
    refine Hk7.out.mono ?_
    rintro e w8 ⟨rfl,t8⟩
    have HT8:=lh (HT7.out.trans0 t8)
    clear t8 Hk7
    go_wp2_with (at_lookup;refine stop ?_)
    refine go ?_
    refine wpList_lookup_is rfl (.tmp 54) (.tmp 56) 191 false rfl _ _ _ rfl rfl (HHIT.out _ HT8.out) ?_
    go_wp2_with (at_builtin;refine stop ?_)
    refine go ?_
    have ta:=(Touch.refl [] w8).alloc (.cells #[.slice A9 n9 c9] 33)
    have hix8:=(HIX.out.touch0 HT8.out).touch0 ta
    have hor8:=(HOR.out.touch0 HT8.out).touch0 ta
    have hmem0:(⟨ek,eA,ec,eix⟩:EN)∈l1++⟨ek,eA,ec,eix⟩ :: l2:=by simp
    have hxl:eix.length<=4096:=by
     have:=HIS.out.ix _ hmem0
     dsimp only at this
     rw [this]
     unfold selK
     refine Nat.le_trans (List.length_filter_le _ _) ?_
     rw [List.length_range];omega
    refine wpList_appK (enc:=slE) rfl (.tmp 57) (.tmp 59) 25 rfl 33 _ 1 24 info_r5 Tryz.underlying25 rfl (by omega) slE_length slE_one eA eix.length ec (eix.map (slAt slR)) (by rw [List.length_map]) rfl (hix8.own _ hmem0)
     (some ⟨w8.heap.size,0,none⟩) 1 1 [⟨A9,n9,c9⟩] rfl rfl (RdK.one (enc:=slE) w8 33 ⟨A9,n9,c9⟩ _ rfl) (by omega) (by omega) ?_
    intro A' c' w' hown ht hf
    have hsz8:w1.heap.size<=w8.heap.size:=(HTw.out.trans0 HT8.out).size
    rw [<- HSK.out,show (eix.map (slAt slR))++[slAt slR k]=(eix++[k]).map (slAt slR) by rw [List.map_append];rfl] at hown
    obtain ⟨w'',hrun,hix2,t2⟩:=hix8.put_old (by dsimp only;omega) k A' c' hown ht (fun a ha=>by
     rcases hf a ha with q | q
     ·exact .inl q
     ·exact .inr (by rw [q];exact Nat.le_refl _)) (by rw [World.size_alloc];omega)
    have hor2:=hor8.turn (es':=l1++⟨ek,A',c',eix++[k]⟩ :: l2) ht t2 (fun x hx=>⟨_,hmem0,hx⟩) (fun e he x hx=>by
     rcases List.mem_append.1 he with q | q
     ·exact .inl ⟨e,by simp [q],hx⟩
     ·rcases List.mem_cons.1 q with rfl | q
      ·rcases hf x hx with z | z
       ·exact .inl ⟨_,hmem0,z⟩
       ·exact .inr (by rw [z];exact Nat.le_refl _)
      ·exact .inl ⟨e,by simp [q],hx⟩)
    have Hrun:=lh hrun
    have HX:=lh (And.intro hix2 (And.intro ((HTw.out.trans0 HT8.out).trans0 ta |>.trans ht (fun b hb=>.inr ((HIX.out.low _ hmem0 b hb).1))) (And.intro t2 hor2)))
    clear hrun hix2 t2 hown ht hf ta hix8 hmem0 hsz8 hor2 hor8
    go_wp2_with (at_mapUpdate;refine stop ?_)
    refine go ?_
    refine wpList_update_is rfl (.tmp 51) (.tmp 53) (.tmp 60) 191 rfl _ _ _ rfl rfl rfl Hrun.out ?_
    go_wp2_with fail
    go_roundw
    case rel =>
     have ho:ordK rows at_ (k+1)=ordK rows at_ k:=by unfold ordK;rw [HLD.out]
     exact ⟨k+1,q,B,c,_,so,by omega,by go_num,rfl,lh ⟨by rw [ho];exact HQ.out.1,by have:=HQ.out.2;omega⟩,lh HX.out.1,lh (HIS.out.put_old rfl HK.out A' c'),lh (by rw [ho];exact HX.out.2.2.2),lh (HX.out.2.1.trans HX.out.2.2.1 (fun b hb=>.inr (by simp at hb;omega)))⟩
    case measure=>simp [intOf];omega
   ·have hno:∀ e∈es,e.key≠K:=fun e he h=>hex ⟨e,he,h⟩
    have HLD:=lh (leads_new HIS.out (HK.out ▸ hno))
    have HMISSt:=lh fun w' (t:Touch [] wr w')=>(HIX.out.touch0 t).miss K (by omega) hno true
    have HNO:=lh hno
    clear hex hno
    go_wp2_with fail
    refine Hpk.out.mono ?_
    rintro e w5 ⟨A5,c5,rfl,m5⟩
    have M5:=lh m5
    have Hk5:=lh (Hkp.out A5 c5 w5 (HTr.out.trans0 m5.t) m5.own.rd)
    clear m5 Hpk
    go_wp2_with fail
    refine Hk5.out.mono ?_
    rintro e w6 ⟨rfl,t6⟩
    have HT6:=lh (M5.out.t.trans0 t6)
    have HV6:=lh (M5.out.own.touch0 t6)
    clear t6 Hk5
    go_wp2_with (at_lookup;refine stop ?_)
    refine go ?_
    refine wpList_lookup_is rfl (.tmp 39) (.tmp 41) 191 true rfl _ _ _ rfl rfl (HMISSt.out _ HT6.out) ?_
    go_wp2_with (at_builtin;refine stop ?_)
    refine go ?_
    have ta:=(Touch.refl [] w6).alloc (.cells #[.slice A5 names.length c5] 33)
    have hix6:=(HIX.out.touch0 HT6.out).touch0 ta
    have hor6:=(HOR.out.touch0 HT6.out).touch0 ta
    refine wpList_appK (enc:=slE) rfl (.tmp 47) (.tmp 49) 25 rfl 33 _ 1 24 info_r5 Tryz.underlying25 rfl (by omega) slE_length slE_one B q c so (by rw [HOR.out.sls.1,HQ.out.1]) rfl hor6.own
     (some ⟨w6.heap.size,0,none⟩) 1 1 [⟨A5,names.length,c5⟩] rfl rfl (RdK.one (enc:=slE) w6 33 ⟨A5,names.length,c5⟩ _ rfl) (by have:=HQ.out.2;omega) (by have:=HQ.out.2;omega) ?_
    intro B2 d2 w7 hown7 ht7 hf7
    have hbr:w1.heap.size < wr.heap.size:=HIX.out.mp.lt
    have hor7:=hor6.snoc ⟨A5,names.length,c5⟩ (pickV r at_) Hpk0.out.2.symm (RdK.touch0 HV6.out.rd ta) (fun x hx=>by
     have h1:=M5.out.f x hx
     refine ⟨by omega,(HV6.out.touch0 ta).lt x hx,fun hm => ?_,fun e he hm => ?_⟩
     ·have:=HOR.out.own.lt x hm;omega
     ·have:=(HIX.out.own e he).lt x hm;omega) (fun e he x hx=>(hix6.own e he).lt x hx) (by rw [World.size_alloc];have:=HT6.out.size;omega) hown7 ht7 (fun x hx=>by
     rcases hf7 x hx with q | q
     ·exact .inl q
     ·exact .inr (by rw [q];exact Nat.le_refl _))
    have hix7:=hix6.touch ht7 (fun hm=>by have:=(HOR.out.b0 _ hm).1;omega) (fun e he a ha hm=>(HOR.out.b0 a hm).2 e he ha)
    have HT7:=lh ((HTw.out.trans0 (HT6.out.trans0 ta)).trans ht7 (fun b hb=>.inr (by have:=(HOR.out.b0 b hb).1;omega)))
    have HV7:=lh (RdK.touch (RdK.touch0 HV6.out.rd ta) ht7 (fun x hx hm=>by have:=M5.out.f x hx;have:=HOR.out.own.lt x hm;omega))
    have HOX:=lh (And.intro hor7 hix7)
    have Hk7:=lh (Hkp.out A5 c5 w7 (HT1.out.trans0 HT7.out) HV7.out)
    clear ta hix6 hor6 hown7 ht7 hf7 hor7 hix7 HMISSt
    go_wp2_with fail
    refine Hk7.out.mono ?_
    rintro e w8 ⟨rfl,t8⟩
    have HT8:=lh t8
    have Hk8:=lh (Hkp.out A5 c5 w8 (HT1.out.trans0 (HT7.out.trans0 t8)) (RdK.touch0 HV7.out t8))
    clear t8 Hk7
    go_wp2_with fail
    refine Hk8.out.mono ?_
    rintro e w9 ⟨rfl,t9⟩
    have HT9:=lh (HT8.out.trans0 t9)
    have HMISS:=lh ((HOX.out.2.touch0 HT9.out).miss K (by omega) HNO.out false)
    clear t9 Hk8
    go_wp2_with (at_lookup;refine stop ?_)
    refine go ?_
    refine wpList_lookup_is rfl (.tmp 54) (.tmp 56) 191 false rfl _ _ _ rfl rfl HMISS.out ?_
    go_wp2_with (at_builtin;refine stop ?_)
    refine go ?_
    have ta:=(Touch.refl [] w9).alloc (.cells #[.slice A9 n9 c9] 33)
    have hix8:=(HOX.out.2.touch0 HT9.out).touch0 ta
    have hor8:=(HOX.out.1.touch0 HT9.out).touch0 ta
    refine wpList_appK (enc:=slE) rfl (.tmp 57) (.tmp 59) 25 rfl 33 _ 1 24 info_r5 Tryz.underlying25 rfl (by omega) slE_length slE_one none 0 0 [] rfl rfl (OwnK.nil _ _ _ _)
     (some ⟨w9.heap.size,0,none⟩) 1 1 [⟨A9,n9,c9⟩] rfl rfl (RdK.one (enc:=slE) w9 33 ⟨A9,n9,c9⟩ _ rfl) (by omega) (by omega) ?_
    intro A' c' w' hown ht hf
    have hsz8:w1.heap.size<=w9.heap.size:=(HT7.out.trans0 HT9.out).size
    rw [List.nil_append,<- HSK.out] at hown
    have hfn:∀ a∈fpo A',(w9.alloc (.cells #[.slice A9 n9 c9] 33)).heap.size<=a:=fun a ha=>by
     rcases hf a ha with q | q
     ·simp [fpo] at q
     ·rw [q];exact Nat.le_refl _
    obtain ⟨w'',hrun,hix2,t2⟩:=hix8.put_new K (by omega) HNO.out k A' c' hown ht hfn (by rw [World.size_alloc];omega)
    have hor2:=hor8.turn (es':=es++[⟨K,A',c',[k]⟩]) ht t2 (fun x hx=>by simp [fpo] at hx) (fun e he x hx=>by
     rcases List.mem_append.1 he with q | q
     ·exact .inl ⟨e,q,hx⟩
     ·rw [List.mem_singleton.1 q] at hx
      exact .inr (hfn x hx))
    have Hrun:=lh hrun
    have HX:=lh (And.intro hix2 (And.intro (((HT7.out.trans0 HT9.out).trans0 ta).trans0 ht) (And.intro t2 hor2)))
    clear hrun hix2 t2 hown ht hf ta hix8 hsz8 hfn hor2 hor8
    go_wp2_with (at_mapUpdate;refine stop ?_)
    refine go ?_
    refine wpList_update_is rfl (.tmp 51) (.tmp 53) (.tmp 60) 191 rfl _ _ _ rfl rfl rfl Hrun.out ?_
    go_wp2_with fail
    go_roundw
    case rel =>
     have ho:ordK rows at_ (k+1)=ordK rows at_ k++[pickV r at_]:=by unfold ordK;rw [HLD.out,List.map_append,List.map_singleton,Hpk0.out.1]
     have hi:=HIS.out.put_new rfl (HK.out ▸ HNO.out) A' c'
     rw [<- HK.out] at hi
     exact ⟨k+1,q+1,B2,d2,_,_,by omega,by go_num,rfl,lh ⟨by rw [ho,List.length_append,HQ.out.1];rfl,by have:=HQ.out.2;omega⟩,lh HX.out.1,lh hi,lh (by rw [ho];exact HX.out.2.2.2),lh (HX.out.2.1.trans HX.out.2.2.1 (fun b hb=>.inr (by simp at hb;omega)))⟩
    case measure=>simp [intOf];omega
  ·obtain rfl:k=rn:=by omega
   have hkr:k=rows.length:=HRS.out.2.2.1
   have HQK:=lh (show (ordK rows at_ rows.length).length=q/\q<=rows.length by rw [<- hkr];exact HQ.out)
   have HORK:=lh (hkr ▸ HOR.out:OrdAt wr w1.heap.size B c (ordK rows at_ rows.length) es so)
   have HISK:=lh (hkr ▸ HIS.out:IdxIs yesI (keyI rows at_) rows.length es)
   have p10:=(HT1.out.trans0 HTw.out).cell HB.out.2.1 (by simp)
   obtain ⟨wa,hwa⟩:∃ wa,wa=wr:=⟨_,rfl⟩
   subst hwa
   have HBLT:=lh (show w1.heap.size < wa.heap.size from HIX.out.mp.lt)
   obtain ⟨bz,hbz⟩:∃ bz,bz=decide (names.length=0/\q=0):=⟨_,rfl⟩
   have HBZ:=lh hbz
   clear HQ HOR HIS hkr HMP hlt hbz
   go_upto_region 13 with fail
   go_cut [70] (fun c wx=>c=.bool bz/\wx=wa)
   case first =>
    by_cases h1:names.length=0
    ·by_cases h2:q=0
     ·have HD:=lh (HBZ.out.trans (decide_eq_true (And.intro h1 h2)))
      have z1:((names.length:Int)==0)=true:=by rw [h1];rfl
      have z2:((q:Int)==0)=true:=by rw [h2];rfl
      clear h1 h2
      go_wp2_with fail
      go_meet
      exact ⟨by rw [HD.out],rfl⟩
     ·have HD:=lh (HBZ.out.trans (decide_eq_false (fun h:names.length=0/\q=0=>h2 h.2)))
      have z1:((names.length:Int)==0)=true:=by rw [h1];rfl
      have z2:((q:Int)==0)=false:=by rw [beq_eq_false_iff_ne];omega
      clear h1 h2
      go_wp2_with fail
      go_meet
      exact ⟨by rw [HD.out],rfl⟩
    ·have HD:=lh (HBZ.out.trans (decide_eq_false (fun h:names.length=0/\q=0=>h1 h.1)))
     have z1:((names.length:Int)==0)=false:=by rw [beq_eq_false_iff_ne];omega
     clear h1
     go_wp2_with fail
     go_meet
     exact ⟨by rw [HD.out],rfl⟩
   case rest =>
    obtain ⟨rfl,hwc⟩:=hcut
    subst hwc
    clear p10
    go_step
    go_cut [7] (fun o wx=>∃ (B2:Option Addr) (q2 c2:Nat) (s2:List SL),o=.slice B2 q2 c2/\Hid (s2.length=q2/\q2<=5000/\OrdAt wx w1.heap.size B2 c2 (ordV names.length rows at_) es s2/\IdxAt slR w1.heap.size wx w1.heap.size es/\Touch [] w1 wx))
    case first =>
     cases bz
     ·have hz:¬ (names.length=0/\q=0):=of_decide_eq_false HBZ.out.symm
      have ho:ordV names.length rows at_=ordK rows at_ rows.length:=by
       unfold ordV
       rw [if_neg fun h=>hz ⟨h.1,by rw [<- HQK.out.1,h.2];rfl⟩]
      have HO:=lh ho
      clear hz ho
      go_wp2_with fail
      go_meet
      exact ⟨B,q,c,so,rfl,lh ⟨by rw [HORK.out.sls.1,HQK.out.1],by have:=HQK.out.2;omega,by rw [HO.out];exact HORK.out,HIX.out,HTw.out⟩⟩
     ·have hz:names.length=0/\q=0:=of_decide_eq_true HBZ.out.symm
      have hk0:ordK rows at_ rows.length=[]:=List.eq_nil_of_length_eq_zero (by rw [HQK.out.1];exact hz.2)
      have ho:ordV names.length rows at_=ordK rows at_ rows.length++[[]]:=by
       unfold ordV
       rw [if_pos ⟨hz.1,hk0⟩,hk0];rfl
      have HO:=lh (And.intro ho hz.2)
      clear hz ho hk0
      go_wp2_with (at_builtin;refine stop ?_)
      refine go ?_
      have ta:=(Touch.refl [] wc).alloc (.cells #[.slice none 0 0] 33)
      have hor6:=HORK.out.touch0 ta
      have hix6:=HIX.out.touch0 ta
      refine wpList_appK (enc:=slE) rfl (.tmp 71) (.tmp 72) 25 rfl 33 _ 1 24 info_r5 Tryz.underlying25 rfl (by omega) slE_length slE_one B q c so (by rw [HORK.out.sls.1,HQK.out.1]) rfl hor6.own
       (some ⟨wc.heap.size,0,none⟩) 1 1 [⟨none,0,0⟩] rfl rfl (RdK.one (enc:=slE) wc 33 ⟨none,0,0⟩ _ rfl) (by have:=HQK.out.2;omega) (by have:=HQK.out.2;omega) ?_
      intro B2 d2 w7 hown7 ht7 hf7
      have hor7:=hor6.snoc ⟨none,0,0⟩ [] rfl (RdK.nil _ _ _) (by simp [fpo]) (fun e he x hx=>(hix6.own e he).lt x hx) (by rw [World.size_alloc];have:=HBLT.out;omega) hown7 ht7 (fun x hx=>by
       rcases hf7 x hx with q | q
       ·exact .inl q
       ·exact .inr (by rw [q];exact Nat.le_refl _))
      have hix7:=hix6.touch ht7 (fun hm=>by have:=(HORK.out.b0 _ hm).1;omega) (fun e he a ha hm=>(HORK.out.b0 a hm).2 e he ha)
      have HT7:=lh ((HTw.out.trans0 ta).trans ht7 (fun b hb=>.inr (by have:=(HORK.out.b0 b hb).1;omega)))
      have HOX:=lh (And.intro hor7 hix7)
      clear ta hor6 hix6 hown7 ht7 hf7 hor7 hix7
      go_wp2_with fail
      go_meet
      exact ⟨B2,q+1,d2,so++[⟨none,0,0⟩],rfl,lh ⟨by rw [List.length_append,HORK.out.sls.1,HQK.out.1];rfl,by have:=HQK.out.2;omega,by rw [HO.out.1];exact HOX.out.1,HOX.out.2,HT7.out⟩⟩
    case rest =>
     obtain ⟨B2,q2,c2,s2,rfl,H2⟩:=hcut
     obtain ⟨w2,hw2⟩:∃ w2,w2=wc:=⟨_,rfl⟩
     subst hw2
     obtain ⟨KS,hKS⟩:∃ KS,KS=ordV names.length rows at_:=⟨_,rfl⟩
     have HKL:=lh (show ∀ K∈KS,K.length<=1000/\∀ v∈K,∃ r∈rows,v∈r from fun K hK=>by
      rw [hKS] at hK
      have:=ordV_mem (at_:=at_) (rows:=rows) (nn:=names.length) (n:=cs.length) (fun r hr=>(HG.out r hr).1) HAT.out.2 hK
      exact ⟨by have:=HAT.out.1;omega,this.2⟩)
     rw [<- hKS] at H2 HPE
     clear hKS HORK HQK HBZ HTw HIX
     go_upto_region 15 with fail
     go_cut [75] (fun v wx=>v=.tuple #[]/\∃ T,Hid (SortedK KS T s2/\RdK slE wx B2 (T.map (·.1))/\Touch (fpo B2) w2 wx))
     case first =>
      have Hso:=lh (sortK_all B2 c2 s2 KS q2 H2.out.1 (by have:=H2.out.2.1;omega) w2 H2.out.2.2.1.sls H2.out.2.2.1.own (fun s hs x hx=>(H2.out.2.2.1.s0 s hs x hx).2.2.1) (fun K hK=>by have:=(HKL.out K hK).1;omega))
      go_wp2_with fail
      refine Hso.out.mono ?_
      rintro e w3 ⟨rfl,t3,T,h1,h2⟩
      have H3:=lh (And.intro h1 (And.intro h2 t3))
      clear h1 h2 t3
      go_wp2_with fail
      go_meet
      exact ⟨rfl,T,H3⟩
     case rest =>
      obtain ⟨rfl,T,H3⟩:=hcut
      obtain ⟨w3,hw3⟩:∃ w3,w3=wc:=⟨_,rfl⟩
      subst hw3
      have HIX:=lh (H2.out.2.2.2.1.touch H3.out.2.2 (fun hm=>by have:=(H2.out.2.2.1.b0 _ hm).1;omega) (fun e he a ha hm=>(H2.out.2.2.1.b0 a hm).2 e he ha))
      have HT3:=lh (H2.out.2.2.2.2.trans H3.out.2.2 (fun b hb=>.inr (by have:=(H2.out.2.2.1.b0 b hb).1;omega)))
      have HTM:=lh (show ∀ x∈T,x.1.n=x.2.length/\ValsAt w3 x.1.A x.2/\x.2.length<=1000/\∀ v∈x.2,∃ r∈rows,v∈r from fun x hx=>by
       obtain ⟨i,hi,e⟩:=List.mem_iff_getElem.1 (H3.out.1.1.mem_iff.1 hx)
       rw [List.length_zip] at hi
       rw [List.getElem_zip] at e
       subst e
       have h1:=H2.out.2.2.1.sls.2 i (by omega) (by omega)
       have h2:=HKL.out KS[i] (List.getElem_mem _)
       exact ⟨h1.1,RdK.touch h1.2 H3.out.2.2 (fun y hy=>(H2.out.2.2.1.s0 _ (List.getElem_mem _) y hy).2.2.1),h2.1,h2.2⟩)
      have hTl:T.length=q2:=by
       have h1:=H3.out.1.1.length_eq
       rw [List.length_zip,H2.out.2.2.1.sls.1] at h1
       have:=H2.out.1
       have:=H2.out.2.2.1.sls.1
       omega
      have HS:=lh (show T.map (·.2)=sortR KS from sortR_of ⟨by
       have h1:=H3.out.1.1.map (fun x:SL × List VD=>x.2)
       rwa [List.map_snd_zip (by rw [H2.out.2.2.1.sls.1];exact Nat.le_refl _)] at h1,H3.out.1.2⟩)
      have HRT:=lh H3.out.2.1
      have HTL:=lh (And.intro hTl H2.out.2.1)
      clear H2 H3 HKL hTl
      have HER:=lh (show PO=RowsPost (if errF (errR cs aggs rows at_) (T.map (·.2))=0 then (0,(T.map (·.2)).map (rowR_ cs aggs rows at_)) else (errF (errR cs aggs rows at_) (T.map (·.2)),[])) w by rw [HPE.out,HS.out])
      clear HPE HS
      go_wp2_with fail
      go_loopw [14,78] (fun o i wr=>∃ (k:Nat) (B:Option Addr) (c:Nat),k<=q2/\i=.int .i64 k/\o=.slice B k c/\Hid (OwnR 33 w3.heap.size wr B c (((T.map (·.2)).take k).map (rowR_ cs aggs rows at_)))/\Hid (∀ b∈fpo B,w3.heap.size<=b)/\Hid (∀ j (_:j < k) (h2:j < (T.map (·.2)).length),errR cs aggs rows at_ (T.map (·.2))[j]=0)/\Hid (Touch [] w3 wr)) (fun _ i _=>q2-(intOf i).toNat)
      case atStart=>exact ⟨0,none,0,by omega,rfl,rfl,lh (OwnR.nil _ _ _),lh (by simp [fpo]),lh (fun j h=>absurd h (by omega)),lh (Touch.refl _ _)⟩
      case round =>
       obtain ⟨k,B,c,hk,rfl,rfl,HO,HF,HZ,HTw⟩:=hrel
       obtain ⟨wo,hwo⟩:∃ wo,wo=wr:=⟨_,rfl⟩
       subst hwo
       by_cases hlt:k < q2
       ·have hkT:k < T.length:=by rw [HTL.out.1];exact hlt
        obtain ⟨bd,b1,o1,rfl,hadd,hc⟩:=RdK.cells (RdK.touch0 HRT.out HTw.out) 1 slE_length (by omega) k (by rw [List.length_map];exact hkT)
        rw [Nat.mul_one] at hadd
        have e0:=hc 0 _ rfl
        rw [Nat.add_zero,List.getElem_map] at e0
        have htm:=HTM.out _ (List.getElem_mem hkT)
        have hSk:(T.map (·.2)).take (k+1)=(T.map (·.2)).take k++[T[k].2]:=by
         rw [List.take_succ_eq_append_getElem (by rw [List.length_map];exact hkT),List.getElem_map]
        have hEr:∀ z:Int,errR cs aggs rows at_ T[k].2=z->z≠0->errF (errR cs aggs rows at_) (T.map (·.2))=z:=fun z hz h0=>by
         have h1:k < (T.map (·.2)).length:=by rw [List.length_map];exact hkT
         have:=errF_at (g:=errR cs aggs rows at_) (l:=T.map (·.2)) (j:=k) h1 (fun j hj=>HZ.out j hj (by omega)) (by rw [List.getElem_map,hz];exact h0)
         rw [this,List.getElem_map,hz]
        have hZ2:errR cs aggs rows at_ T[k].2=0->∀ j (_:j < k+1) (h2:j < (T.map (·.2)).length),errR cs aggs rows at_ (T.map (·.2))[j]=0:=fun hz j hj h2=>by
         by_cases hjk:j < k
         ·exact HZ.out j hjk h2
         ·obtain rfl:j=k:=by omega
          rw [List.getElem_map];exact hz
        obtain ⟨x,hx⟩:∃ x,x=T[k]:=⟨_,rfl⟩
        rw [<- hx] at e0 htm hSk hEr hZ2
        obtain ⟨⟨A9,n9,c9⟩,K⟩:=x
        dsimp only at e0 htm hSk hEr hZ2
        obtain ⟨hn9,hv9,hKl,hKm⟩:=htm
        subst hn9
        have HSk:=lh (And.intro hSk (And.intro hEr hZ2))
        have HV9:=lh (And.intro hv9 hKm)
        have Hcl:=lh (cloneV_any A9 c9 K.length K rfl (by omega) wo (RdK.touch0 hv9 HTw.out))
        have hkn:(k:Int) < (q2:Int):=by omega
        -- what stands under the key
        obtain ⟨G,hG⟩:∃ G,G=grpR rows at_ (keyL K):=⟨_,rfl⟩
        have hKb:(keyL K).length<=1000000:=by
         have:=key_le K fun v hv=>by obtain ⟨r,hr,hm⟩:=hKm v hv;exact ((HG.out r hr).2 v hm).2
         omega
        have hGm:∀ r∈G,r∈rows:=fun r hr=>grpR_mem (hG ▸ hr)
        have hGl:G.length<=4096:=by rw [hG];exact Nat.le_trans (grpR_le _ _ _) hr2
        have hlk:∃ (gA:Option Addr) (gc:Nat),∀ w',Touch [] w3 w'->(Instr.lookup 191 (.map (some w1.heap.size)) (.string (S (keyL K))) false).run Tryz.prog w'=.ok (.slice gA G.length gc) w'/\RowsAt w' gA G:=by
         by_cases hex:∃ e∈es,e.key=keyL K
         ·obtain ⟨e,he,hek⟩:=hex
          have hix:e.ix=selK yesI (keyI rows at_) rows.length (keyL K):=by rw [HISK.out.ix e he,hek]
          refine ⟨e.A,e.c,fun w' t => ?_⟩
          have hi:=HIX.out.touch0 t
          have h1:=hi.hit e he (by rw [hek];omega) false
          rw [hek] at h1
          have hgl:G.length=e.ix.length:=by rw [hG,hix];unfold grpR;rw [List.length_map]
          rw [hgl]
          refine ⟨h1,e.ix.map (slAt slR), ?_,(hi.own e he).rd⟩
          have hp:=(HRS.out.2.2.2.1.touch (HT1.out.trans0 (HT3.out.trans0 t)) (by simp)).pick e.ix (fun i hi=>by rw [hix] at hi;exact selK_lt i hi)
          rw [hix] at hp
          rw [hG,hix]
          exact hp
         ·have hno:∀ e∈es,e.key≠keyL K:=fun e he h=>hex ⟨e,he,h⟩
          have hg0:G=[]:=by rw [hG];unfold grpR;rw [HISK.out.none_ hno];rfl
          refine ⟨none,0,fun w' t => ?_⟩
          have h1:=(HIX.out.touch0 t).miss (keyL K) (by omega) hno false
          rw [hg0]
          exact ⟨h1,[],⟨rfl,fun i h=>absurd h (by simp)⟩,RdK.nil _ _ _⟩
        obtain ⟨gA,gc,hlk⟩:=hlk
        have HLK:=lh hlk
        have HGG:=lh (And.intro hGm (And.intro hGl hKb))
        have Hag:=lh (show aggR cs aggs rows at_ K=aggs.map fun a=>aggOf cs a G by unfold aggR;rw [hG])
        clear hc hx hSk hEr hZ2 hv9 hKm hlk hGm hGl hKb hG
        go_wp2_with fail
        refine Hcl.out.mono ?_
        rintro e w4 ⟨A4,c4,rfl,m4⟩
        have M4:=lh m4
        have p13:=(HT1.out.trans0 (HT3.out.trans0 (HTw.out.trans0 m4.t))).cell HB.out.2.2 (by simp)
        clear m4 Hcl e0
        go_wp2_with fail
        clear p13
        go_loopw [17,87] (fun o j wq=>∃ (i m:Nat) (A:Option Addr) (d:Nat),i<=aggs.length/\j=.int .i64 i/\o=.slice A m d/\Hid ((K++((aggs.take i).map fun a=>(aggOf cs a G).2)).length=m/\m<=1000+i)/\Hid (Made 31 3 vdE (K++((aggs.take i).map fun a=>(aggOf cs a G).2)) A d wo wq)/\Hid (∀ y (_:y < i) (h2:y < aggs.length),(aggOf cs aggs[y] G).1=0)) (fun _ j _=>aggs.length-(intOf j).toNat)
        case atStart=>exact ⟨0,K.length,A4,c4,by omega,rfl,rfl,lh ⟨by simp,by omega⟩,lh (by simpa using M4.out),lh (fun y h=>absurd h (by omega))⟩
        case round =>
         obtain ⟨i,m,A,d,hi,rfl,rfl,HM,HW2,HY⟩:=hrel
         obtain ⟨wq,hwq⟩:∃ wq,wq=wr:=⟨_,rfl⟩
         subst hwq
         by_cases hli:i < aggs.length
         ·have HT4:=lh (HTw.out.trans0 HW2.out.t)
          obtain ⟨ad,gb,go_,rfl,hadd,hc⟩:=RdK.cells (RdK.touch0 HAG.out (HT1.out.trans0 (HT3.out.trans0 HT4.out))) 3 agE_length (by omega) i hli
          have hlen:=List.take_succ_eq_append_getElem hli
          obtain ⟨a,ha⟩:∃ a,a=aggs[i]:=⟨_,rfl⟩
          rw [<- ha] at hc hlen
          have hnx:K++((aggs.take (i+1)).map fun a=>(aggOf cs a G).2)=(K++((aggs.take i).map fun a=>(aggOf cs a G).2))++[(aggOf cs a G).2]:=by
           rw [hlen,List.map_append,List.append_assoc];rfl
          have hY2:(aggOf cs a G).1=0->∀ y (_:y < i+1) (h2:y < aggs.length),(aggOf cs aggs[y] G).1=0:=fun hz y hy h2=>by
           by_cases hyi:y < i
           ·exact HY.out y hyi h2
           ·obtain rfl:y=i:=by omega
            rw [<- ha];exact hz
          have hEa:∀ z:Int,(aggOf cs a G).1=z->z≠0->errR cs aggs rows at_ K=z:=fun z hz h0=>by
           unfold errR
           rw [Hag.out]
           have h1:i < (aggs.map fun a=>aggOf cs a G).length:=by rw [List.length_map];exact hli
           have:=errF_at (g:=fun x:Int × VD=>x.1) (l:=aggs.map fun a=>aggOf cs a G) (j:=i) h1 (fun y hy=>by rw [List.getElem_map];exact HY.out y hy (by omega)) (by rw [List.getElem_map,<- ha,hz];exact h0)
           rw [this,List.getElem_map,<- ha,hz]
          have hkc:=fun w' (t:Touch [] w3 w')=>keyOf_any A9 c9 K.length K rfl w' (RdK.touch0 HV9.out.1 t) (by omega) (fun v hv=>by
           obtain ⟨r,hr,hm⟩:=HV9.out.2 v hv
           exact (((HG.out r hr).2 v hm).1.touch0 (HT1.out.trans0 HT3.out)).touch0 t) (fun v hv=>by obtain ⟨r,hr,hm⟩:=HV9.out.2 v hv;exact ((HG.out r hr).2 v hm).2)
          have hoc:=fun w' (t:Touch [] w3 w')=>aggOf_any a SA sn sc cs HRS.out.1.symm (by have:=HRS.out.1;omega) gA G.length gc G rfl (by have:=HGG.out.2.1;omega) (fun _ r hr=>by
           have h1:=HG.out r (HGG.out.1 r hr)
           refine ⟨?_,by omega,fun v hv=>(h1.2 v hv).2⟩
           rw [h1.1]
           rcases hp:placeV cs a.col with _ | z
           ·exact HCN.out.1
           ·exact placeV_lt hp) w' (HRS.out.2.1.touch0 (HT1.out.trans0 (HT3.out.trans0 t))) (HLK.out w' t).2
          obtain ⟨av,hav⟩:∃ av,av=aggOf cs a G:=⟨_,rfl⟩
          rw [<- hav] at hoc hnx hY2 hEa
          obtain ⟨er,⟨vk,vn,vt⟩⟩:=av
          obtain ⟨op,col,nm⟩:=a
          obtain ⟨KB,hKB⟩:∃ KB,KB=S (keyL K):=⟨_,rfl⟩
          have hlk:=fun w' (t:Touch [] w3 w')=>(HLK.out w' t).1
          rw [<- hKB] at hkc hlk
          simp only [VD.val] at hoc
          dsimp only at hnx hY2 hEa
          have e0:=hc 0 _ rfl
          have e1:=hc 1 _ rfl
          have e2:=hc 2 _ rfl
          rw [Nat.add_zero] at e0
          have ta:=(Touch.refl [] wq).alloc (.cells #[.string op,.string col,.string nm] 79)
          have hba:=heap_alloc_new wq (.cells #[.string op,.string col,.string nm] 79)
          have hb4:=(HT1.out.trans0 (HT3.out.trans0 HT4.out)).blk HB.out.1 (by simp)
          obtain ⟨W5,hW5⟩:∃ W5,W5=wq.alloc (.cells #[.string op,.string col,.string nm] 79):=⟨_,rfl⟩
          have HW5:=lh hW5
          rw [<- hW5] at ta hba
          have T5:=HT4.out.trans0 ta
          have HT5:=lh (And.intro ta (And.intro hba (show W5.heap.size=wq.heap.size+1 by rw [hW5,World.size_alloc])))
          have Hky:=lh fun w' (t:Touch [] W5 w')=>hkc w' (T5.trans0 t)
          have Hof:=lh fun w' (t:Touch [] W5 w')=>hoc w' (T5.trans0 t)
          obtain ⟨a0,a1,a2,_,_,_⟩:=blk3 hba
          obtain ⟨s0,_,_,_⟩:=blk2 (ta.blk hb4 (by simp))
          have HK:Hid (∀ w',Touch [] W5 w'->w'.cell? ⟨wq.heap.size,0,none⟩=some (.string op)/\w'.cell? ⟨wq.heap.size,1,none⟩=some (.string col)/\w'.cell? ⟨wq.heap.size,2,none⟩=some (.string nm)/\w'.cell? ⟨w.heap.size+1,0,none⟩=some (.slice SA sn sc)/\(Instr.lookup 191 (.map (some w1.heap.size)) (.string KB) false).run Tryz.prog w'=.ok (.slice gA G.length gc) w'):=lh fun w' t=>⟨t.cell a0 (by simp),t.cell a1 (by simp),t.cell a2 (by simp),t.cell s0 (by simp),hlk w' (T5.trans0 t)⟩
          have HTd:=lh (Touch.refl [] W5).drew
          have HTe:Hid (Touch [] W5 (W5.alloc (.cells #[.int .i64 0,.int .i64 0,.string ⟨#[]⟩] 31)).drew):=lh ((Touch.refl [] W5).alloc _).drew
          have HBe:=lh ((Touch.refl [] (W5.alloc (.cells #[.int .i64 0,.int .i64 0,.string ⟨#[]⟩] 31))).drew.blk (heap_alloc_new W5 (.cells #[.int .i64 0,.int .i64 0,.string ⟨#[]⟩] 31)) (by simp))
          have HNX:=lh (And.intro hnx (And.intro hY2 hEa))
          have HT55:=lh T5
          have hii:(i:Int) < (aggs.length:Int):=by omega
          clear hc hlen ha hnx hY2 hEa hkc hoc hav hKB hlk ta hba hb4 hW5 T5 a0 a1 a2 s0
          go_wp2_with fail
          rw [<- HW5.out]
          clear e0 e1 e2
          by_cases hz:er=0
          ·subst hz
           go_region_held3 (fun w'=>w'.cell? ⟨wq.heap.size,0,none⟩=some (.string op)/\w'.cell? ⟨wq.heap.size,1,none⟩=some (.string col)/\w'.cell? ⟨wq.heap.size,2,none⟩=some (.string nm)/\w'.cell? ⟨w.heap.size+1,0,none⟩=some (.slice SA sn sc)/\(Instr.lookup 191 (.map (some w1.heap.size)) (.string KB) false).run Tryz.prog w'=.ok (.slice gA G.length gc) w')
            (first
             | with_reducible exact HK.out _ HTd.out
             | with_reducible exact HK.out _ HTe.out
             | with_reducible exact HK.out _ T6
             | with_reducible exact HK.out _ (T6.alloc _)
             | with_reducible exact HK.out _ T7
             | with_reducible exact HK.out _ (T7.alloc _)
             | exact HK.out _ (T7.trans (touch3 _ _ _ _ _) (fun b hb=>.inr (by simp at hb;omega))))
            (first
             | (go_at_call 136;refine (Hky.out _ HTe.out).mono ?_;rintro e w6 ⟨rfl,t6⟩;have h6:Touch [] (W5.alloc (.cells #[.int .i64 0,.int .i64 0,.string ⟨#[]⟩] 31)).drew w6:=(by with_reducible exact t6);have hbv6:=h6.blk HBe.out (by simp);have T6:Touch [] W5 w6:=HTe.out.trans0 h6;have s6:=T6.size)
             | (go_at_call 136;refine (Hky.out _ HTd.out).mono ?_;rintro e w6 ⟨rfl,t6⟩;have h6:Touch [] W5.drew w6:=(by with_reducible exact t6);have T6:Touch [] W5 w6:=HTd.out.trans0 h6;have s6:=T6.size)
             | (go_at_call 139;refine (Hof.out _ (T6.alloc _)).mono ?_;rintro e w7 ⟨rfl,t7⟩;have h7:Touch [] (w6.alloc (.cells #[.int .i64 0,.int .i64 0,.string ⟨#[]⟩] 31)) w7:=(by with_reducible exact t7);have T7:Touch [] W5 w7:=(T6.alloc _).trans0 h7;have hbv:=h7.blk (heap_alloc_new w6 (.cells #[.int .i64 0,.int .i64 0,.string ⟨#[]⟩] 31)) (by simp);obtain ⟨z0,z1,z2,y0,y1,y2⟩:=blk3 hbv)
             | (go_at_call 139;refine (Hof.out _ T6).mono ?_;rintro e w7 ⟨rfl,t7⟩;have h7:Touch [] w6 w7:=(by with_reducible exact t7);have T7:Touch [] W5 w7:=T6.trans0 h7;have hbv:=h7.blk hbv6 (by simp);obtain ⟨z0,z1,z2,y0,y1,y2⟩:=blk3 hbv)
             | (go_at_call 139;refine (Hof.out _ T6).mono ?_;rintro e w7 ⟨rfl,t7⟩;have h7:Touch [] w6 w7:=(by with_reducible exact t7);have T7:Touch [] W5 w7:=T6.trans0 h7))
           all_goals (go_wp2_with (at_builtin;refine stop ?_))
           all_goals
            refine go ?_
            refine wpList_here ?_
            intro W8 hW8
            have T8:Touch [] W5 W8:=by
             rw [hW8]
             first
              | with_reducible exact (T7.alloc _).alloc _
              | exact (T7.trans (touch3 _ _ _ _ _) (fun b hb=>.inr (by simp at hb;omega))).alloc _
            have hrd:∀ g,g+1=W8.heap.size->RdK vdE W8 (some ⟨g,0,none⟩) [⟨vk,vn,vt⟩]:=by
             obtain ⟨X,hX⟩:∃ X:World,W8=X.alloc (.cells #[.int .i64 vk,.int .i64 vn,.string vt] 31):=⟨_,hW8⟩
             intro g hg
             rw [hX] at hg ⊢
             rw [World.size_alloc] at hg
             obtain rfl:g=X.heap.size:=by omega
             exact RdK.one (enc:=vdE) X 31 ⟨vk,vn,vt⟩ _ rfl
            have hMb:=HM.out.2
            refine wpList_appK (enc:=vdE) rfl (.tmp 105) (.tmp 107) 33 rfl 31 _ 3 32 info_v5 Tryz.underlying33 rfl (by omega) vdE_length vdE_one A m d _ HM.out.1 rfl (HW2.out.own.touch0 (HT5.out.1.trans0 T8))
             _ 1 _ [⟨vk,vn,vt⟩] rfl rfl (hrd _ (by rw [hW8];simp)) (by omega) (by omega) ?_
            intro A8 c8 w9 hown ht hf
            have HX:=lh ((HW2.out.touch0 (HT5.out.1.trans0 T8)).step hown ht hf)
            clear hown ht hf hrd T8 hW8
            go_wp2_with fail
            go_roundw
            case rel=>exact ⟨i+1,m+1,A8,c8,by omega,by go_num,rfl,lh ⟨by rw [HNX.out.1,List.length_append,HM.out.1];rfl,by omega⟩,lh (by rw [HNX.out.1];exact HX.out),lh (HNX.out.2.1 (by trivial))⟩
            case measure=>simp [intOf];omega
          ·have hq1:(er==0)=false:=by rw [beq_eq_false_iff_ne];exact hz
           have hq2:(er != 0)=true:=by rw [bne,hq1];rfl
           have HFN:=lh (show ∀ w',Touch [] W5 w'->PO (.returned (.tuple #[.slice none 0 0,.int .i64 er])) w' from fun w' t=>by
            rw [HER.out,HSk.out.2.1 er (HNX.out.2.2 er rfl hz) hz,if_neg hz]
            exact ⟨⟨none,0,0⟩,rfl,rfl,⟨[],⟨rfl,fun i h=>absurd h (by simp)⟩,RdK.nil _ _ _⟩,HT0.out.trans0 (HT1.out.trans0 (HT3.out.trans0 (HT55.out.trans0 t)))⟩)
           clear hz
           go_region_held3 (fun w'=>w'.cell? ⟨wq.heap.size,0,none⟩=some (.string op)/\w'.cell? ⟨wq.heap.size,1,none⟩=some (.string col)/\w'.cell? ⟨wq.heap.size,2,none⟩=some (.string nm)/\w'.cell? ⟨w.heap.size+1,0,none⟩=some (.slice SA sn sc)/\(Instr.lookup 191 (.map (some w1.heap.size)) (.string KB) false).run Tryz.prog w'=.ok (.slice gA G.length gc) w')
            (first
             | with_reducible exact HK.out _ HTd.out
             | with_reducible exact HK.out _ HTe.out
             | with_reducible exact HK.out _ T6
             | with_reducible exact HK.out _ (T6.alloc _)
             | with_reducible exact HK.out _ T7
             | with_reducible exact HK.out _ (T7.alloc _)
             | exact HK.out _ (T7.trans (touch3 _ _ _ _ _) (fun b hb=>.inr (by simp at hb;omega))))
            (first
             | (go_at_call 136;refine (Hky.out _ HTe.out).mono ?_;rintro e w6 ⟨rfl,t6⟩;have h6:Touch [] (W5.alloc (.cells #[.int .i64 0,.int .i64 0,.string ⟨#[]⟩] 31)).drew w6:=(by with_reducible exact t6);have hbv6:=h6.blk HBe.out (by simp);have T6:Touch [] W5 w6:=HTe.out.trans0 h6;have s6:=T6.size)
             | (go_at_call 136;refine (Hky.out _ HTd.out).mono ?_;rintro e w6 ⟨rfl,t6⟩;have h6:Touch [] W5.drew w6:=(by with_reducible exact t6);have T6:Touch [] W5 w6:=HTd.out.trans0 h6;have s6:=T6.size)
             | (go_at_call 139;refine (Hof.out _ (T6.alloc _)).mono ?_;rintro e w7 ⟨rfl,t7⟩;have h7:Touch [] (w6.alloc (.cells #[.int .i64 0,.int .i64 0,.string ⟨#[]⟩] 31)) w7:=(by with_reducible exact t7);have T7:Touch [] W5 w7:=(T6.alloc _).trans0 h7;have hbv:=h7.blk (heap_alloc_new w6 (.cells #[.int .i64 0,.int .i64 0,.string ⟨#[]⟩] 31)) (by simp);obtain ⟨z0,z1,z2,y0,y1,y2⟩:=blk3 hbv)
             | (go_at_call 139;refine (Hof.out _ T6).mono ?_;rintro e w7 ⟨rfl,t7⟩;have h7:Touch [] w6 w7:=(by with_reducible exact t7);have T7:Touch [] W5 w7:=T6.trans0 h7;have hbv:=h7.blk hbv6 (by simp);obtain ⟨z0,z1,z2,y0,y1,y2⟩:=blk3 hbv)
             | (go_at_call 139;refine (Hof.out _ T6).mono ?_;rintro e w7 ⟨rfl,t7⟩;have h7:Touch [] w6 w7:=(by with_reducible exact t7);have T7:Touch [] W5 w7:=T6.trans0 h7))
           all_goals go_wp2_with fail
           all_goals
            refine wpPO_here ?_
            intro W9 hW9
            have T9:Touch [] W5 W9:=by
             rw [hW9]
             first
              | with_reducible exact T7.alloc _
              | exact T7.trans (touch3 _ _ _ _ _) (fun b hb=>.inr (by simp at hb;omega))
            exact HFN.out _ T9
         ·obtain rfl:i=aggs.length:=by omega
          obtain rfl:m=(K++((aggs.take aggs.length).map fun a=>(aggOf cs a G).2)).length:=HM.out.1.symm
          have hrow:K++((aggs.take aggs.length).map fun a=>(aggOf cs a G).2)=rowR_ cs aggs rows at_ K:=by
           unfold rowR_
           rw [Hag.out,List.take_length,List.map_map];rfl
          have her0:errR cs aggs rows at_ K=0:=by
           unfold errR
           rw [Hag.out]
           refine errF_zero fun v hv => ?_
           obtain ⟨a,ha,rfl⟩:=List.mem_map.1 hv
           obtain ⟨y,hy,rfl⟩:=List.mem_iff_getElem.1 ha
           exact HY.out y hy hy
          have hmb:=HM.out.2
          rw [hrow] at HW2 hmb ⊢
          obtain ⟨R,hR⟩:∃ R,R=rowR_ cs aggs rows at_ K:=⟨_,rfl⟩
          rw [<- hR] at HW2 hmb ⊢
          have hSk:=HSk.out.1
          have hZ3:=HSk.out.2.2 her0
          have hlB:=HO.out.lt
          have hso:=HTw.out.size
          have hlk:(((T.map (·.2)).take k).map (rowR_ cs aggs rows at_)).length=k:=by rw [List.length_map,List.length_take,List.length_map];omega
          have HX:=lh (And.intro hSk (And.intro hZ3 (And.intro hR hlk)))
          have hq2b:=HTL.out.2
          clear hrow her0 hSk hZ3 hR hlk
          go_wp2_with (at_builtin;refine stop ?_)
          refine go ?_
          refine wpList_appR rfl (.tmp 110) (.tmp 112) 25 rfl 33 info_r5 Tryz.underlying25 w3.heap.size B k c _ HX.out.2.2.2 rfl (HO.out.touch0 HW2.out.t) A d R HW2.out.own.rd
           (fun b hb=>⟨fun hm=>by have:=hlB b hm;have:=HW2.out.f b hb;omega,HW2.out.own.lt b hb,by have:=HW2.out.f b hb;omega⟩) 1 rfl (by omega) rfl ?_
          intro B8 c8 w8 hown2 ht2 hf2
          have hs2:=HW2.out.t.size
          have HZZ:=lh (And.intro hown2 (And.intro ((HTw.out.trans0 HW2.out.t).alloc _ |>.trans ht2 (fun b hb=>.inr (HF.out b hb))) (fun b (hb:b∈fpo B8)=>show w3.heap.size<=b by
           rcases hf2 b hb with q | q
           ·exact HF.out b q
           ·omega)))
          clear hown2 ht2 hf2 hlB hso hs2
          go_wp2_with fail
          go_roundw
          case rel=>exact ⟨k+1,B8,c8,by omega,by go_num,rfl,lh (by rw [HX.out.1,List.map_append,List.map_singleton,<- HX.out.2.2.1];exact HZZ.out.1),lh HZZ.out.2.2,lh HX.out.2.1,lh HZZ.out.2.1⟩
          case measure=>simp [intOf];omega
       ·obtain rfl:k=q2:=by omega
        have hlT:(T.map (·.2)).length=k:=by rw [List.length_map];exact HTL.out.1
        have hO:=HO.out
        rw [show (T.map (·.2)).take k=T.map (·.2) by rw [<- hlT,List.take_length]] at hO
        have hz:errF (errR cs aggs rows at_) (T.map (·.2))=0:=errF_zero fun v hv=>by
         obtain ⟨j,hj,rfl⟩:=List.mem_iff_getElem.1 hv
         exact HZ.out j (by omega) hj
        have HFN:=lh (show PO (.returned (.tuple #[.slice B k c,.int .i64 0])) wo by
         rw [HER.out,hz,if_pos rfl]
         exact ⟨⟨B,k,c⟩,rfl,by rw [List.length_map,hlT],hO.rowsAt,HT0.out.trans0 (HT1.out.trans0 (HT3.out.trans0 HTw.out))⟩)
        clear hlT hO hz
        go_wp2_with fail
        exact HFN.out
end
end Go.Proofs.YtafoklilkdnepaaGreatDoor
