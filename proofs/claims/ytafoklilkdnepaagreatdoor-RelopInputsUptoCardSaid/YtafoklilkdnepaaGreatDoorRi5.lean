/- Part 5 of the texts of this proof, one behind the other. No condition beyond those that its theorems state. -/
import Derived.Test.YtafoklilkdnepaaGreatDoorRi4
import Derived.WalkSpells
import Derived.Lib.AppendZerosOnto
import Derived.Lib.AppendZeros
import Derived.Deep.RegionHeld3
set_option maxRecDepth 40000
set_option maxHeartbeats 25600000
namespace Go.Proofs.YtafoklilkdnepaaGreatDoor
section
open Go.RowKit
theorem info_v5:(Tryz.prog.info? 31).map (fun i=>(i.zero,i.size,i.bytes))=some (some (.agg #[.int .i64 0,.int .i64 0,.string ⟨#[]⟩]),3,32):=by kernel_rfl
theorem info_c5:(Tryz.prog.info? 29).map (fun i=>(i.zero,i.size,i.bytes))=some (some (.agg #[.string ⟨#[]⟩,.int .i64 0]),2,24):=by kernel_rfl
theorem info_r5:(Tryz.prog.info? 33).map (fun i=>(i.zero,i.size,i.bytes))=some (some (.slice none 0 0),1,24):=by kernel_rfl
theorem RdK.none_nil {α:Type} {enc:α->List Value} (k:Nat) (hk:∀ x,(enc x).length=k) (h0:0 < k) {w:World} {l:List α} (h:RdK enc w none l):l=[]:=by
 rcases l with _ | ⟨x,l⟩
 ·rfl
 ·obtain ⟨ad,b,off,e,_⟩:=RdK.at_ h k hk h0 0 (by simp)
  cases e
theorem cloneV_any (A:Option Addr) (c n:Nat) (l:List VD) (hn:l.length=n) (hl:n<=1000000) (w:World) (h:RdK vdE w A l) :
  Calls Tryz.prog 126 #[.slice A n c] w fun e w'=>∃ A' c',e=.returned (.slice A' n c')/\Made 31 3 vdE l A' c' w w':=by
 rcases A with _ | ad
 ·have hl0:=RdK.none_nil 3 vdE_length (by omega) h
  subst hl0
  obtain rfl:n=0:=by simpa using hn.symm
  go_enter Tryz.func126,Tryz.ntmps126
  have hnil:=run_eql_slice_nil (P:=Tryz.prog) w 33 31 none 0 c Tryz.underlying33
  go_wp2
  go_ret
  exact ⟨none,0,rfl,Made.nil _ _ _ _⟩
 ·subst hn
  have ho:=OwnK.empty_new 31 3 vdE w
  have tb:=(Touch.refl [] w).alloc (.cells #[] 31)
  have HO:=lh (And.intro ho (And.intro (RdK.touch0 h tb) tb))
  clear ho tb
  go_enter Tryz.func126,Tryz.ntmps126
  have hnil:=run_eql_slice_nil (P:=Tryz.prog) w 33 31 (some ad) l.length c Tryz.underlying33
  go_wp2_with (at_builtin;refine stop ?_)
  refine go ?_
  refine wpList_appK (enc:=vdE) rfl (.tmp 5) (.tmp 6) 33 rfl 31 (.agg #[.int .i64 0,.int .i64 0,.string ⟨#[]⟩]) 3 32 info_v5 Tryz.underlying33 rfl (by omega) vdE_length vdE_one (some ⟨w.heap.size,0,none⟩) 0 0 [] rfl rfl HO.out.1 (some ad) l.length c l rfl rfl HO.out.2.1 (by omega) (by omega) ?_
  intro A3 c3 w3 hown3 ht3 hf3
  have H3:=lh (And.intro hown3 (And.intro ht3 hf3))
  clear hown3 ht3 hf3
  go_wp2
  go_ret
  obtain ⟨hown3,ht3,hf3⟩:=H3.out
  refine ⟨A3,c3,by first | rfl | (simp;rfl) | simp,by simpa using hown3,HO.out.2.2.trans ht3 (fun b hb=>by simp [fpo] at hb;subst hb;exact .inr (Nat.le_refl _)),fun b hb => ?_⟩
  rcases hf3 b hb with e | e
  ·simp [fpo] at e;omega
  ·rw [World.size_alloc] at e;omega
theorem cloneC_any (A:Option Addr) (c n:Nat) (l:List CD) (hn:l.length=n) (hl:n<=1000000) (w:World) (h:RdK cdE w A l) :
  Calls Tryz.prog 67 #[.slice A n c] w fun e w'=>∃ A' c',e=.returned (.slice A' n c')/\Made 29 2 cdE l A' c' w w':=by
 rcases A with _ | ad
 ·have hl0:=RdK.none_nil 2 cdE_length (by omega) h
  subst hl0
  obtain rfl:n=0:=by simpa using hn.symm
  go_enter Tryz.func67,Tryz.ntmps67
  have hnil:=run_eql_slice_nil (P:=Tryz.prog) w 24 29 none 0 c Tryz.underlying24
  go_wp2
  go_ret
  exact ⟨none,0,rfl,Made.nil _ _ _ _⟩
 ·subst hn
  have ho:=OwnK.empty_new 29 2 cdE w
  have tb:=(Touch.refl [] w).alloc (.cells #[] 29)
  have HO:=lh (And.intro ho (And.intro (RdK.touch0 h tb) tb))
  clear ho tb
  go_enter Tryz.func67,Tryz.ntmps67
  have hnil:=run_eql_slice_nil (P:=Tryz.prog) w 24 29 (some ad) l.length c Tryz.underlying24
  go_wp2_with (at_builtin;refine stop ?_)
  refine go ?_
  refine wpList_appK (enc:=cdE) rfl (.tmp 5) (.tmp 6) 24 rfl 29 (.agg #[.string ⟨#[]⟩,.int .i64 0]) 2 24 info_c5 Tryz.underlying24 rfl (by omega) cdE_length cdE_one (some ⟨w.heap.size,0,none⟩) 0 0 [] rfl rfl HO.out.1 (some ad) l.length c l rfl rfl HO.out.2.1 (by omega) (by omega) ?_
  intro A3 c3 w3 hown3 ht3 hf3
  have H3:=lh (And.intro hown3 (And.intro ht3 hf3))
  clear hown3 ht3 hf3
  go_wp2
  go_ret
  obtain ⟨hown3,ht3,hf3⟩:=H3.out
  refine ⟨A3,c3,by first | rfl | (simp;rfl) | simp,by simpa using hown3,HO.out.2.2.trans ht3 (fun b hb=>by simp [fpo] at hb;subst hb;exact .inr (Nat.le_refl _)),fun b hb => ?_⟩
  rcases hf3 b hb with e | e
  ·simp [fpo] at e;omega
  ·rw [World.size_alloc] at e;omega
theorem cloneR_any (A:Option Addr) (c n:Nat) (l:List SL) (hn:l.length=n) (hl:n<=1000000) (w:World) (h:RdK slE w A l) :
  Calls Tryz.prog 141 #[.slice A n c] w fun e w'=>∃ A' c',e=.returned (.slice A' n c')/\Made 33 1 slE l A' c' w w':=by
 rcases A with _ | ad
 ·have hl0:=RdK.none_nil 1 slE_length (by omega) h
  subst hl0
  obtain rfl:n=0:=by simpa using hn.symm
  go_enter Tryz.func141,Tryz.ntmps141
  have hnil:=run_eql_slice_nil (P:=Tryz.prog) w 25 33 none 0 c Tryz.underlying25
  go_wp2
  go_ret
  exact ⟨none,0,rfl,Made.nil _ _ _ _⟩
 ·subst hn
  have ho:=OwnK.empty_new 33 1 slE w
  have tb:=(Touch.refl [] w).alloc (.cells #[] 33)
  have HO:=lh (And.intro ho (And.intro (RdK.touch0 h tb) tb))
  clear ho tb
  go_enter Tryz.func141,Tryz.ntmps141
  have hnil:=run_eql_slice_nil (P:=Tryz.prog) w 25 33 (some ad) l.length c Tryz.underlying25
  go_wp2_with (at_builtin;refine stop ?_)
  refine go ?_
  refine wpList_appK (enc:=slE) rfl (.tmp 5) (.tmp 6) 25 rfl 33 (.slice none 0 0) 1 24 info_r5 Tryz.underlying25 rfl (by omega) slE_length slE_one (some ⟨w.heap.size,0,none⟩) 0 0 [] rfl rfl HO.out.1 (some ad) l.length c l rfl rfl HO.out.2.1 (by omega) (by omega) ?_
  intro A3 c3 w3 hown3 ht3 hf3
  have H3:=lh (And.intro hown3 (And.intro ht3 hf3))
  clear hown3 ht3 hf3
  go_wp2
  go_ret
  obtain ⟨hown3,ht3,hf3⟩:=H3.out
  refine ⟨A3,c3,by first | rfl | (simp;rfl) | simp,by simpa using hown3,HO.out.2.2.trans ht3 (fun b hb=>by simp [fpo] at hb;subst hb;exact .inr (Nat.le_refl _)),fun b hb => ?_⟩
  rcases hf3 b hb with e | e
  ·simp [fpo] at e;omega
  ·rw [World.size_alloc] at e;omega
end
section
open Go.RowKit
def gnL (cs acc:List CD):List ByteArray->Option (List CD)
 | []=>some acc
 | n :: r=>match placeV cs n with
  | none=>none
  | some i=>gnL cs (acc++[cs.getD i ⟨⟨#[]⟩,0⟩]) r
def gaL (cs acc:List CD):List AG->Int × List CD
 | []=>(0,acc)
 | a :: r=>if (aggV cs a).2=0 then gaL cs (acc++[⟨a.name,(aggV cs a).1⟩]) r else ((aggV cs a).2,[])
def groupV (cs:List CD) (names:List ByteArray) (aggs:List AG):Int × List CD:=match gnL cs [] names with
 | none=>(13,[])
 | some l=>gaL cs l aggs
theorem gnL_step (cs acc:List CD) (l:List ByteArray) (k:Nat) (h:k < l.length):gnL cs acc (l.drop k)=match placeV cs l[k] with
  | none=>none
  | some i=>gnL cs (acc++[cs.getD i ⟨⟨#[]⟩,0⟩]) (l.drop (k+1)):=by
 rw [List.drop_eq_getElem_cons h];rfl
theorem gaL_step (cs acc:List CD) (l:List AG) (k:Nat) (h:k < l.length):gaL cs acc (l.drop k)=if (aggV cs l[k]).2=0 then gaL cs (acc++[⟨l[k].name,(aggV cs l[k]).1⟩]) (l.drop (k+1)) else ((aggV cs l[k]).2,[]):=by
 rw [List.drop_eq_getElem_cons h];rfl
def SchPost (v:Int × List CD) (w:World) (e:Ending) (w':World):Prop:=∃ A c,e=.returned (.tuple #[.slice A v.2.length c,.int .i64 v.1])/\Made 29 2 cdE v.2 A c w w'
theorem SchPost.err {w w':World} (k:Int) (ht:Touch [] w w'):SchPost (k,[]) w (.returned (.tuple #[.slice none 0 0,.int .i64 k])) w':=⟨none,0,rfl,(Made.nil _ _ _ _).touch0 ht⟩
theorem groupSchema_any (x:PC) (names:List ByteArray) (aggs:List AG) (hnn:x.names.n=names.length) (han:x.aggs.n=aggs.length) (SA:Option Addr) (c1 n1:Nat) (a:List CD) (h1:a.length=n1) (hl1:n1<=1000000) (hln:names.length<=100000) (hla:aggs.length<=100000) (w:World)
  (hr:RdK btE w x.names.A names) (hg:RdK agE w x.aggs.A aggs) (ha:ColsAt w SA a) :
  Calls Tryz.prog 92 #[x.val,.slice SA n1 c1] w (SchPost (groupV a names aggs) w):=by
 subst h1
 have Hv:=lh (show groupV a names aggs=match gnL a [] names with | none=>(13,[]) | some l=>gaL a l aggs from rfl)
 obtain ⟨V,hV⟩:∃ V,V=groupV a names aggs:=⟨_,rfl⟩
 rw [<- hV] at Hv ⊢
 clear hV
 have HRD:=lh (And.intro hr (And.intro hg ha))
 obtain ⟨k0,k1,⟨A2,n2,c2'⟩,⟨⟨ck,cn,⟨cvk,cvn,cvt⟩,cop⟩,CA,cnn,cc⟩,⟨NA,nn,nc⟩,⟨EA,en,ec⟩,⟨OA,ol,oc⟩,⟨GA,gn,gc⟩,⟨BA,bn,bc⟩,count⟩:=x
 simp only [PC.val] at *
 subst hnn han
 obtain ⟨W,hW⟩:∃ W,W=w.alloc (.cells #[.int .i64 k0,.string k1,.slice A2 n2 c2',.int .i64 ck,.string cn,.int .i64 cvk,.int .i64 cvn,.string cvt,.string cop,.slice CA cnn cc,.slice NA names.length nc,.slice EA en ec,.slice OA ol oc,.slice GA aggs.length gc,.slice BA bn bc,.int .i64 count] 49):=⟨_,rfl⟩
 have t0:Touch [] w W:=hW ▸ (Touch.refl [] w).alloc _
 have hb0:=hW ▸ heap_alloc_new w (.cells #[.int .i64 k0,.string k1,.slice A2 n2 c2',.int .i64 ck,.string cn,.int .i64 cvk,.int .i64 cvn,.string cvt,.string cop,.slice CA cnn cc,.slice NA names.length nc,.slice EA en ec,.slice OA ol oc,.slice GA aggs.length gc,.slice BA bn bc,.int .i64 count] 49)
 have c10:W.cell? ⟨w.heap.size,10,none⟩=some (.slice NA names.length nc):=cell_blk hb0 rfl
 have c13:W.cell? ⟨w.heap.size,13,none⟩=some (.slice GA aggs.length gc):=cell_blk hb0 rfl
 have HW:=lh hW
 have HT0:=lh (And.intro t0 c13)
 have HRW:=lh (And.intro (hr.touch0 t0) (And.intro (hg.touch0 t0) (ha.touch0 t0)))
 clear t0 hb0 hW c13 hr hg ha
 go_enter Tryz.func92,Tryz.ntmps92
 go_wp2_with fail
 rw [<- HW.out]
 go_loopw [6,18] (fun o i wr=>∃ (k:Nat) (A:Option Addr) (c:Nat) (acc:List CD),k<=names.length/\i=.int .i64 k/\o=.slice A k c/\Hid (acc.length=k)/\Hid (gnL a [] names=gnL a acc (names.drop k))/\Hid (Made 29 2 cdE acc A c W wr)) (fun _ i _=>names.length-(intOf i).toNat)
 case atStart=>exact ⟨0,none,0,[],by omega,rfl,rfl,lh rfl,lh (by rw [List.drop_zero]),lh (Made.nil _ _ _ _)⟩
 case round =>
  obtain ⟨k,A,c,acc,hk,rfl,rfl,HL,Hd,HM⟩:=hrel
  by_cases hlt:k < names.length
  ·obtain ⟨ad,b1,o1,rfl,hadd,hc⟩:=RdK.cells (HRW.out.1.touch0 HM.out.t) 1 btE_length (by omega) k hlt
   rw [Nat.mul_one] at hadd
   have e0:=hc 0 _ rfl
   rw [Nat.add_zero] at e0
   have hst:=gnL_step a acc names k hlt
   obtain ⟨p,hp⟩:∃ p,p=names[k]:=⟨_,rfl⟩
   rw [<- hp] at hst e0
   have hfa:=fun w' (t:Touch [] W w')=>findC_any SA c1 a.length a rfl p w' (HRW.out.2.2.touch0 t) (by omega)
   have hkn:(k:Int) < (names.length:Int):=by omega
   rcases hpa:placeV a p with _ | i
   ·rw [hpa] at hfa
    have Hq2:=lh (show V=(13,[]) by rw [Hv.out,Hd.out,hst,hpa])
    have Hfa:=lh (hfa _ HM.out.t)
    clear hfa hpa hst hc hp
    go_wp2_with fail
    refine Hfa.out.mono ?_
    rintro e w1 ⟨rfl,t1⟩
    go_wp2
    go_ret2
    rw [Hq2.out]
    exact SchPost.err 13 ((HT0.out.1.trans0 HM.out.t).trans0 t1)
   ·rw [hpa] at hfa
    have hil:=placeV_lt hpa
    obtain ⟨ad2,b2,o2,rfl,hadd2,e2,e3⟩:=(HRW.out.2.2.touch0 HM.out.t).at_ i hil
    have hts:gnL a acc (names.drop k)=gnL a (acc++[a[i]]) (names.drop (k+1)):=by
     rw [hst,hpa];simp [hil]
    obtain ⟨cd,hcd⟩:∃ cd,cd=a[i]:=⟨_,rfl⟩
    rw [<- hcd] at e2 e3 hts
    obtain ⟨cnm,cty⟩:=cd
    have hi0:(0:Int)<=(i:Int):=by omega
    have hin:(i:Int) < (a.length:Int):=by omega
    have Hn:=lh (show gnL a [] names=gnL a (acc++[⟨cnm,cty⟩]) (names.drop (k+1)) by rw [Hd.out,hts])
    have Hfa:=lh (hfa _ HM.out.t)
    clear hfa hpa hst hc hp hts hcd
    go_wp2_with fail
    refine Hfa.out.mono ?_
    rintro e w1 ⟨rfl,t1⟩
    have e2':=t1.cell e2 (by simp)
    have e3':=t1.cell e3 (by simp)
    have HM1:=lh (HM.out.touch0 t1)
    clear t1 HM
    go_wp2_with (at_builtin;refine stop ?_)
    refine go ?_
    have ta:=(Touch.refl [] w1).alloc (.cells #[.string cnm,.int .i64 cty] 29)
    refine wpList_appK (enc:=cdE) rfl (.tmp 30) (.tmp 35) 24 rfl 29 _ 2 24 info_c5 Tryz.underlying24 rfl (by omega) cdE_length cdE_one A k c acc HL.out rfl (HM1.out.touch0 ta).own
     (some ⟨w1.heap.size,0,none⟩) 1 1 [⟨cnm,cty⟩] rfl rfl (RdK.one (enc:=cdE) w1 29 ⟨cnm,cty⟩ _ rfl) (by omega) (by omega) ?_
    intro A' c' w' hown ht hf
    have HX:=lh ((HM1.out.touch0 ta).step hown ht hf)
    clear hown ht hf ta
    go_wp2_with fail
    go_roundw
    case rel=>exact ⟨k+1,A',c',acc++[⟨cnm,cty⟩],by omega,by go_num,rfl,lh (by rw [List.length_append,HL.out];rfl),Hn,HX⟩
    case measure=>simp [intOf];omega
  ·obtain rfl:k=names.length:=by omega
   have Hl:=lh (show V=gaL a acc (aggs.drop 0) by rw [Hv.out,Hd.out,List.drop_length,List.drop_zero];rfl)
   have d13:=HM.out.t.cell HT0.out.2 (by simp)
   clear Hd Hv
   go_wp2_with fail
   go_loopw [6,41] (fun o i w1=>∃ (j m:Nat) (A:Option Addr) (c:Nat) (acc:List CD),j<=aggs.length/\m<=200000/\i=.int .i64 j/\o=.slice A m c/\Hid (acc.length=m/\m=names.length+j)/\Hid (V=gaL a acc (aggs.drop j))/\Hid (Made 29 2 cdE acc A c W w1)) (fun _ i _=>aggs.length-(intOf i).toNat)
   case atStart=>exact ⟨0,names.length,A,c,acc,by omega,by omega,rfl,rfl,lh ⟨HL.out,rfl⟩,Hl,HM⟩
   case round =>
    clear Hl HM HL hlt d13
    obtain ⟨j,m,A,c,acc,hj,hmb,rfl,rfl,HL,Hd,HM⟩:=hrel
    by_cases hlt:j < aggs.length
    ·obtain ⟨ad,b1,o1,rfl,hadd,hc⟩:=RdK.cells (HRW.out.2.1.touch0 HM.out.t) 3 agE_length (by omega) j hlt
     have hst:=gaL_step a acc aggs j hlt
     obtain ⟨p,hp⟩:∃ p,p=aggs[j]:=⟨_,rfl⟩
     rw [<- hp] at hst hc
     have e0:=hc 0 _ rfl
     have e1:=hc 1 _ rfl
     have e2:=hc 2 _ rfl
     rw [Nat.add_zero] at e0
     have hag:=fun w' (t:Touch [] W w')=>agg_any p SA c1 a.length a rfl (by omega) w' (HRW.out.2.2.touch0 t)
     obtain ⟨op,col,nm⟩:=p
     dsimp only at e0 e1 e2 hag hst
     have ta:=(Touch.refl [] wr).alloc (.cells #[.string op,.string col,.string nm] 79)
     have hbl:=heap_alloc_new wr (.cells #[.string op,.string col,.string nm] 79)
     obtain ⟨g,hg⟩:∃ g,g=aggV a ⟨op,col,nm⟩:=⟨_,rfl⟩
     rw [<- hg] at hag hst
     obtain ⟨ty,er⟩:=g
     dsimp only at hag hst
     have hkn:(j:Int) < (aggs.length:Int):=by omega
     have Hag:=lh (hag _ (HM.out.t.trans0 ta))
     have HTa:=lh (And.intro ta hbl)
     by_cases her:er=0
     ·subst her
      have Hn:=lh (show V=gaL a (acc++[⟨nm,ty⟩]) (aggs.drop (j+1)) by rw [Hd.out,hst,if_pos rfl])
      clear hag hst hc hp hg ta hbl
      go_wp2_with fail
      refine Hag.out.mono ?_
      rintro e w1 ⟨rfl,t1⟩
      obtain ⟨g0,g1,g2,_,_,_⟩:=blk3 (t1.blk HTa.out.2 (by simp))
      have HM1:=lh ((HM.out.touch0 HTa.out.1).touch0 t1)
      clear t1 HM
      go_wp2_with (at_builtin;refine stop ?_)
      refine go ?_
      have ta:=(Touch.refl [] w1).alloc (.cells #[.string nm,.int .i64 ty] 29)
      refine wpList_appK (enc:=cdE) rfl (.tmp 54) (.tmp 59) 24 rfl 29 _ 2 24 info_c5 Tryz.underlying24 rfl (by omega) cdE_length cdE_one A m c acc HL.out.1 rfl (HM1.out.touch0 ta).own
       (some ⟨w1.heap.size,0,none⟩) 1 1 [⟨nm,ty⟩] rfl rfl (RdK.one (enc:=cdE) w1 29 ⟨nm,ty⟩ _ rfl) (by omega) (by omega) ?_
      intro A' c' w' hown ht hf
      have HX:=lh ((HM1.out.touch0 ta).step hown ht hf)
      clear hown ht hf ta
      go_wp2_with fail
      go_roundw
      case rel=>exact ⟨j+1,m+1,A',c',acc++[⟨nm,ty⟩],by omega,by have:=HL.out.2;omega,by go_num,rfl,lh ⟨by rw [List.length_append,HL.out.1];rfl,by rw [HL.out.2];omega⟩,Hn,HX⟩
      case measure=>simp [intOf];omega
     ·have Hn:=lh (show V=(er,[]) by rw [Hd.out,hst,if_neg her])
      have hq:(er==0)=false:=by rw [beq_eq_false_iff_ne];exact her
      have hq':(er != 0)=true:=by rw [bne,hq];rfl
      clear hag hst hc hp hg ta hbl
      go_wp2_with fail
      refine Hag.out.mono ?_
      rintro e w1 ⟨rfl,t1⟩
      go_wp2
      go_ret2
      rw [Hn.out]
      exact SchPost.err er (((HT0.out.1.trans0 HM.out.t).trans0 HTa.out.1).trans0 t1)
    ·obtain rfl:j=aggs.length:=by omega
     have Hn:=lh (show V=(0,acc) by rw [Hd.out,List.drop_length];rfl)
     clear Hd
     go_wp2
     go_ret2
     rw [Hn.out]
     obtain ⟨hm1,_⟩:=HL.out
     subst hm1
     exact ⟨A,c,rfl,HM.out.own,HT0.out.1.trans0 HM.out.t,fun b hb=>Nat.le_trans HT0.out.1.size (HM.out.f b hb)⟩
end
section
open Go.RowKit
theorem info_col:(Tryz.prog.info? 29).map (fun i=>(i.zero,i.size,i.bytes))=some (some (.agg #[.string ⟨#[]⟩,.int .i64 0]),2,24):=info_c5
theorem OwnK.room {α:Type} (t k:Nat) (enc:α->List Value) (w:World) (c:Nat) (cells:Array Value) (hm:c<=maxLen) (hr:cells.size=c*k):OwnK t k enc (w.alloc (.cells cells t)) (some ⟨w.heap.size,0,none⟩) c [] :=
 ⟨by simp,.inr ⟨w.heap.size,c,cells,rfl,Nat.zero_le _,heap_alloc_new w _,Nat.zero_le _,hm,by rw [hr],by simp⟩⟩
theorem growC_any (n:Nat) (hn:n<=1000000) (w:World) :
  Calls Tryz.prog 129 #[.slice none 0 0,.int .i64 n] w fun e w'=>∃ A c,e=.returned (.slice A 0 c)/\Made 29 2 cdE [] A c w w':=by
 obtain ⟨i0,hi0,hz0,hz1,hz2⟩:=info_parts info_col
 go_enter Tryz.func129,Tryz.ntmps129
 by_cases h0:n=0
 ·subst h0
  go_wp2
  go_ret
  exact ⟨none,0,rfl,Made.nil _ _ _ _⟩
 ·have hn0:0 < n:=by omega
  have hge:=grownCap_ge w n 0 29
  have hle:=grownCap_le_maxLen w n 0 29 (by simp only [maxLen];omega)
  have hold:(Builtin.firstCells i0.size 0 (.slice none 0 0)).run Tryz.prog w.drew=.ok ([]:List Value).toArray w.drew:=run_firstCells_none w.drew i0.size 0 0 0
  have hrz:∀ ty,(Builtin.append_ #[24,3] ty #[.slice none 0 0,.int .i64 (n:Int)]).run Tryz.prog w=_:=fun ty =>
   Lib.run_append_grow_zeros w 24 3 ty 29 i0 (.agg #[.string ⟨#[]⟩,.int .i64 0]) .i64 .i64 Tryz.underlying24 Tryz.underlying3 hi0 hz0 none 0 0 [] hold n hn0 (by omega) (by omega) (by omega)
    (by rw [hz2];omega) (by rw [hz2];exact growslice_fits (by omega) (by omega))
  simp only [Nat.zero_add] at hrz
  have hsz:(([]:List Value).toArray++Builtin.zeroCells (Value.agg #[.string ⟨#[]⟩,.int .i64 0]).cells n++Builtin.zeroCells (Value.agg #[.string ⟨#[]⟩,.int .i64 0]).cells (grownCap w n 0 29-n)).size=grownCap w n 0 29*2:=by
   rw [Array.size_append,Array.size_append,size_zeroCells,size_zeroCells]
   simp [Value.cells]
   omega
  have hcut:=OwnK.room 29 2 cdE w.drew (grownCap w n 0 29) _ hle hsz
  obtain ⟨W,hW⟩:∃ W,W=w.drew.alloc (.cells (([]:List Value).toArray++Builtin.zeroCells (Value.agg #[.string ⟨#[]⟩,.int .i64 0]).cells n++Builtin.zeroCells (Value.agg #[.string ⟨#[]⟩,.int .i64 0]).cells (grownCap w n 0 29-n)) 29):=⟨_,rfl⟩
  obtain ⟨G,hG⟩:∃ G,G=grownCap w n 0 29:=⟨_,rfl⟩
  have tW:Touch [] w W:=by rw [hW];exact ((Touch.refl [] w).drew).alloc _
  rw [<- hW] at hrz hcut
  rw [<- hG] at hrz hcut hge hle
  have hws:w.drew.heap.size=w.heap.size:=rfl
  rw [hws] at hcut
  unfold maxLen at hle
  clear hW hG hold hsz hws
  go_wp2_with (at_builtin;refine Lib.wpList_append_run _ rfl _ _ _ _ rfl _ _ rfl rfl _ _ (hrz _) ?_)
  go_ret
  exact ⟨_,G,rfl,hcut,tW,by simp [fpo]⟩
theorem concatC_any (A1 A2:Option Addr) (n1 n2 c1 c2:Nat) (l1 l2:List CD) (e1:l1.length=n1) (e2:l2.length=n2) (h1:n1<=1000) (h2:n2<=1000) (k1:n1<=c1) (k2:n2<=c2) (w:World) (r1:ColsAt w A1 l1) (r2:ColsAt w A2 l2) :
  Calls Tryz.prog 90 #[.slice (some ⟨w.heap.size,0,none⟩) 2 2] (w.alloc (.cells #[.slice A1 n1 c1,.slice A2 n2 c2] 24)) fun e w' =>
   ∃ A c,e=.returned (.slice A (l1++l2).length c)/\Made 29 2 cdE (l1++l2) A c w w':=by
 subst e1 e2
 have t0:=(Touch.refl [] w).alloc (.cells #[.slice A1 l1.length c1,.slice A2 l2.length c2] 24)
 have hb:=heap_alloc_new w (.cells #[.slice A1 l1.length c1,.slice A2 l2.length c2] 24)
 obtain ⟨W,hW⟩:∃ W,W=w.alloc (.cells #[.slice A1 l1.length c1,.slice A2 l2.length c2] 24):=⟨_,rfl⟩
 have hWs:w.heap.size < W.heap.size:=by rw [hW,World.size_alloc];omega
 rw [<- hW] at t0 hb ⊢
 have d0:=cell_blk hb (i:=0) rfl
 have d1:=cell_blk hb (i:=1) rfl
 have hlen:(l1++l2).length=l1.length+l2.length:=List.length_append
 have Hlen:=lh hlen
 clear hW hlen
 go_enter Tryz.func90,Tryz.ntmps90
 go_wp2
 refine wp_loop_rounds 3 ?_
 rw [rounds_succ]
 go_wp2
 rw [rounds_succ]
 go_wp2
 rw [rounds_succ]
 go_wp2_with fail
 have hgr:=growC_any (l1.length+l2.length) (by omega) W
 rw [Int.natCast_add] at hgr
 refine hgr.mono ?_
 rintro e w1 ⟨A3,c3,rfl,hm3⟩
 have b1:=hm3.t.blk hb (by simp)
 have f0:=cell_blk b1 (i:=0) rfl
 have f1:=cell_blk b1 (i:=1) rfl
 have T1:=t0.trans0 hm3.t
 go_wp2_with fail
 refine wp_loop_rounds 3 ?_
 rw [rounds_succ]
 go_wp2_with (at_builtin;refine stop ?_)
 refine go ?_
 refine wpList_appK rfl (.tmp 31) (.tmp 32) 24 rfl 29 _ 2 24 info_col Tryz.underlying24 rfl (by omega) cdE_length cdE_one A3 0 c3 [] rfl rfl hm3.own
  A1 l1.length c1 l1 rfl rfl (r1.touch0 T1) (by omega) (by omega) ?_
 intro A4 c4 w4 hown4 ht4 hf4
 have hm4:=hm3.step hown4 ht4 hf4
 have b4:=hm4.t.blk hb (by simp)
 have g0:=cell_blk b4 (i:=0) rfl
 have g1:=cell_blk b4 (i:=1) rfl
 rw [List.nil_append] at hm4
 go_wp2_with fail
 rw [rounds_succ]
 go_wp2_with (at_builtin;refine stop ?_)
 refine go ?_
 refine wpList_appK rfl (.tmp 31) (.tmp 32) 24 rfl 29 _ 2 24 info_col Tryz.underlying24 rfl (by omega) cdE_length cdE_one A4 l1.length c4 l1 rfl rfl hm4.own
  A2 l2.length c2 l2 rfl rfl (r2.touch0 (t0.trans0 hm4.t)) (by omega) (by omega) ?_
 intro A5 c5 w5 hown5 ht5 hf5
 have hm5:=hm4.step hown5 ht5 hf5
 go_wp2_with fail
 rw [rounds_succ]
 go_wp2
 go_ret
 exact ⟨A5,c5,ret_slice Hlen.out.symm,hm5.own,t0.trans0 hm5.t,fun b hb=>by have:=hm5.f b hb;omega⟩
end
section
open Go.RowKit
theorem keep17 {w w':World} (ht:Touch [] w w') {a0 a1 a2 a3 a4 a5 a6 a7 a8 a9 a10 a11 a12 a13 a14 a15 a16:Addr} {v0 v1 v2 v3 v4 v5 v6 v7 v8 v9 v10 v11 v12 v13 v14 v15 v16:Value} (h:w.cell? a0=some v0/\w.cell? a1=some v1/\w.cell? a2=some v2/\w.cell? a3=some v3/\w.cell? a4=some v4/\w.cell? a5=some v5/\w.cell? a6=some v6/\w.cell? a7=some v7/\w.cell? a8=some v8/\w.cell? a9=some v9/\w.cell? a10=some v10/\w.cell? a11=some v11/\w.cell? a12=some v12/\w.cell? a13=some v13/\w.cell? a14=some v14/\w.cell? a15=some v15/\w.cell? a16=some v16):w'.cell? a0=some v0/\w'.cell? a1=some v1/\w'.cell? a2=some v2/\w'.cell? a3=some v3/\w'.cell? a4=some v4/\w'.cell? a5=some v5/\w'.cell? a6=some v6/\w'.cell? a7=some v7/\w'.cell? a8=some v8/\w'.cell? a9=some v9/\w'.cell? a10=some v10/\w'.cell? a11=some v11/\w'.cell? a12=some v12/\w'.cell? a13=some v13/\w'.cell? a14=some v14/\w'.cell? a15=some v15/\w'.cell? a16=some v16:=by
 obtain ⟨h0,h1,h2,h3,h4,h5,h6,h7,h8,h9,h10,h11,h12,h13,h14,h15,h16⟩:=h
 exact ⟨ht.cell h0 (by simp),ht.cell h1 (by simp),ht.cell h2 (by simp),ht.cell h3 (by simp),ht.cell h4 (by simp),ht.cell h5 (by simp),ht.cell h6 (by simp),ht.cell h7 (by simp),ht.cell h8 (by simp),ht.cell h9 (by simp),ht.cell h10 (by simp),ht.cell h11 (by simp),ht.cell h12 (by simp),ht.cell h13 (by simp),ht.cell h14 (by simp),ht.cell h15 (by simp),ht.cell h16 (by simp)⟩
theorem keep18 {w w':World} (ht:Touch [] w w') {a0 a1 a2 a3 a4 a5 a6 a7 a8 a9 a10 a11 a12 a13 a14 a15 a16 a17:Addr} {v0 v1 v2 v3 v4 v5 v6 v7 v8 v9 v10 v11 v12 v13 v14 v15 v16 v17:Value} (h:w.cell? a0=some v0/\w.cell? a1=some v1/\w.cell? a2=some v2/\w.cell? a3=some v3/\w.cell? a4=some v4/\w.cell? a5=some v5/\w.cell? a6=some v6/\w.cell? a7=some v7/\w.cell? a8=some v8/\w.cell? a9=some v9/\w.cell? a10=some v10/\w.cell? a11=some v11/\w.cell? a12=some v12/\w.cell? a13=some v13/\w.cell? a14=some v14/\w.cell? a15=some v15/\w.cell? a16=some v16/\w.cell? a17=some v17):w'.cell? a0=some v0/\w'.cell? a1=some v1/\w'.cell? a2=some v2/\w'.cell? a3=some v3/\w'.cell? a4=some v4/\w'.cell? a5=some v5/\w'.cell? a6=some v6/\w'.cell? a7=some v7/\w'.cell? a8=some v8/\w'.cell? a9=some v9/\w'.cell? a10=some v10/\w'.cell? a11=some v11/\w'.cell? a12=some v12/\w'.cell? a13=some v13/\w'.cell? a14=some v14/\w'.cell? a15=some v15/\w'.cell? a16=some v16/\w'.cell? a17=some v17:=by
 obtain ⟨h0,h1,h2,h3,h4,h5,h6,h7,h8,h9,h10,h11,h12,h13,h14,h15,h16,h17⟩:=h
 exact ⟨ht.cell h0 (by simp),ht.cell h1 (by simp),ht.cell h2 (by simp),ht.cell h3 (by simp),ht.cell h4 (by simp),ht.cell h5 (by simp),ht.cell h6 (by simp),ht.cell h7 (by simp),ht.cell h8 (by simp),ht.cell h9 (by simp),ht.cell h10 (by simp),ht.cell h11 (by simp),ht.cell h12 (by simp),ht.cell h13 (by simp),ht.cell h14 (by simp),ht.cell h15 (by simp),ht.cell h16 (by simp),ht.cell h17 (by simp)⟩
theorem schema_join (x:PC) (hk0:x.kind=4) (on:List (ByteArray × ByteArray)) (ho:x.on.n=on.length) (hlo:on.length<=1000000) (L:Option Addr) (lc:Nat) (s1 s2:SL) (a b:List CD) (h1:s1.n=a.length) (h2:s2.n=b.length) (hk1:s1.n<=s1.c) (hk2:s2.n<=s2.c) (hl1:a.length<=1000) (hl2:b.length<=1000) (w:World)
  (hL:RdK slE w L [s1,s2]) (hr:RdK prE w x.on.A on) (ha:ColsAt w s1.A a) (hb:ColsAt w s2.A b) :
  Calls Tryz.prog 64 #[x.val,.slice L 2 lc] w fun e w'=>∃ A c,e=.returned (.tuple #[.slice A (a++b).length c,.int .i64 (onV a b on)])/\Made 29 2 cdE (a++b) A c w w':=by
 obtain ⟨SA,sn,sc⟩:=s1
 obtain ⟨SB,tn,tc⟩:=s2
 dsimp only at *
 subst h1 h2
 obtain ⟨k0,k1,⟨A2,n2,c2'⟩,⟨⟨ck,cn,⟨cvk,cvn,cvt⟩,cop⟩,CA,cnn,cc⟩,⟨NA,nn,nc⟩,⟨EA,en,ec⟩,⟨OA,ol,oc⟩,⟨GA,gn,gc⟩,⟨BA,bn,bc⟩,count⟩:=x
 dsimp only at hk0 ho hr
 subst hk0
 obtain ⟨ad,bl,bo,rfl,hadd0,hc0⟩:=RdK.cells hL 1 slE_length (by omega) 0 (by simp)
 obtain ⟨ad',bl',bo',e',hadd1,hc1⟩:=RdK.cells hL 1 slE_length (by omega) 1 (by simp)
 obtain rfl:ad=ad':=by injection e'
 have l0:=hc0 0 _ rfl
 have l1:=hc1 0 _ rfl
 simp only [Nat.zero_mul,Nat.one_mul,Nat.add_zero] at hadd0 hadd1 l0 l1
 simp only [List.getElem_cons_zero,List.getElem_cons_succ] at l0 l1
 have Hon:=lh fun w' (t:Touch [] w w')=>checkOn_any ⟨4,k1,⟨A2,n2,c2'⟩,⟨⟨ck,cn,⟨cvk,cvn,cvt⟩,cop⟩,CA,cnn,cc⟩,⟨NA,nn,nc⟩,⟨EA,en,ec⟩,⟨OA,ol,oc⟩,⟨GA,gn,gc⟩,⟨BA,bn,bc⟩,count⟩ on ho SA SB sc tc a.length b.length a b rfl rfl (by omega) (by omega) hlo w' (RdK.touch0 hr t) (ha.touch0 t) (hb.touch0 t)
 have Hcc:=lh fun w' (t:Touch [] w w')=>concatC_any SA SB a.length b.length sc tc a b rfl rfl hl1 hl2 hk1 hk2 w' (ha.touch0 t) (hb.touch0 t)
 simp only [PC.val] at *
 obtain ⟨K,hK⟩:∃ K,K=onV a b on:=⟨_,rfl⟩
 rw [<- hK] at Hon ⊢
 obtain ⟨M,hM⟩:∃ M,M=(a++b).length:=⟨_,rfl⟩
 rw [<- hM] at Hcc ⊢
 obtain ⟨W,hW⟩:∃ W,W=w.alloc (.cells #[.int .i64 4,.string k1,.slice A2 n2 c2',.int .i64 ck,.string cn,.int .i64 cvk,.int .i64 cvn,.string cvt,.string cop,.slice CA cnn cc,.slice NA nn nc,.slice EA en ec,.slice OA ol oc,.slice GA gn gc,.slice BA bn bc,.int .i64 count] 49):=⟨_,rfl⟩
 have t0:Touch [] w W:=hW ▸ (Touch.refl [] w).alloc _
 have hb0:=hW ▸ heap_alloc_new w (.cells #[.int .i64 4,.string k1,.slice A2 n2 c2',.int .i64 ck,.string cn,.int .i64 cvk,.int .i64 cvn,.string cvt,.string cop,.slice CA cnn cc,.slice NA nn nc,.slice EA en ec,.slice OA ol oc,.slice GA gn gc,.slice BA bn bc,.int .i64 count] 49)
 have l0d:=t0.drew.cell l0 (by simp)
 have l1d:=t0.drew.cell l1 (by simp)
 obtain ⟨p0,p1,p2,p3,p4,p5,p6,p7,p8,p9,p10,p11,p12,p13,p14,p15⟩:=blk16 ((Touch.refl [] W).drew.blk hb0 (by simp))
 have HP:Hid (W.drew.cell? ⟨w.heap.size,0,none⟩=some (.int .i64 4)/\W.drew.cell? ⟨w.heap.size,1,none⟩=some (.string k1)/\W.drew.cell? ⟨w.heap.size,2,none⟩=some (.slice A2 n2 c2')/\W.drew.cell? ⟨w.heap.size,3,none⟩=some (.int .i64 ck)/\W.drew.cell? ⟨w.heap.size,4,none⟩=some (.string cn)/\W.drew.cell? ⟨w.heap.size,5,none⟩=some (.int .i64 cvk)/\W.drew.cell? ⟨w.heap.size,6,none⟩=some (.int .i64 cvn)/\W.drew.cell? ⟨w.heap.size,7,none⟩=some (.string cvt)/\W.drew.cell? ⟨w.heap.size,8,none⟩=some (.string cop)/\W.drew.cell? ⟨w.heap.size,9,none⟩=some (.slice CA cnn cc)/\W.drew.cell? ⟨w.heap.size,10,none⟩=some (.slice NA nn nc)/\W.drew.cell? ⟨w.heap.size,11,none⟩=some (.slice EA en ec)/\W.drew.cell? ⟨w.heap.size,12,none⟩=some (.slice OA ol oc)/\W.drew.cell? ⟨w.heap.size,13,none⟩=some (.slice GA gn gc)/\W.drew.cell? ⟨w.heap.size,14,none⟩=some (.slice BA bn bc)/\W.drew.cell? ⟨w.heap.size,15,none⟩=some (.int .i64 count)/\W.drew.cell? ⟨bl,bo,none⟩=some (.slice SA a.length sc)/\W.drew.cell? ⟨bl',bo',none⟩=some (.slice SB b.length tc)):=lh ⟨p0,p1,p2,p3,p4,p5,p6,p7,p8,p9,p10,p11,p12,p13,p14,p15,l0d,l1d⟩
 have HW:=lh hW
 have HT0:=lh t0.drew
 clear ho hr ha hb hL hc0 hc1 hK hM hW t0 l0 l1 e' hb0 l0d l1d p0 p1 p2 p3 p4 p5 p6 p7 p8 p9 p10 p11 p12 p13 p14 p15
 go_enter Tryz.func64,Tryz.ntmps64
 go_wp2_with fail
 rw [<- HW.out]
 go_region_held3 (fun w'=>w'.cell? ⟨w.heap.size,0,none⟩=some (.int .i64 4)/\w'.cell? ⟨w.heap.size,1,none⟩=some (.string k1)/\w'.cell? ⟨w.heap.size,2,none⟩=some (.slice A2 n2 c2')/\w'.cell? ⟨w.heap.size,3,none⟩=some (.int .i64 ck)/\w'.cell? ⟨w.heap.size,4,none⟩=some (.string cn)/\w'.cell? ⟨w.heap.size,5,none⟩=some (.int .i64 cvk)/\w'.cell? ⟨w.heap.size,6,none⟩=some (.int .i64 cvn)/\w'.cell? ⟨w.heap.size,7,none⟩=some (.string cvt)/\w'.cell? ⟨w.heap.size,8,none⟩=some (.string cop)/\w'.cell? ⟨w.heap.size,9,none⟩=some (.slice CA cnn cc)/\w'.cell? ⟨w.heap.size,10,none⟩=some (.slice NA nn nc)/\w'.cell? ⟨w.heap.size,11,none⟩=some (.slice EA en ec)/\w'.cell? ⟨w.heap.size,12,none⟩=some (.slice OA ol oc)/\w'.cell? ⟨w.heap.size,13,none⟩=some (.slice GA gn gc)/\w'.cell? ⟨w.heap.size,14,none⟩=some (.slice BA bn bc)/\w'.cell? ⟨w.heap.size,15,none⟩=some (.int .i64 count)/\w'.cell? ⟨bl,bo,none⟩=some (.slice SA a.length sc)/\w'.cell? ⟨bl',bo',none⟩=some (.slice SB b.length tc)) (first | exact HP.out | exact keep18 ((Touch.refl [] _).alloc _) HP.out | exact keep18 M1.out.t HP.out | exact keep18 (M1.out.t.trans0 t2) HP.out) (first
  | (go_at_call 90;refine (Hcc.out _ HT0.out).mono ?_;rintro e w1 ⟨A1,c1,rfl,m1⟩;have M1:=lh m1;clear m1)
  | (go_at_call 91;refine (Hon.out _ (HT0.out.trans0 M1.out.t)).mono ?_;rintro e w2 ⟨rfl,t2⟩))
 go_wp2_with fail
 go_ret2
 exact ⟨A1,c1,rfl,M1.out.own.touch0 t2,(HT0.out.trans0 M1.out.t).trans0 t2,fun b hb=>Nat.le_trans HT0.out.size (M1.out.f b hb)⟩
theorem schema_left (x:PC) (hk0:x.kind=5) (on:List (ByteArray × ByteArray)) (ho:x.on.n=on.length) (hlo:on.length<=1000000) (L:Option Addr) (lc:Nat) (s1 s2:SL) (a b:List CD) (h1:s1.n=a.length) (h2:s2.n=b.length) (hk1:s1.n<=s1.c) (hk2:s2.n<=s2.c) (hl1:a.length<=1000) (hl2:b.length<=1000) (w:World)
  (hL:RdK slE w L [s1,s2]) (hr:RdK prE w x.on.A on) (ha:ColsAt w s1.A a) (hb:ColsAt w s2.A b) :
  Calls Tryz.prog 64 #[x.val,.slice L 2 lc] w fun e w'=>∃ A c,e=.returned (.tuple #[.slice A (a++b).length c,.int .i64 (onV a b on)])/\Made 29 2 cdE (a++b) A c w w':=by
 obtain ⟨SA,sn,sc⟩:=s1
 obtain ⟨SB,tn,tc⟩:=s2
 dsimp only at *
 subst h1 h2
 obtain ⟨k0,k1,⟨A2,n2,c2'⟩,⟨⟨ck,cn,⟨cvk,cvn,cvt⟩,cop⟩,CA,cnn,cc⟩,⟨NA,nn,nc⟩,⟨EA,en,ec⟩,⟨OA,ol,oc⟩,⟨GA,gn,gc⟩,⟨BA,bn,bc⟩,count⟩:=x
 dsimp only at hk0 ho hr
 subst hk0
 obtain ⟨ad,bl,bo,rfl,hadd0,hc0⟩:=RdK.cells hL 1 slE_length (by omega) 0 (by simp)
 obtain ⟨ad',bl',bo',e',hadd1,hc1⟩:=RdK.cells hL 1 slE_length (by omega) 1 (by simp)
 obtain rfl:ad=ad':=by injection e'
 have l0:=hc0 0 _ rfl
 have l1:=hc1 0 _ rfl
 simp only [Nat.zero_mul,Nat.one_mul,Nat.add_zero] at hadd0 hadd1 l0 l1
 simp only [List.getElem_cons_zero,List.getElem_cons_succ] at l0 l1
 have Hon:=lh fun w' (t:Touch [] w w')=>checkOn_any ⟨5,k1,⟨A2,n2,c2'⟩,⟨⟨ck,cn,⟨cvk,cvn,cvt⟩,cop⟩,CA,cnn,cc⟩,⟨NA,nn,nc⟩,⟨EA,en,ec⟩,⟨OA,ol,oc⟩,⟨GA,gn,gc⟩,⟨BA,bn,bc⟩,count⟩ on ho SA SB sc tc a.length b.length a b rfl rfl (by omega) (by omega) hlo w' (RdK.touch0 hr t) (ha.touch0 t) (hb.touch0 t)
 have Hcc:=lh fun w' (t:Touch [] w w')=>concatC_any SA SB a.length b.length sc tc a b rfl rfl hl1 hl2 hk1 hk2 w' (ha.touch0 t) (hb.touch0 t)
 simp only [PC.val] at *
 obtain ⟨K,hK⟩:∃ K,K=onV a b on:=⟨_,rfl⟩
 rw [<- hK] at Hon ⊢
 obtain ⟨M,hM⟩:∃ M,M=(a++b).length:=⟨_,rfl⟩
 rw [<- hM] at Hcc ⊢
 obtain ⟨W,hW⟩:∃ W,W=w.alloc (.cells #[.int .i64 5,.string k1,.slice A2 n2 c2',.int .i64 ck,.string cn,.int .i64 cvk,.int .i64 cvn,.string cvt,.string cop,.slice CA cnn cc,.slice NA nn nc,.slice EA en ec,.slice OA ol oc,.slice GA gn gc,.slice BA bn bc,.int .i64 count] 49):=⟨_,rfl⟩
 have t0:Touch [] w W:=hW ▸ (Touch.refl [] w).alloc _
 have hb0:=hW ▸ heap_alloc_new w (.cells #[.int .i64 5,.string k1,.slice A2 n2 c2',.int .i64 ck,.string cn,.int .i64 cvk,.int .i64 cvn,.string cvt,.string cop,.slice CA cnn cc,.slice NA nn nc,.slice EA en ec,.slice OA ol oc,.slice GA gn gc,.slice BA bn bc,.int .i64 count] 49)
 have l0d:=t0.drew.cell l0 (by simp)
 have l1d:=t0.drew.cell l1 (by simp)
 obtain ⟨p0,p1,p2,p3,p4,p5,p6,p7,p8,p9,p10,p11,p12,p13,p14,p15⟩:=blk16 ((Touch.refl [] W).drew.blk hb0 (by simp))
 have HP:Hid (W.drew.cell? ⟨w.heap.size,0,none⟩=some (.int .i64 5)/\W.drew.cell? ⟨w.heap.size,1,none⟩=some (.string k1)/\W.drew.cell? ⟨w.heap.size,2,none⟩=some (.slice A2 n2 c2')/\W.drew.cell? ⟨w.heap.size,3,none⟩=some (.int .i64 ck)/\W.drew.cell? ⟨w.heap.size,4,none⟩=some (.string cn)/\W.drew.cell? ⟨w.heap.size,5,none⟩=some (.int .i64 cvk)/\W.drew.cell? ⟨w.heap.size,6,none⟩=some (.int .i64 cvn)/\W.drew.cell? ⟨w.heap.size,7,none⟩=some (.string cvt)/\W.drew.cell? ⟨w.heap.size,8,none⟩=some (.string cop)/\W.drew.cell? ⟨w.heap.size,9,none⟩=some (.slice CA cnn cc)/\W.drew.cell? ⟨w.heap.size,10,none⟩=some (.slice NA nn nc)/\W.drew.cell? ⟨w.heap.size,11,none⟩=some (.slice EA en ec)/\W.drew.cell? ⟨w.heap.size,12,none⟩=some (.slice OA ol oc)/\W.drew.cell? ⟨w.heap.size,13,none⟩=some (.slice GA gn gc)/\W.drew.cell? ⟨w.heap.size,14,none⟩=some (.slice BA bn bc)/\W.drew.cell? ⟨w.heap.size,15,none⟩=some (.int .i64 count)/\W.drew.cell? ⟨bl,bo,none⟩=some (.slice SA a.length sc)/\W.drew.cell? ⟨bl',bo',none⟩=some (.slice SB b.length tc)):=lh ⟨p0,p1,p2,p3,p4,p5,p6,p7,p8,p9,p10,p11,p12,p13,p14,p15,l0d,l1d⟩
 have HW:=lh hW
 have HT0:=lh t0.drew
 clear ho hr ha hb hL hc0 hc1 hK hM hW t0 l0 l1 e' hb0 l0d l1d p0 p1 p2 p3 p4 p5 p6 p7 p8 p9 p10 p11 p12 p13 p14 p15
 go_enter Tryz.func64,Tryz.ntmps64
 go_wp2_with fail
 rw [<- HW.out]
 go_region_held3 (fun w'=>w'.cell? ⟨w.heap.size,0,none⟩=some (.int .i64 5)/\w'.cell? ⟨w.heap.size,1,none⟩=some (.string k1)/\w'.cell? ⟨w.heap.size,2,none⟩=some (.slice A2 n2 c2')/\w'.cell? ⟨w.heap.size,3,none⟩=some (.int .i64 ck)/\w'.cell? ⟨w.heap.size,4,none⟩=some (.string cn)/\w'.cell? ⟨w.heap.size,5,none⟩=some (.int .i64 cvk)/\w'.cell? ⟨w.heap.size,6,none⟩=some (.int .i64 cvn)/\w'.cell? ⟨w.heap.size,7,none⟩=some (.string cvt)/\w'.cell? ⟨w.heap.size,8,none⟩=some (.string cop)/\w'.cell? ⟨w.heap.size,9,none⟩=some (.slice CA cnn cc)/\w'.cell? ⟨w.heap.size,10,none⟩=some (.slice NA nn nc)/\w'.cell? ⟨w.heap.size,11,none⟩=some (.slice EA en ec)/\w'.cell? ⟨w.heap.size,12,none⟩=some (.slice OA ol oc)/\w'.cell? ⟨w.heap.size,13,none⟩=some (.slice GA gn gc)/\w'.cell? ⟨w.heap.size,14,none⟩=some (.slice BA bn bc)/\w'.cell? ⟨w.heap.size,15,none⟩=some (.int .i64 count)/\w'.cell? ⟨bl,bo,none⟩=some (.slice SA a.length sc)/\w'.cell? ⟨bl',bo',none⟩=some (.slice SB b.length tc)) (first | exact HP.out | exact keep18 ((Touch.refl [] _).alloc _) HP.out | exact keep18 M1.out.t HP.out | exact keep18 (M1.out.t.trans0 t2) HP.out) (first
  | (go_at_call 90;refine (Hcc.out _ HT0.out).mono ?_;rintro e w1 ⟨A1,c1,rfl,m1⟩;have M1:=lh m1;clear m1)
  | (go_at_call 91;refine (Hon.out _ (HT0.out.trans0 M1.out.t)).mono ?_;rintro e w2 ⟨rfl,t2⟩))
 go_wp2_with fail
 go_ret2
 exact ⟨A1,c1,rfl,M1.out.own.touch0 t2,(HT0.out.trans0 M1.out.t).trans0 t2,fun b hb=>Nat.le_trans HT0.out.size (M1.out.f b hb)⟩
theorem schema_group (x:PC) (hk0:x.kind=6) (names:List ByteArray) (aggs:List AG) (hnn:x.names.n=names.length) (han:x.aggs.n=aggs.length) (hln:names.length<=100000) (hla:aggs.length<=100000) (L:Option Addr) (lc:Nat) (s1:SL) (a:List CD) (h1:s1.n=a.length) (hl1:a.length<=1000) (w:World)
  (hL:RdK slE w L [s1]) (hr:RdK btE w x.names.A names) (hg:RdK agE w x.aggs.A aggs) (ha:ColsAt w s1.A a) :
  Calls Tryz.prog 64 #[x.val,.slice L 1 lc] w (SchPost (groupV a names aggs) w):=by
 obtain ⟨SA,sn,sc⟩:=s1
 dsimp only at *
 subst h1
 obtain ⟨k0,k1,⟨A2,n2,c2'⟩,⟨⟨ck,cn,⟨cvk,cvn,cvt⟩,cop⟩,CA,cnn,cc⟩,⟨NA,nn,nc⟩,⟨EA,en,ec⟩,⟨OA,ol,oc⟩,⟨GA,gn,gc⟩,⟨BA,bn,bc⟩,count⟩:=x
 dsimp only at hk0 hnn han hr hg
 subst hk0
 obtain ⟨ad,bl,bo,rfl,hadd0,hc0⟩:=RdK.cells hL 1 slE_length (by omega) 0 (by simp)
 have l0:=hc0 0 _ rfl
 simp only [Nat.zero_mul,Nat.add_zero] at hadd0 l0
 simp only [List.getElem_cons_zero] at l0
 have Hgs:=lh fun w' (t:Touch [] w w')=>groupSchema_any ⟨6,k1,⟨A2,n2,c2'⟩,⟨⟨ck,cn,⟨cvk,cvn,cvt⟩,cop⟩,CA,cnn,cc⟩,⟨NA,nn,nc⟩,⟨EA,en,ec⟩,⟨OA,ol,oc⟩,⟨GA,gn,gc⟩,⟨BA,bn,bc⟩,count⟩ names aggs hnn han SA sc a.length a rfl (by omega) hln hla w' (RdK.touch0 hr t) (RdK.touch0 hg t) (ha.touch0 t)
 simp only [PC.val] at *
 obtain ⟨V,hV⟩:∃ V,V=groupV a names aggs:=⟨_,rfl⟩
 rw [<- hV] at Hgs ⊢
 obtain ⟨W,hW⟩:∃ W,W=w.alloc (.cells #[.int .i64 6,.string k1,.slice A2 n2 c2',.int .i64 ck,.string cn,.int .i64 cvk,.int .i64 cvn,.string cvt,.string cop,.slice CA cnn cc,.slice NA nn nc,.slice EA en ec,.slice OA ol oc,.slice GA gn gc,.slice BA bn bc,.int .i64 count] 49):=⟨_,rfl⟩
 have t0:Touch [] w W:=hW ▸ (Touch.refl [] w).alloc _
 have hb0:=hW ▸ heap_alloc_new w (.cells #[.int .i64 6,.string k1,.slice A2 n2 c2',.int .i64 ck,.string cn,.int .i64 cvk,.int .i64 cvn,.string cvt,.string cop,.slice CA cnn cc,.slice NA nn nc,.slice EA en ec,.slice OA ol oc,.slice GA gn gc,.slice BA bn bc,.int .i64 count] 49)
 have l0d:=t0.drew.cell l0 (by simp)
 obtain ⟨p0,p1,p2,p3,p4,p5,p6,p7,p8,p9,p10,p11,p12,p13,p14,p15⟩:=blk16 ((Touch.refl [] W).drew.blk hb0 (by simp))
 have HP:Hid (W.drew.cell? ⟨w.heap.size,0,none⟩=some (.int .i64 6)/\W.drew.cell? ⟨w.heap.size,1,none⟩=some (.string k1)/\W.drew.cell? ⟨w.heap.size,2,none⟩=some (.slice A2 n2 c2')/\W.drew.cell? ⟨w.heap.size,3,none⟩=some (.int .i64 ck)/\W.drew.cell? ⟨w.heap.size,4,none⟩=some (.string cn)/\W.drew.cell? ⟨w.heap.size,5,none⟩=some (.int .i64 cvk)/\W.drew.cell? ⟨w.heap.size,6,none⟩=some (.int .i64 cvn)/\W.drew.cell? ⟨w.heap.size,7,none⟩=some (.string cvt)/\W.drew.cell? ⟨w.heap.size,8,none⟩=some (.string cop)/\W.drew.cell? ⟨w.heap.size,9,none⟩=some (.slice CA cnn cc)/\W.drew.cell? ⟨w.heap.size,10,none⟩=some (.slice NA nn nc)/\W.drew.cell? ⟨w.heap.size,11,none⟩=some (.slice EA en ec)/\W.drew.cell? ⟨w.heap.size,12,none⟩=some (.slice OA ol oc)/\W.drew.cell? ⟨w.heap.size,13,none⟩=some (.slice GA gn gc)/\W.drew.cell? ⟨w.heap.size,14,none⟩=some (.slice BA bn bc)/\W.drew.cell? ⟨w.heap.size,15,none⟩=some (.int .i64 count)/\W.drew.cell? ⟨bl,bo,none⟩=some (.slice SA a.length sc)):=lh ⟨p0,p1,p2,p3,p4,p5,p6,p7,p8,p9,p10,p11,p12,p13,p14,p15,l0d⟩
 have HW:=lh hW
 have HT0:=lh t0.drew
 clear hnn han hr hg ha hL hc0 hV hW t0 l0 hb0 l0d p0 p1 p2 p3 p4 p5 p6 p7 p8 p9 p10 p11 p12 p13 p14 p15
 go_enter Tryz.func64,Tryz.ntmps64
 go_wp2_with fail
 rw [<- HW.out]
 go_region_held3 (fun w'=>w'.cell? ⟨w.heap.size,0,none⟩=some (.int .i64 6)/\w'.cell? ⟨w.heap.size,1,none⟩=some (.string k1)/\w'.cell? ⟨w.heap.size,2,none⟩=some (.slice A2 n2 c2')/\w'.cell? ⟨w.heap.size,3,none⟩=some (.int .i64 ck)/\w'.cell? ⟨w.heap.size,4,none⟩=some (.string cn)/\w'.cell? ⟨w.heap.size,5,none⟩=some (.int .i64 cvk)/\w'.cell? ⟨w.heap.size,6,none⟩=some (.int .i64 cvn)/\w'.cell? ⟨w.heap.size,7,none⟩=some (.string cvt)/\w'.cell? ⟨w.heap.size,8,none⟩=some (.string cop)/\w'.cell? ⟨w.heap.size,9,none⟩=some (.slice CA cnn cc)/\w'.cell? ⟨w.heap.size,10,none⟩=some (.slice NA nn nc)/\w'.cell? ⟨w.heap.size,11,none⟩=some (.slice EA en ec)/\w'.cell? ⟨w.heap.size,12,none⟩=some (.slice OA ol oc)/\w'.cell? ⟨w.heap.size,13,none⟩=some (.slice GA gn gc)/\w'.cell? ⟨w.heap.size,14,none⟩=some (.slice BA bn bc)/\w'.cell? ⟨w.heap.size,15,none⟩=some (.int .i64 count)/\w'.cell? ⟨bl,bo,none⟩=some (.slice SA a.length sc)) (first | exact HP.out | exact keep17 M1.out.t HP.out) (first
  | (go_at_call 92;refine (Hgs.out _ HT0.out).mono ?_;rintro e w1 ⟨A1,c1,rfl,m1⟩;have M1:=lh m1;clear m1))
 go_wp2_with fail
 go_ret2
 exact ⟨A1,c1,rfl,M1.out.own,HT0.out.trans0 M1.out.t,fun b hb=>Nat.le_trans HT0.out.size (M1.out.f b hb)⟩
end
end Go.Proofs.YtafoklilkdnepaaGreatDoor
