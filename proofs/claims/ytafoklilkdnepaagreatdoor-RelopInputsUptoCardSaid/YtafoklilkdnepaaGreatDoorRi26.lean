/- Part 26 of the texts of this proof, one behind the other. No condition beyond those that its theorems state. -/
import Derived.Test.YtafoklilkdnepaaGreatDoorRi25
import Derived.Laws.StructEq
set_option maxRecDepth 40000
set_option maxHeartbeats 25600000
namespace Go.Proofs.YtafoklilkdnepaaGreatDoor
section
open Go.RowKit
def joinV (left:Bool) (wide:Nat) (rowsA rowsB:List (List VD)) (at_ bt:List Nat):Int × List (List VD):=if 4096 < (joinL left wide rowsA rowsB at_ bt).length then (31,[]) else (0,joinL left wide rowsA rowsB at_ bt)
theorem JoinP.post {left:Bool} {wide:Nat} {rowsA rowsB:List (List VD)} {at_ bt:List Nat} {w:World} {e:Ending} {w':World} (h:JoinP left wide rowsA rowsB at_ bt w e w'):RowsPost (joinV left wide rowsA rowsB at_ bt) w e w':=by
 obtain ⟨h1,h2⟩:=h
 unfold joinV
 by_cases hb:4096 < (joinL left wide rowsA rowsB at_ bt).length
 ·rw [if_pos hb] at h2
  rw [if_pos hb]
  exact ⟨⟨none,0,0⟩,h2,rfl,⟨[],⟨rfl,fun i h=>absurd h (by simp)⟩,RdK.nil _ _ _⟩,h1⟩
 ·rw [if_neg hb] at h2
  rw [if_neg hb]
  obtain ⟨B,c,he,hr⟩:=h2
  exact ⟨⟨B,_,c⟩,he,rfl,hr,h1⟩
theorem keep20 {w w':World} (ht:Touch [] w w') {a0 a1 a2 a3 a4 a5 a6 a7 a8 a9 a10 a11 a12 a13 a14 a15 a16 a17 a18 a19:Addr} {v0 v1 v2 v3 v4 v5 v6 v7 v8 v9 v10 v11 v12 v13 v14 v15 v16 v17 v18 v19:Value} (h:w.cell? a0=some v0/\w.cell? a1=some v1/\w.cell? a2=some v2/\w.cell? a3=some v3/\w.cell? a4=some v4/\w.cell? a5=some v5/\w.cell? a6=some v6/\w.cell? a7=some v7/\w.cell? a8=some v8/\w.cell? a9=some v9/\w.cell? a10=some v10/\w.cell? a11=some v11/\w.cell? a12=some v12/\w.cell? a13=some v13/\w.cell? a14=some v14/\w.cell? a15=some v15/\w.cell? a16=some v16/\w.cell? a17=some v17/\w.cell? a18=some v18/\w.cell? a19=some v19):w'.cell? a0=some v0/\w'.cell? a1=some v1/\w'.cell? a2=some v2/\w'.cell? a3=some v3/\w'.cell? a4=some v4/\w'.cell? a5=some v5/\w'.cell? a6=some v6/\w'.cell? a7=some v7/\w'.cell? a8=some v8/\w'.cell? a9=some v9/\w'.cell? a10=some v10/\w'.cell? a11=some v11/\w'.cell? a12=some v12/\w'.cell? a13=some v13/\w'.cell? a14=some v14/\w'.cell? a15=some v15/\w'.cell? a16=some v16/\w'.cell? a17=some v17/\w'.cell? a18=some v18/\w'.cell? a19=some v19:=by
 obtain ⟨h0,h1,h2,h3,h4,h5,h6,h7,h8,h9,h10,h11,h12,h13,h14,h15,h16,h17,h18,h19⟩:=h
 exact ⟨ht.cell h0 (by simp),ht.cell h1 (by simp),ht.cell h2 (by simp),ht.cell h3 (by simp),ht.cell h4 (by simp),ht.cell h5 (by simp),ht.cell h6 (by simp),ht.cell h7 (by simp),ht.cell h8 (by simp),ht.cell h9 (by simp),ht.cell h10 (by simp),ht.cell h11 (by simp),ht.cell h12 (by simp),ht.cell h13 (by simp),ht.cell h14 (by simp),ht.cell h15 (by simp),ht.cell h16 (by simp),ht.cell h17 (by simp),ht.cell h18 (by simp),ht.cell h19 (by simp)⟩
theorem rows_join (x:PC) (kk:Int) (hk0:kk=x.kind) (hk45:kk=4\/kk=5) (on:List (ByteArray × ByteArray)) (ho:x.on.n=on.length) (hlo:on.length<=1000) (L:Option Addr) (lc:Nat) (ta tb:SL × SL) (csA csB:List CD) (rowsA rowsB:List (List VD)) (w:World)
  (hL:RdK tbE w L [ta,tb]) (hTA:TabAt w ta.1 ta.2 csA rowsA) (hTB:TabAt w tb.1 tb.2 csB rowsB) (hr:RdK prE w x.on.A on) (hgA:GoodR w rowsA csA.length) (hgB:GoodR w rowsB csB.length)
  (hA0:0 < csA.length) (hB0:0 < csB.length) (hA1:csA.length<=16) (hB1:csB.length<=16) (hA2:rowsA.length<=4096) (hB2:rowsB.length<=4096) :
  Calls Tryz.prog 65 #[x.val,.slice L 2 lc] w (RowsPost (joinV (decide (kk=5)) csB.length rowsA rowsB (placesV csA (on.map (·.1))) (placesV csB (on.map (·.2)))) w):=by
 obtain ⟨⟨SA,sn,sc⟩,⟨RA,rn,rc⟩⟩:=ta
 obtain ⟨⟨SB,tn,tc⟩,⟨RB,un,uc⟩⟩:=tb
 obtain ⟨k0,k1,⟨A2,n2,c2'⟩,⟨⟨ck,cn,⟨cvk,cvn,cvt⟩,cop⟩,CA,cnn,cc⟩,⟨NA,nn,nc⟩,⟨EA,en,ec⟩,⟨OA,ol,oc⟩,⟨GA,gn,gc⟩,⟨BA,bn,bc⟩,count⟩:=x
 dsimp only at hk0 ho hr hTA hTB
 subst hk0
 obtain ⟨ad,bl,bo,rfl,hadd0,hc0⟩:=RdK.cells hL 2 tbE_length (by omega) 0 (by simp)
 obtain ⟨ad',bl',bo',e',hadd1,hc1⟩:=RdK.cells hL 2 tbE_length (by omega) 1 (by simp)
 obtain rfl:ad=ad':=by injection e'
 have l0:=hc0 0 _ rfl
 have l1:=hc0 1 _ rfl
 have l2:=hc1 0 _ rfl
 have l3:=hc1 1 _ rfl
 simp only [Nat.zero_mul,Nat.one_mul,Nat.add_zero] at hadd0 hadd1 l0 l1 l2 l3
 simp only [List.getElem_cons_zero,List.getElem_cons_succ] at l0 l1 l2 l3
 have Hj:=lh fun w' (t:Touch [] w w')=>(join_any ⟨kk,k1,⟨A2,n2,c2'⟩,⟨⟨ck,cn,⟨cvk,cvn,cvt⟩,cop⟩,CA,cnn,cc⟩,⟨NA,nn,nc⟩,⟨EA,en,ec⟩,⟨OA,ol,oc⟩,⟨GA,gn,gc⟩,⟨BA,bn,bc⟩,count⟩ kk (decide (kk=5)) rfl rfl on ho hlo ⟨SA,sn,sc⟩ ⟨RA,rn,rc⟩ ⟨SB,tn,tc⟩ ⟨RB,un,uc⟩ csA csB rowsA rowsB w' (hTA.touch0 t) (hTB.touch0 t) (RdK.touch0 hr t) (hgA.touch0 t) (hgB.touch0 t) hA0 hB0 hA1 hB1 hA2 hB2).mono fun e w'' h=>JoinP.post h
 simp only [PC.val] at *
 obtain ⟨V,hV⟩:∃ V,V=joinV (decide (kk=5)) csB.length rowsA rowsB (placesV csA (on.map (·.1))) (placesV csB (on.map (·.2))):=⟨_,rfl⟩
 rw [<- hV] at Hj ⊢
 obtain ⟨W,hW⟩:∃ W,W=w.alloc (.cells #[.int .i64 kk,.string k1,.slice A2 n2 c2',.int .i64 ck,.string cn,.int .i64 cvk,.int .i64 cvn,.string cvt,.string cop,.slice CA cnn cc,.slice NA nn nc,.slice EA en ec,.slice OA ol oc,.slice GA gn gc,.slice BA bn bc,.int .i64 count] 49):=⟨_,rfl⟩
 have t0:Touch [] w W:=hW ▸ (Touch.refl [] w).alloc _
 have hb0:=hW ▸ heap_alloc_new w (.cells #[.int .i64 kk,.string k1,.slice A2 n2 c2',.int .i64 ck,.string cn,.int .i64 cvk,.int .i64 cvn,.string cvt,.string cop,.slice CA cnn cc,.slice NA nn nc,.slice EA en ec,.slice OA ol oc,.slice GA gn gc,.slice BA bn bc,.int .i64 count] 49)
 have l0d:=t0.drew.cell l0 (by simp)
 have l1d:=t0.drew.cell l1 (by simp)
 have l2d:=t0.drew.cell l2 (by simp)
 have l3d:=t0.drew.cell l3 (by simp)
 obtain ⟨p0,p1,p2,p3,p4,p5,p6,p7,p8,p9,p10,p11,p12,p13,p14,p15⟩:=blk16 ((Touch.refl [] W).drew.blk hb0 (by simp))
 have HP:Hid (W.drew.cell? ⟨w.heap.size,0,none⟩=some (.int .i64 kk)/\W.drew.cell? ⟨w.heap.size,1,none⟩=some (.string k1)/\W.drew.cell? ⟨w.heap.size,2,none⟩=some (.slice A2 n2 c2')/\W.drew.cell? ⟨w.heap.size,3,none⟩=some (.int .i64 ck)/\W.drew.cell? ⟨w.heap.size,4,none⟩=some (.string cn)/\W.drew.cell? ⟨w.heap.size,5,none⟩=some (.int .i64 cvk)/\W.drew.cell? ⟨w.heap.size,6,none⟩=some (.int .i64 cvn)/\W.drew.cell? ⟨w.heap.size,7,none⟩=some (.string cvt)/\W.drew.cell? ⟨w.heap.size,8,none⟩=some (.string cop)/\W.drew.cell? ⟨w.heap.size,9,none⟩=some (.slice CA cnn cc)/\W.drew.cell? ⟨w.heap.size,10,none⟩=some (.slice NA nn nc)/\W.drew.cell? ⟨w.heap.size,11,none⟩=some (.slice EA en ec)/\W.drew.cell? ⟨w.heap.size,12,none⟩=some (.slice OA ol oc)/\W.drew.cell? ⟨w.heap.size,13,none⟩=some (.slice GA gn gc)/\W.drew.cell? ⟨w.heap.size,14,none⟩=some (.slice BA bn bc)/\W.drew.cell? ⟨w.heap.size,15,none⟩=some (.int .i64 count)/\W.drew.cell? ⟨bl,bo,none⟩=some (.slice SA sn sc)/\W.drew.cell? ⟨bl,bo+1,none⟩=some (.slice RA rn rc)/\W.drew.cell? ⟨bl',bo',none⟩=some (.slice SB tn tc)/\W.drew.cell? ⟨bl',bo'+1,none⟩=some (.slice RB un uc)):=lh ⟨p0,p1,p2,p3,p4,p5,p6,p7,p8,p9,p10,p11,p12,p13,p14,p15,l0d,l1d,l2d,l3d⟩
 have HW:=lh hW
 have HT0:=lh t0.drew
 clear ho hr hTA hTB hgA hgB hL hc0 hc1 hV hW t0 l0 l1 l2 l3 e' hb0 l0d l1d l2d l3d p0 p1 p2 p3 p4 p5 p6 p7 p8 p9 p10 p11 p12 p13 p14 p15
 have hq2:(kk==2)=false:=by rw [beq_eq_false_iff_ne];omega
 have hq3:(kk==3)=false:=by rw [beq_eq_false_iff_ne];omega
 have h45:(kk==4)=true\/(kk==4)=false/\(kk==5)=true:=by
  rcases hk45 with rfl | rfl
  ·exact .inl rfl
  ·exact .inr ⟨rfl,rfl⟩
 clear hk45
 rcases h45 with hq4 | ⟨hq4,hq5⟩
 all_goals
  go_enter Tryz.func65,Tryz.ntmps65
  go_wp2_with fail
  rw [<- HW.out]
  go_region_held3 (fun w'=>w'.cell? ⟨w.heap.size,0,none⟩=some (.int .i64 kk)/\w'.cell? ⟨w.heap.size,1,none⟩=some (.string k1)/\w'.cell? ⟨w.heap.size,2,none⟩=some (.slice A2 n2 c2')/\w'.cell? ⟨w.heap.size,3,none⟩=some (.int .i64 ck)/\w'.cell? ⟨w.heap.size,4,none⟩=some (.string cn)/\w'.cell? ⟨w.heap.size,5,none⟩=some (.int .i64 cvk)/\w'.cell? ⟨w.heap.size,6,none⟩=some (.int .i64 cvn)/\w'.cell? ⟨w.heap.size,7,none⟩=some (.string cvt)/\w'.cell? ⟨w.heap.size,8,none⟩=some (.string cop)/\w'.cell? ⟨w.heap.size,9,none⟩=some (.slice CA cnn cc)/\w'.cell? ⟨w.heap.size,10,none⟩=some (.slice NA nn nc)/\w'.cell? ⟨w.heap.size,11,none⟩=some (.slice EA en ec)/\w'.cell? ⟨w.heap.size,12,none⟩=some (.slice OA ol oc)/\w'.cell? ⟨w.heap.size,13,none⟩=some (.slice GA gn gc)/\w'.cell? ⟨w.heap.size,14,none⟩=some (.slice BA bn bc)/\w'.cell? ⟨w.heap.size,15,none⟩=some (.int .i64 count)/\w'.cell? ⟨bl,bo,none⟩=some (.slice SA sn sc)/\w'.cell? ⟨bl,bo+1,none⟩=some (.slice RA rn rc)/\w'.cell? ⟨bl',bo',none⟩=some (.slice SB tn tc)/\w'.cell? ⟨bl',bo'+1,none⟩=some (.slice RB un uc)) (first | exact HP.out | exact keep20 M1.out.2.2 HP.out) (first
   | (go_at_call 96;refine (Hj.out _ HT0.out).mono ?_;rintro e w1 ⟨⟨A1,n1,c1⟩,rfl,m1⟩;have M1:=lh m1;clear m1))
  go_wp2_with fail
  go_ret2
  exact ⟨⟨A1,n1,c1⟩,rfl,M1.out.1,M1.out.2.1,HT0.out.trans0 M1.out.2.2⟩
end
section
open Go.RowKit
theorem rowsC_join (x:PC) (kk:Int) (hk0:kk=x.kind) (hk45:kk=4\/kk=5) (on:List (ByteArray × ByteArray)) (ho:x.on.n=on.length) (hlo:on.length<=1000) (csA csB:List CD) (rowsA rowsB:List (List VD)) (w:World)
  (hr:RdK prE w x.on.A on) (hgA:GoodR w rowsA csA.length) (hgB:GoodR w rowsB csB.length)
  (hA0:0 < csA.length) (hB0:0 < csB.length) (hA1:csA.length<=16) (hB1:csB.length<=16) (hA2:rowsA.length<=4096) (hB2:rowsB.length<=4096) :
  RowsC w x [(csA,rowsA),(csB,rowsB)] (joinV (decide (kk=5)) csB.length rowsA rowsB (placesV csA (on.map (·.1))) (placesV csB (on.map (·.2)))):=by
 intro w' L lc tl t hs hL
 obtain ⟨hs1,hs2⟩:=hs
 match tl,hs1 with
 | [t1,t2],_=>exact rows_join x kk hk0 hk45 on ho hlo L lc t1 t2 csA csB rowsA rowsB w' hL (hs2 0 (by simp) (by simp)) (hs2 1 (by simp) (by simp)) (RdK.touch0 hr t) (hgA.touch0 t) (hgB.touch0 t) hA0 hB0 hA1 hB1 hA2 hB2
end
section
open Go.RowKit
theorem ine_length (n:Int):(inE n).length=1:=rfl
theorem ine_one (n:Int):∀ u∈inE n,u.oneCell'=true:=by
 intro u hu
 simp only [inE,List.mem_cons,List.not_mem_nil,or_false] at hu
 subst hu;rfl
theorem info_i6:(Tryz.prog.info? 3).map (fun i=>(i.zero,i.size,i.bytes))=some (some (.int .i64 0),1,8):=by kernel_rfl
theorem typesC_any (SA:Option Addr) (c1 n1:Nat) (a:List CD) (h1:a.length=n1) (hl1:n1<=1000000) (w:World) (ha:ColsAt w SA a) :
  Calls Tryz.prog 128 #[.slice SA n1 c1] w fun e w'=>∃ A c,e=.returned (.slice A n1 c)/\Made 3 1 inE (a.map (·.typ)) A c w w':=by
 subst h1
 have HRD:=lh ha
 clear ha
 go_enter Tryz.func128,Tryz.ntmps128
 go_wp2_with fail
 go_loopw [3,8] (fun o i wr=>∃ (k:Nat) (A:Option Addr) (c:Nat),k<=a.length/\i=.int .i64 k/\o=.slice A k c/\Hid (Made 3 1 inE ((a.take k).map (·.typ)) A c w wr)) (fun _ i _=>a.length-(intOf i).toNat)
 case atStart=>exact ⟨0,none,0,by omega,rfl,rfl,lh (Made.nil _ _ _ _)⟩
 case round =>
  obtain ⟨k,A,c,hk,rfl,rfl,HM⟩:=hrel
  by_cases hlt:k < a.length
  ·obtain ⟨ad,b1,o1,rfl,hadd,e0,e1⟩:=(HRD.out.touch0 HM.out.t).at_ k hlt
   have htk:=List.take_succ_eq_append_getElem hlt
   obtain ⟨p,hp⟩:∃ p,p=a[k]:=⟨_,rfl⟩
   rw [<- hp] at e0 e1 htk
   obtain ⟨nm,ty⟩:=p
   dsimp only at e0 e1
   have Hnx:Hid ((a.take (k+1)).map (·.typ)=(a.take k).map (·.typ)++[ty]):=lh (by rw [htk,List.map_append];rfl)
   have hln:Hid (((a.take k).map (·.typ)).length=k):=lh (by rw [List.length_map,List.length_take];omega)
   have hkn:(k:Int) < (a.length:Int):=by omega
   clear htk hp
   go_wp2_with (at_builtin;refine stop ?_)
   refine go ?_
   have ta:=((Touch.refl [] wr).alloc (.cells #[.string nm,.int .i64 ty] 29)).alloc (.cells #[.int .i64 ty] 3)
   have hrd1:=RdK.one (enc:=inE) (wr.alloc (.cells #[.string nm,.int .i64 ty] 29)) 3 ty #[.int .i64 ty] rfl
   rw [World.size_alloc] at hrd1
   refine wpList_appK (enc:=inE) rfl (.tmp 12) (.tmp 15) 97 rfl 3 _ 1 8 info_i6 Tryz.underlying97 rfl (by omega) ine_length ine_one A k c _ hln.out rfl (HM.out.touch0 ta).own
    (some ⟨wr.heap.size+1,0,none⟩) 1 1 [ty] rfl rfl hrd1 (by omega) (by omega) ?_
   intro A' c' w' hown ht hf
   have HX:=lh ((HM.out.touch0 ta).step hown ht hf)
   clear hown ht hf ta hrd1
   go_wp2_with fail
   go_roundw
   case rel=>exact ⟨k+1,A',c',by omega,by go_num,rfl,lh (by rw [Hnx.out];exact HX.out)⟩
   case measure=>simp [intOf];omega
  ·obtain rfl:k=a.length:=by omega
   have HM2:Hid (Made 3 1 inE (a.map (·.typ)) A c w wr):=lh (by have:=HM.out;rwa [List.take_length] at this)
   clear HM
   go_wp2
   go_ret
   exact ⟨A,c,rfl,HM2.out⟩
def nuO (l:List Int) (z:Int):Option Nat:=l.findIdx? fun x=>decide (z=x)
def nuN (l:List Int) (z:Int):Int:=match nuO l z with | some k=>(k:Int) | none => -1
def memI (l:List Int) (z:Int):Bool:=l.any fun x=>decide (z=x)
theorem nuN_mem (l:List Int) (z:Int):decide (0<=nuN l z)=memI l z:=by
 rcases hs:nuO l z with _ | k
 ·have h2:memI l z=false:=List.any_eq_false.2 fun x hx=>by
   have:=List.findIdx?_eq_none_iff.1 hs x hx
   simpa using this
  unfold nuN;rw [hs,h2];simp
 ·have h:=List.findIdx?_eq_some_iff_getElem.1 hs
  obtain ⟨hk,hp,_⟩:=h
  have h2:memI l z=true:=List.any_eq_true.2 ⟨_,List.getElem_mem hk,hp⟩
  unfold nuN;rw [hs,h2];simp
theorem nuN_b (l:List Int) (z:Int) : -1<=nuN l z/\nuN l z<=l.length:=by
 unfold nuN
 rcases hs:nuO l z with _ | k
 ·dsimp only;omega
 ·have:=(List.findIdx?_eq_some_iff_getElem.1 hs).1
  dsimp only;omega
theorem nuO_some {l:List Int} {z:Int} {k:Nat} (h:k < l.length) (hk:z=l[k]) (hno:∀ j (hj:j < k),z≠l[j]):nuO l z=some k:=by
 unfold nuO
 rw [List.findIdx?_eq_some_iff_getElem]
 exact ⟨h,by simpa using hk,fun j hj=>by simpa using hno j hj⟩
theorem nuO_none {l:List Int} {z:Int} (hno:∀ j (hj:j < l.length),z≠l[j]):nuO l z=none:=by
 unfold nuO
 rw [List.findIdx?_eq_none_iff]
 intro c hc
 obtain ⟨j,hj,rfl⟩:=List.mem_iff_getElem.1 hc
 simpa using hno j hj
theorem indexI_any (A:Option Addr) (c n:Nat) (l:List Int) (hn:l.length=n) (z:Int) (w:World) (h:RdK inE w A l) (hl:n<=140737000000000) :
  Calls Tryz.prog 164 #[.slice A n c,.int .i64 z] w fun e w'=>e=.returned (.int .i64 (nuN l z))/\Touch [] w w':=by
 subst hn
 go_enter Tryz.func164,Tryz.ntmps164
 go_wp2
 go_loopw [8] (fun i wr=>∃ k:Nat,k<=l.length/\i=.int .i64 k/\Hid (∀ j (hj:j < k) (hl:j < l.length),z≠l[j])/\Touch [] w wr) (fun i _=>l.length-(intOf i).toNat)
 case atStart=>exact ⟨0,by omega,rfl,lh (fun j hj=>absurd hj (by omega)),Touch.refl _ _⟩
 case round =>
  obtain ⟨k,hk,rfl,Hno,ht⟩:=hrel
  by_cases hlt:k < l.length
  ·obtain ⟨ad,b,off,rfl,hadd,hc⟩:=RdK.cells (h.touch0 ht) 1 ine_length (by omega) k hlt
   rw [Nat.mul_one] at hadd
   have c0:=hc 0 _ rfl
   rw [Nat.add_zero] at c0
   have hyes:=nuO_some (z:=z) hlt
   obtain ⟨x,hx⟩:∃ x,x=l[k]:=⟨_,rfl⟩
   rw [<- hx] at c0 hyes
   have Hx:=lh hx;have Hyes:=lh hyes
   clear hx hyes hc
   by_cases hcs:z=x
   ·have Hp:=lh (Hyes.out hcs (fun j hj=>Hno.out j hj (by omega)))
    have hb:(z==x)=true:=by rw [beq_iff_eq];exact hcs
    clear hcs
    go_wp2
    go_ret
    exact ⟨ret_int (by unfold nuN;rw [Hp.out]),ht⟩
   ·have hb:(z==x)=false:=by rw [beq_eq_false_iff_ne];exact hcs
    have Hcs:=lh hcs
    clear hcs
    go_wp2
    go_roundw
    case rel=>exact ⟨k+1,by omega,by go_num,lh (fun j hj hl=>by
     by_cases hjk:j=k
     ·subst hjk;rw [<- Hx.out];exact Hcs.out
     ·exact Hno.out j (by omega) hl),ht⟩
    case measure=>simp [intOf];omega
  ·obtain rfl:k=l.length:=by omega
   have Hp:=lh (nuO_none (l:=l) (z:=z) (fun j hj=>Hno.out j hj hj))
   go_wp2
   go_ret
   exact ⟨ret_int (by unfold nuN;rw [Hp.out]),ht⟩
theorem containsI_any (A:Option Addr) (c n:Nat) (l:List Int) (hn:l.length=n) (z:Int) (w:World) (h:RdK inE w A l) (hl:n<=140737000000000) :
  Calls Tryz.prog 127 #[.slice A n c,.int .i64 z] w fun e w'=>e=.returned (.bool (memI l z))/\Touch [] w w':=by
 have hi:=indexI_any A c n l hn z w h hl
 have hm:=nuN_mem l z
 have hb:=nuN_b l z
 obtain ⟨i,hie⟩:∃ i,i=nuN l z:=⟨_,rfl⟩
 rw [<- hie] at hi hm hb
 have Hi:=lh hi
 have Hm:=lh hm
 clear hi hm hie
 go_enter Tryz.func127,Tryz.ntmps127
 go_wp2_with fail
 refine Hi.out.mono ?_
 rintro e w1 ⟨rfl,t1⟩
 go_wp2
 go_ret
 exact ⟨ret_bool (by rw [<- Hm.out]),t1⟩
def byV (cs:List CD) (by_:List (ByteArray × Bool)) (count:Int):Int:=if count < 0 then 20 else if by_.all (fun p=>(placeV cs p.1).isSome)=true then 0 else 13
theorem checkBy_any (x:PC) (l:List (ByteArray × Bool)) (hlb:x.by_.n=l.length) (SA:Option Addr) (c1 n1:Nat) (a:List CD) (h1:a.length=n1) (hl1:n1<=1000000) (hll:l.length<=1000000) (w:World)
  (hr:RdK odE w x.by_.A l) (ha:ColsAt w SA a) :
  Calls Tryz.prog 93 #[x.val,.slice SA n1 c1] w fun e w'=>e=.returned (.int .i64 (byV a l x.count))/\Touch [] w w':=by
 subst h1
 have HRD:=lh (And.intro hr ha)
 have Hv:=lh (show byV a l x.count=if x.count < 0 then 20 else if l.all (fun p=>(placeV a p.1).isSome)=true then 0 else 13 from rfl)
 obtain ⟨V,hV⟩:∃ V,V=byV a l x.count:=⟨_,rfl⟩
 rw [<- hV] at Hv ⊢
 clear hV hr ha
 obtain ⟨k0,k1,⟨A2,n2,c2'⟩,⟨⟨ck,cn,⟨cvk,cvn,cvt⟩,cop⟩,CA,cnn,cc⟩,⟨NA,nn,nc⟩,⟨EA,en,ec⟩,⟨OA,ol,oc⟩,⟨GA,gn,gc⟩,⟨BA,bn,bc⟩,count⟩:=x
 simp only [PC.val] at *
 subst hlb
 have HT0:=lh ((Touch.refl [] w).alloc (.cells #[.int .i64 k0,.string k1,.slice A2 n2 c2',.int .i64 ck,.string cn,.int .i64 cvk,.int .i64 cvn,.string cvt,.string cop,.slice CA cnn cc,.slice NA nn nc,.slice EA en ec,.slice OA ol oc,.slice GA gn gc,.slice BA l.length bc,.int .i64 count] 49))
 by_cases hc:count < 0
 ·have Hq:=lh (show V=20 by rw [Hv.out,if_pos hc])
  go_enter Tryz.func93,Tryz.ntmps93
  go_wp2
  go_ret
  exact ⟨ret_int Hq.out.symm,HT0.out⟩
 ·have Hq:=lh (show V=if l.all (fun p=>(placeV a p.1).isSome)=true then 0 else 13 by rw [Hv.out,if_neg hc])
  have hc':(count < 0)=False:=eq_false hc
  clear Hv
  go_enter Tryz.func93,Tryz.ntmps93
  go_wp2_with fail
  go_loopw [15] (fun i wr=>∃ k:Nat,k<=l.length/\i=.int .i64 k/\Hid ((l.take k).all (fun p=>(placeV a p.1).isSome)=true)/\Hid (Touch [] w wr)) (fun i _=>l.length-(intOf i).toNat)
  case atStart=>exact ⟨0,by omega,rfl,lh rfl,HT0⟩
  case round =>
   obtain ⟨k,hk,rfl,Hall,HT⟩:=hrel
   by_cases hlt:k < l.length
   ·obtain ⟨ad,b1,o1,rfl,hadd,hcx⟩:=RdK.cells (HRD.out.1.touch0 HT.out) 2 odE_length (by omega) k hlt
    have hno:=all_no (p:=fun p:ByteArray × Bool=>(placeV a p.1).isSome) hlt
    have hyes:=all_snoc (p:=fun p:ByteArray × Bool=>(placeV a p.1).isSome) hlt Hall.out
    obtain ⟨p,hp⟩:∃ p,p=l[k]:=⟨_,rfl⟩
    rw [<- hp] at hcx hno hyes
    obtain ⟨p1,p2⟩:=p
    have e0:=hcx 0 _ rfl
    have e1:=hcx 1 _ rfl
    rw [Nat.add_zero] at e0
    have ta:=(Touch.refl [] wr).alloc (.cells #[.string p1,.bool p2] 94)
    have hfa:=findC_any SA c1 a.length a rfl p1 _ (HRD.out.2.touch0 (HT.out.trans0 ta)) (by omega)
    have hkn:(k:Int) < (l.length:Int):=by omega
    obtain ⟨i,hi⟩:∃ i,i=(placeV a p1).getD 0:=⟨_,rfl⟩
    obtain ⟨b,hb⟩:∃ b,b=(placeV a p1).isSome:=⟨_,rfl⟩
    rw [<- hi,<- hb] at hfa
    dsimp only at hno hyes
    rw [<- hb] at hno hyes
    have Hfa:=lh hfa
    have Hno:=lh hno
    have Hyes:=lh hyes
    have HTa:=lh ta
    clear hfa hno hyes hcx hp ta hi hb Hall
    cases b
    ·have Hz:=lh (show V=13 by rw [Hq.out,if_neg (by rw [Hno.out rfl];simp)])
     go_wp2_with fail
     refine Hfa.out.mono ?_
     rintro e w1 ⟨rfl,t1⟩
     go_wp2
     go_ret
     exact ⟨ret_int Hz.out.symm,(HT.out.trans0 HTa.out).trans0 t1⟩
    ·go_wp2_with fail
     refine Hfa.out.mono ?_
     rintro e w1 ⟨rfl,t1⟩
     have HT1:=lh ((HT.out.trans0 HTa.out).trans0 t1)
     clear t1
     go_wp2_with fail
     go_roundw
     case rel=>exact ⟨k+1,by omega,by go_num,lh (Hyes.out (by first | trivial | rfl)),HT1⟩
     case measure=>simp [intOf];omega
   ·obtain rfl:k=l.length:=by omega
    have Hz:=lh (show V=0 by
     have:=Hall.out
     rw [List.take_length] at this
     rw [Hq.out,if_pos this])
    go_wp2
    go_ret
    exact ⟨ret_int Hz.out.symm,HT.out⟩
def ETypeC (w:World) (SA:Option Addr) (c n:Nat) (x:XC) (r:Int × Int):Prop:=∀ w',Touch [] w w'->Calls Tryz.prog 68 #[x.val,.slice SA n c] w' fun e w''=>e=.returned (.tuple #[.int .i64 r.1,.int .i64 r.2])/\Touch [] w' w''
def errX:List (Int × Int)->Int
 | []=>0
 | v :: r=>if v.2=0 then errX r else v.2
theorem errX_zero:∀ {l:List (Int × Int)},(∀ v∈l,v.2=0)->errX l=0
 | [],_=>rfl
 | v :: l,h=>by rw [errX,if_pos (h v List.mem_cons_self)];exact errX_zero fun x hx=>h x (List.mem_cons_of_mem _ hx)
theorem errX_at:∀ {l:List (Int × Int)} {j:Nat} (hj:j < l.length),(∀ i (hi:i < j),l[i].2=0)->l[j].2≠0->errX l=l[j].2
 | v :: l,0,_,_,h=>by
  have h:v.2≠0:=h
  rw [errX,if_neg h];rfl
 | v :: l,j+1,hj,h0,h=>by
  have hz:v.2=0:=h0 0 (by omega)
  rw [errX,if_pos hz]
  exact errX_at (by simpa using hj) (fun i hi=>by have:=h0 (i+1) (by omega);simpa using this) (by simpa using h)
def keepC (names:List ByteArray) (ets:List (Int × Int)):List CD:=List.zipWith (fun n t=>⟨n,t.1⟩) names ets
def keepV (names:List ByteArray) (ets:List (Int × Int)):Int × List CD :=
 if names.length=ets.length then (if errX ets=0 then (if memI ((keepC names ets).map (·.typ)) 0=true then (12,[]) else (0,keepC names ets)) else (errX ets,[])) else (20,[])
theorem keepSchema_any (x:PC) (names:List ByteArray) (xs:List XC) (ets:List (Int × Int)) (hnn:x.names.n=names.length) (hen:x.exprs.n=xs.length) (hle:ets.length=xs.length) (SA:Option Addr) (c1 n1:Nat) (hln:names.length<=100000) (hlx:xs.length<=100000) (w:World)
  (hr:RdK btE w x.names.A names) (hx:RdK xcE w x.exprs.A xs) (hE:∀ i (h1:i < xs.length) (h2:i < ets.length),ETypeC w SA c1 n1 xs[i] ets[i]) :
  Calls Tryz.prog 89 #[x.val,.slice SA n1 c1] w (SchPost (keepV names ets) w):=by
 have Hv:=lh (show keepV names ets=if names.length=ets.length then (if errX ets=0 then (if memI ((keepC names ets).map (·.typ)) 0=true then (12,[]) else (0,keepC names ets)) else (errX ets,[])) else (20,[]) from rfl)
 obtain ⟨V,hV⟩:∃ V,V=keepV names ets:=⟨_,rfl⟩
 rw [<- hV] at Hv ⊢
 clear hV
 obtain ⟨k0,k1,⟨A2,n2,c2'⟩,⟨⟨ck,cn,⟨cvk,cvn,cvt⟩,cop⟩,CA,cnn,cc⟩,⟨NA,nn,nc⟩,⟨EA,en,ec⟩,⟨OA,ol,oc⟩,⟨GA,gn,gc⟩,⟨BA,bn,bc⟩,count⟩:=x
 simp only [PC.val] at *
 subst hnn hen
 obtain ⟨W,hW⟩:∃ W,W=w.alloc (.cells #[.int .i64 k0,.string k1,.slice A2 n2 c2',.int .i64 ck,.string cn,.int .i64 cvk,.int .i64 cvn,.string cvt,.string cop,.slice CA cnn cc,.slice NA names.length nc,.slice EA xs.length ec,.slice OA ol oc,.slice GA gn gc,.slice BA bn bc,.int .i64 count] 49):=⟨_,rfl⟩
 have t0:Touch [] w W:=hW ▸ (Touch.refl [] w).alloc _
 have hb0:=hW ▸ heap_alloc_new w (.cells #[.int .i64 k0,.string k1,.slice A2 n2 c2',.int .i64 ck,.string cn,.int .i64 cvk,.int .i64 cvn,.string cvt,.string cop,.slice CA cnn cc,.slice NA names.length nc,.slice EA xs.length ec,.slice OA ol oc,.slice GA gn gc,.slice BA bn bc,.int .i64 count] 49)
 have c10:W.cell? ⟨w.heap.size,10,none⟩=some (.slice NA names.length nc):=cell_blk hb0 rfl
 have HW:=lh hW
 have HT0:=lh (And.intro t0 c10)
 have HRW:=lh (And.intro (hr.touch0 t0) (hx.touch0 t0))
 have HEt:=lh hE
 have Hle:=lh hle
 clear t0 hb0 hW c10 hr hx hE hle
 by_cases hl:names.length=xs.length
 ·have Hv1:=lh (show V=if errX ets=0 then (if memI ((keepC names ets).map (·.typ)) 0=true then (12,[]) else (0,keepC names ets)) else (errX ets,[]) by rw [Hv.out,Hle.out,if_pos hl])
  have hlb:((names.length:Int)==(xs.length:Int))=true:=by rw [beq_iff_eq];omega
  have hlb':((names.length:Int) != (xs.length:Int))=false:=by rw [bne,hlb];rfl
  have Hl:=lh hl
  clear Hv hl
  go_enter Tryz.func89,Tryz.ntmps89
  go_wp2_with fail
  rw [<- HW.out]
  clear hlb hlb'
  go_loopw [6,21] (fun o i wr=>∃ (k:Nat) (A:Option Addr) (c:Nat) (acc:List CD),k<=xs.length/\i=.int .i64 k/\o=.slice A k c/\Hid (acc=(keepC names ets).take k)/\Hid (∀ i (hi:i < k) (h2:i < ets.length),ets[i].2=0)/\Hid (Made 29 2 cdE acc A c W wr)) (fun _ i _=>xs.length-(intOf i).toNat)
  case atStart=>exact ⟨0,none,0,[],by omega,rfl,rfl,lh rfl,lh (fun i h=>absurd h (by omega)),lh (Made.nil _ _ _ _)⟩
  case round =>
   obtain ⟨k,A,c,acc,hk,rfl,rfl,HA,HZ,HM⟩:=hrel
   have HL:Hid (acc.length=k):=lh (by rw [HA.out,List.length_take];unfold keepC;rw [List.length_zipWith,Hle.out,Hl.out];omega)
   by_cases hlt:k < xs.length
   ·have hke:k < ets.length:=by rw [Hle.out];exact hlt
    have hkn:k < names.length:=by rw [Hl.out];exact hlt
    have hkk:k < (keepC names ets).length:=by unfold keepC;rw [List.length_zipWith];omega
    obtain ⟨ad,b1,o1,rfl,hadd,hc⟩:=RdK.cells (HRW.out.2.touch0 HM.out.t) 7 xcE_length (by omega) k hlt
    obtain ⟨ad2,b2,o2,rfl,hadd2,hc2⟩:=RdK.cells (HRW.out.1.touch0 HM.out.t) 1 btE_length (by omega) k hkn
    rw [Nat.mul_one] at hadd2
    have f0:=hc2 0 _ rfl
    rw [Nat.add_zero] at f0
    have het:=HEt.out k hlt hke
    have hst:(keepC names ets).take (k+1)=acc++[⟨names[k],ets[k].1⟩]:=by
     have hg:(keepC names ets)[k]=⟨names[k],ets[k].1⟩:=by simp [keepC]
     rw [List.take_succ_eq_append_getElem hkk,hg,HA.out]
    have her:=fun h0=>errX_at (l:=ets) hke (fun i hi=>HZ.out i hi (by omega)) h0
    obtain ⟨y,hy⟩:∃ y,y=xs[k]:=⟨_,rfl⟩
    obtain ⟨u,hu⟩:∃ u,u=ets[k]:=⟨_,rfl⟩
    obtain ⟨nm,hnm⟩:∃ nm,nm=names[k]:=⟨_,rfl⟩
    rw [<- hy] at hc het
    rw [<- hu] at het hst her
    rw [<- hnm] at f0 hst
    have Hu:=lh hu
    obtain ⟨uty,uer⟩:=u
    obtain ⟨⟨yk,yn,⟨yvk,yvn,yvt⟩,yop⟩,YA,ynn,yc⟩:=y
    have e0:=hc 0 _ rfl;have e1:=hc 1 _ rfl;have e2:=hc 2 _ rfl;have e3:=hc 3 _ rfl;have e4:=hc 4 _ rfl;have e5:=hc 5 _ rfl;have e6:=hc 6 _ rfl
    rw [Nat.add_zero] at e0
    dsimp only at e0 e1 e2 e3 e4 e5 e6 hst her
    have ta:=(Touch.refl [] wr).alloc (.cells #[.int .i64 yk,.string yn,.int .i64 yvk,.int .i64 yvn,.string yvt,.string yop,.slice YA ynn yc] 44)
    have het2:=het _ ((HT0.out.1.trans0 HM.out.t).trans0 ta)
    simp only [XC.val] at het2
    have Het:=lh het2
    have Hst:=lh hst
    have HTa:=lh ta
    have hkn':(k:Int) < (xs.length:Int):=by omega
    have hkn2:(k:Int) < (names.length:Int):=by omega
    have hk0:(0:Int)<=(k:Int):=by omega
    have d10:=(HM.out.t.trans0 ta).cell HT0.out.2 (by simp)
    have f0':=ta.cell f0 (by simp)
    clear hc hc2 het het2 hst hy hu hnm ta hkk f0
    by_cases hz:uer=0
    ·subst hz
     clear her
     go_wp2_with fail
     refine Het.out.mono ?_
     rintro e w1 ⟨rfl,t1⟩
     have g10:=t1.cell d10 (by simp)
     have h0:=t1.cell f0' (by simp)
     have HM1:=lh ((HM.out.touch0 HTa.out).touch0 t1)
     clear t1 HM d10 f0'
     go_wp2_with (at_builtin;refine stop ?_)
     refine go ?_
     have tb:=(Touch.refl [] w1).alloc (.cells #[.string nm,.int .i64 uty] 29)
     refine wpList_appK (enc:=cdE) rfl (.tmp 35) (.tmp 43) 24 rfl 29 _ 2 24 info_c5 Tryz.underlying24 rfl (by omega) cdE_length cdE_one A k c acc HL.out rfl (HM1.out.touch0 tb).own
      (some ⟨w1.heap.size,0,none⟩) 1 1 [⟨nm,uty⟩] rfl rfl (RdK.one (enc:=cdE) w1 29 ⟨nm,uty⟩ _ rfl) (by omega) (by omega) ?_
     intro A' c' w' hown ht hf
     have HX:=lh ((HM1.out.touch0 tb).step hown ht hf)
     clear hown ht hf tb
     go_wp2_with fail
     go_roundw
     case rel=>exact ⟨k+1,A',c',acc++[⟨nm,uty⟩],by omega,by go_num,rfl,lh Hst.out.symm,lh (fun i hi h2=>by
      by_cases hij:i=k
      ·subst hij;rw [<- Hu.out]
      ·exact HZ.out i (by omega) h2),HX⟩
     case measure=>simp [intOf];omega
    ·have Hn:=lh (show V=(uer,[]) by rw [Hv1.out,her hz,if_neg hz])
     have hq:(uer==0)=false:=by rw [beq_eq_false_iff_ne];exact hz
     have hq':(uer != 0)=true:=by rw [bne,hq];rfl
     clear her
     go_wp2_with fail
     refine Het.out.mono ?_
     rintro e w1 ⟨rfl,t1⟩
     go_wp2
     go_ret2
     rw [Hn.out]
     exact SchPost.err uer (((HT0.out.1.trans0 HM.out.t).trans0 HTa.out).trans0 t1)
   ·obtain rfl:k=xs.length:=by omega
    have hz:errX ets=0:=errX_zero fun u hu=>by
     obtain ⟨i,hi,rfl⟩:=List.mem_iff_getElem.1 hu
     exact HZ.out i (by rw [<- Hle.out];exact hi) hi
    have hacc:acc=keepC names ets:=by
     rw [HA.out,List.take_of_length_le]
     unfold keepC;rw [List.length_zipWith,Hle.out];omega
    have Hn:=lh (show V=if memI (acc.map (·.typ)) 0=true then (12,[]) else (0,acc) by rw [Hv1.out,if_pos hz,hacc])
    have Hty:=lh (typesC_any A c xs.length acc HL.out (by omega) wr HM.out.own.rd)
    obtain ⟨B,hB⟩:∃ B,B=memI (acc.map (·.typ)) 0:=⟨_,rfl⟩
    rw [<- hB] at Hn
    have HBb:=lh hB
    clear hz hacc HA HZ hB
    cases B
    ·have Hn2:=lh (show V=(0,acc) by rw [Hn.out,if_neg (by simp)])
     clear Hn
     go_wp2_with fail
     refine Hty.out.mono ?_
     rintro e w1 ⟨A3,c3,rfl,m3⟩
     have hci:=containsI_any A3 c3 xs.length (acc.map (·.typ)) (by rw [List.length_map];exact HL.out) 0 w1 m3.own.rd (by omega)
     rw [<- HBb.out] at hci
     have Hci:=lh hci
     have HT3:=lh m3.t
     clear m3 hci Hty
     go_wp2_with fail
     refine Hci.out.mono ?_
     rintro e w2 ⟨rfl,t2⟩
     have HT4:=lh (HT3.out.trans0 t2)
     clear t2
     go_wp2
     go_ret2
     rw [Hn2.out]
     have hm:=HM.out.touch0 HT4.out
     have hl:=HL.out
     exact ⟨A,c,by rw [<- hl];rfl,hm.own,HT0.out.1.trans0 hm.t,fun b hb=>Nat.le_trans HT0.out.1.size (hm.f b hb)⟩
    ·have Hn2:=lh (show V=(12,[]) by rw [Hn.out,if_pos rfl])
     clear Hn
     go_wp2_with fail
     refine Hty.out.mono ?_
     rintro e w1 ⟨A3,c3,rfl,m3⟩
     have hci:=containsI_any A3 c3 xs.length (acc.map (·.typ)) (by rw [List.length_map];exact HL.out) 0 w1 m3.own.rd (by omega)
     rw [<- HBb.out] at hci
     have Hci:=lh hci
     have HT3:=lh m3.t
     clear m3 hci Hty
     go_wp2_with fail
     refine Hci.out.mono ?_
     rintro e w2 ⟨rfl,t2⟩
     have HT4:=lh (HT3.out.trans0 t2)
     clear t2
     go_wp2
     go_ret2
     rw [Hn2.out]
     exact SchPost.err 12 ((HT0.out.1.trans0 HM.out.t).trans0 HT4.out)
 ·have Hn:=lh (show V=(20,[]) by rw [Hv.out,Hle.out,if_neg hl])
  have hlb:((names.length:Int)==(xs.length:Int))=false:=by rw [beq_eq_false_iff_ne];omega
  have hlb':((names.length:Int) != (xs.length:Int))=true:=by rw [bne,hlb];rfl
  clear Hv hl
  go_enter Tryz.func89,Tryz.ntmps89
  go_wp2
  go_ret2
  rw [Hn.out]
  rw [<- HW.out]
  exact SchPost.err 20 HT0.out.1
end
section
open Go.RowKit
def eqC (a b:CD):Bool:=decide (a.name=b.name)&&decide (a.typ=b.typ)
theorem eqC_iff (a b:CD):eqC a b=true ↔ a=b:=by
 obtain ⟨an,aty⟩:=a
 obtain ⟨bn,bty⟩:=b
 simp [eqC]
theorem eqIn_col (a b:CD) (w:World):(Op.equalIn 10000 29 (.agg #[.string a.name,.int .i64 a.typ]) (.agg #[.string b.name,.int .i64 b.typ])).run Tryz.prog w=.ok (eqC a b) w:=by
 have hS:Tryz.prog.underlying 29=some (.struct (Tryz.prog.fieldsOf 29)):=by kernel_rfl
 have hp:Tryz.prog.stoodInHeld 29=false:=by kernel_rfl
 rw [show (10000:Nat)=9999+1 from rfl,run_equalIn_agg w 9999 29 _ _ hS hp]
 simp only [Program.fieldsOf,Tryz.underlying29]
 have hs:=bs_beq a.name b.name
 go_simp
 by_cases h1:a.name=b.name <;> by_cases h2:a.typ=b.typ <;> simp [eqC,h1,h2]
theorem guard_col (op:BinOp) (x y:Operand) (a b:Array Value) (w:World):(eqGuard op 29 x y (.agg a) (.agg b)).run Tryz.prog w=.ok () w:=run_eqGuard_agg w op _ x y _ _ (by kernel_rfl)
def eqCs:List CD->List CD->Bool
 | [],[]=>true
 | a :: r,b :: s=>eqC a b&&eqCs r s
 | _,_=>false
theorem eqCs_iff (l r:List CD):eqCs l r=true ↔ l=r:=by
 induction l generalizing r with
 | nil=>cases r <;> simp [eqCs]
 | cons a l ih=>cases r with
  | nil=>simp [eqCs]
  | cons b r=>simp [eqCs,ih,eqC_iff]
theorem equalC_any (A B:Option Addr) (c1 c2 n m:Nat) (l r:List CD) (hn:l.length=n) (hm:r.length=m) (w:World) (h:ColsAt w A l) (h2:ColsAt w B r) (hl:n<=140737000000000) (hl2:m<=140737000000000) :
  Calls Tryz.prog 34 #[.slice A n c1,.slice B m c2] w fun e w'=>e=.returned (.bool (eqCs l r))/\Touch [] w w':=by
 subst hn hm
 by_cases hlen:l.length=r.length
 ·have Hlen:=lh hlen
  have hq:((l.length:Int)==(r.length:Int))=true:=by rw [beq_iff_eq];omega
  have hq':((l.length:Int) != (r.length:Int))=false:=by rw [bne,hq];rfl
  clear hlen
  go_enter Tryz.func34,Tryz.ntmps34
  go_wp2
  clear hq hq'
  go_loopw [13] (fun i wr=>∃ k:Nat,k<=l.length/\i=.int .i64 k/\Hid (eqCs l r=eqCs (l.drop k) (r.drop k))/\Touch [] w wr) (fun i _=>l.length-(intOf i).toNat)
  case atStart=>exact ⟨0,by omega,rfl,lh rfl,Touch.refl _ _⟩
  case round =>
   obtain ⟨k,hk,rfl,He,ht⟩:=hrel
   by_cases hlt:k < l.length
   ·have hlt2:k < r.length:=by have:=Hlen.out;omega
    obtain ⟨ad,b,off,rfl,hadd,c0,c1⟩:=(h.touch0 ht).at_ k hlt
    obtain ⟨bd,b2,off2,rfl,hadd2,d0,d1⟩:=(h2.touch0 ht).at_ k hlt2
    have hst:eqCs l r=(eqC l[k] r[k]&&eqCs (l.drop (k+1)) (r.drop (k+1))):=by
     rw [He.out,List.drop_eq_getElem_cons hlt,List.drop_eq_getElem_cons hlt2];rfl
    have heq:=eqIn_col l[k] r[k]
    obtain ⟨x,hx⟩:∃ x,x=l[k]:=⟨_,rfl⟩
    obtain ⟨y,hy⟩:∃ y,y=r[k]:=⟨_,rfl⟩
    rw [<- hx,<- hy] at hst heq
    rw [<- hx] at c0 c1
    rw [<- hy] at d0 d1
    have Hst:=lh hst
    have hgd:=guard_col
    have g0:=TW.cell c0
    have g1:=TW.cell c1
    have g2:=TW.cell d0
    have g3:=TW.cell d1
    have hkI0:(0:Int)<=(k:Int):=by omega
    have hkI:(k:Int) < (l.length:Int):=by omega
    have hkI2:(k:Int) < (r.length:Int):=by omega
    clear hst hx hy He c0 c1 d0 d1
    rcases hxy:eqC x y with _ | _
    ·have Hf:=lh (show eqCs l r=false by rw [Hst.out,hxy];rfl)
     rw [hxy] at heq
     clear hxy
     go_wp2
     refine wp_region_tw wr (Touch.refl _ _) (by kernel_rfl) (by kernel_rfl) ?_
     repeat (go_big_quiet_step (fail))
     refine wpQuiet_nil ?_
     rintro _ ⟨x2,rfl⟩
     go_wp2
     go_ret
     exact ⟨ret_bool (by rw [Hf.out]),ht.trans0 x2.t⟩
    ·have Hf:=lh (show eqCs l r=eqCs (l.drop (k+1)) (r.drop (k+1)) by rw [Hst.out,hxy];rfl)
     rw [hxy] at heq
     clear hxy
     go_wp2
     refine wp_region_tw wr (Touch.refl _ _) (by kernel_rfl) (by kernel_rfl) ?_
     repeat (go_big_quiet_step (fail))
     refine wpQuiet_nil ?_
     rintro _ ⟨x2,rfl⟩
     go_wp2
     go_roundw
     case rel=>exact ⟨k+1,by omega,by go_num,Hf,ht.trans0 x2.t⟩
     case measure=>simp [intOf];omega
   ·obtain rfl:k=l.length:=by omega
    have Hf:=lh (show eqCs l r=true by rw [He.out,List.drop_length,List.drop_of_length_le (by have:=Hlen.out;omega)];rfl)
    go_wp2
    go_ret
    exact ⟨ret_bool (by rw [Hf.out]),ht⟩
 ·have Hf:=lh (show eqCs l r=false by
   rw [Bool.eq_false_iff]
   intro h
   rw [eqCs_iff] at h
   exact hlen (by rw [h]))
  have hq:((l.length:Int)==(r.length:Int))=false:=by rw [beq_eq_false_iff_ne];omega
  have hq':((l.length:Int) != (r.length:Int))=true:=by rw [bne,hq];rfl
  clear hlen
  go_enter Tryz.func34,Tryz.ntmps34
  go_wp2
  go_ret
  exact ⟨ret_bool (by rw [Hf.out]),Touch.refl _ _⟩
theorem schEqual_any (A B:Option Addr) (c1 c2 n m:Nat) (l r:List CD) (hn:l.length=n) (hm:r.length=m) (w:World) (h:ColsAt w A l) (h2:ColsAt w B r) (hl:n<=140737000000000) (hl2:m<=140737000000000) :
  Calls Tryz.prog 18 #[.slice A n c1,.slice B m c2] w fun e w'=>e=.returned (.bool (eqCs l r))/\Touch [] w w':=by
 go_enter Tryz.func18,Tryz.ntmps18
 go_wp2_with fail
 refine (equalC_any A B c1 c2 n m l r hn hm w h h2 hl hl2).mono ?_
 rintro e w1 ⟨rfl,t1⟩
 go_wp2
 go_ret
 exact ⟨rfl,t1⟩
end
end Go.Proofs.YtafoklilkdnepaaGreatDoor
