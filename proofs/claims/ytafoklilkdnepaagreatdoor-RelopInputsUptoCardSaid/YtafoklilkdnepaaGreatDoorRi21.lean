/- Part 21 of the texts of this proof, one behind the other. No condition beyond those that its theorems state. -/
import Derived.Test.YtafoklilkdnepaaGreatDoorRi20
import Derived.Deep.RegionHeld3
import Derived.Laws.Externs
import Derived.BigQuiet
import Derived.Deep.DeepCutAuto
set_option maxRecDepth 40000
set_option maxHeartbeats 25600000
namespace Go.Proofs.YtafoklilkdnepaaGreatDoor
section
open Go.RowKit Go.Maps Go.ChangeMaps
theorem info_str5:(Tryz.prog.info? 9).map (fun i=>(i.zero,i.size,i.bytes))=some (some (.string ⟨#[]⟩),1,16):=by kernel_rfl
def okI (rows:List (List VD)) (at_:List Nat) (i:Nat):Bool := !nullV (pickV (rows.getD i []) at_)
def keyI (rows:List (List VD)) (at_:List Nat) (i:Nat):List UInt8:=keyL (pickV (rows.getD i []) at_)
def foundI (rowsB:List (List VD)) (bt at_:List Nat) (r:List VD):List Nat:=if nullV (pickV r at_)=true then [] else selK (okI rowsB bt) (keyI rowsB bt) rowsB.length (keyL (pickV r at_))
def foundR (left:Bool) (wide:Nat) (rowsB:List (List VD)) (bt at_:List Nat) (r:List VD):List (List VD) :=
 if foundI rowsB bt at_ r=[]/\left=true then [List.replicate wide ⟨0,0,⟨#[]⟩⟩] else (foundI rowsB bt at_ r).map fun i=>rowsB.getD i []
def joinL (left:Bool) (wide:Nat) (rowsA rowsB:List (List VD)) (at_ bt:List Nat):List (List VD):=rowsA.flatMap fun r=>(foundR left wide rowsB bt at_ r).map fun o=>r++o
theorem joinL_snoc (left:Bool) (wide:Nat) (rowsA rowsB:List (List VD)) (at_ bt:List Nat) (k:Nat) (h:k < rowsA.length) :
  joinL left wide (rowsA.take (k+1)) rowsB at_ bt=joinL left wide (rowsA.take k) rowsB at_ bt++(foundR left wide rowsB bt at_ rowsA[k]).map fun o=>rowsA[k]++o:=by
 unfold joinL
 rw [List.take_succ_eq_append_getElem h,List.flatMap_append];simp
theorem joinL_le (left:Bool) (wide:Nat) (rowsA rowsB:List (List VD)) (at_ bt:List Nat) (k:Nat):(joinL left wide (rowsA.take k) rowsB at_ bt).length<=(joinL left wide rowsA rowsB at_ bt).length:=by
 conv=>rhs;rw [<- List.take_append_drop k rowsA]
 unfold joinL
 rw [List.flatMap_append,List.length_append];omega
theorem places_lt {cs:List CD} {names:List ByteArray} (h:0 < cs.length):∀ i∈placesV cs names,i < cs.length:=by
 intro i hi
 obtain ⟨n,_,rfl⟩:=List.mem_map.1 hi
 rcases hp:placeV cs n with _ | k
 ·exact h
 ·exact placeV_lt hp
def GoodR (w:World) (rows:List (List VD)) (n:Nat):Prop:=∀ r∈rows,r.length=n/\∀ v∈r,ShowAt w v/\v.Ok 140737000000000
theorem GoodR.touch0 {w w':World} {rows:List (List VD)} {n:Nat} (h:GoodR w rows n) (ht:Touch [] w w'):GoodR w' rows n:=fun r hr=>⟨(h r hr).1,fun v hv=>⟨((h r hr).2 v hv).1.touch0 ht,((h r hr).2 v hv).2⟩⟩
theorem pick_mem {r:List VD} {at_:List Nat} (h:∀ i∈at_,i < r.length):∀ v∈pickV r at_,v∈r:=by
 intro v hv
 obtain ⟨i,hi,rfl⟩:=List.mem_map.1 hv
 have:=h i hi
 simp [this]
theorem key_le (l:List VD) (h:∀ v∈l,v.Ok 140737000000000):(keyL l).length<=201*l.length:=by
 unfold keyL
 induction l with
 | nil=>simp
 | cons a l ih =>
  have:=show_le a (h a List.mem_cons_self).n
  have:=ih fun v hv=>h v (List.mem_cons_of_mem _ hv)
  rw [List.flatMap_cons,List.length_append,List.length_append,List.length_cons,List.length_cons,List.length_nil]
  omega
theorem key_pick {w:World} {r:List VD} {at_:List Nat} {n:Nat} (hr:r.length=n) (hat:∀ i∈at_,i < n) (hl:at_.length<=1000000) (hg:∀ v∈r,ShowAt w v/\v.Ok 140737000000000) (A:Option Addr) (c:Nat) (w':World) (ht:Touch [] w w') (hv:ValsAt w' A (pickV r at_)) :
  Calls Tryz.prog 136 #[.slice A at_.length c] w' fun e w''=>e=.returned (.string (S (keyL (pickV r at_))))/\Touch [] w' w'':=by
 have hm:=pick_mem (r:=r) (at_:=at_) (by rw [hr];exact hat)
 exact keyOf_any A c at_.length (pickV r at_) (by unfold pickV;rw [List.length_map]) w' hv (by omega) (fun v hv=>(hg v (hm v hv)).1.touch0 ht) (fun v hv=>(hg v (hm v hv)).2)
def JoinP (left:Bool) (wide:Nat) (rowsA rowsB:List (List VD)) (at_ bt:List Nat) (w:World) (e:Ending) (w':World):Prop :=
 Touch [] w w'/\if 4096 < (joinL left wide rowsA rowsB at_ bt).length then e=.returned (.tuple #[.slice none 0 0,.int .i64 31])
  else ∃ B c,e=.returned (.tuple #[.slice B (joinL left wide rowsA rowsB at_ bt).length c,.int .i64 0])/\RowsAt w' B (joinL left wide rowsA rowsB at_ bt)
theorem run_mkV (n:Nat) (hn:n<=1000) (w:World):(Instr.makeSlice 33 (.int .i64 (n:Int)) (.int .i64 (n:Int))).run Tryz.prog w=.ok (.slice (some ⟨w.heap.size,0,none⟩) n n) (w.alloc (.cells (madeCells #[.int .i64 0,.int .i64 0,.string ⟨#[]⟩] (n*3)) 31)):=by
 obtain ⟨i0,hi0,hz0,hz1,hz2⟩:=info_parts info_v5
 have h:=run_make (P:=Tryz.prog) w 33 31 i0 _ Tryz.underlying33 hi0 hz0 .i64 .i64 (n:Int) (n:Int) (by omega) (by omega) (by rw [hz2];omega) (by omega)
 rw [Int.toNat_natCast,hz1] at h
 exact h
theorem vals_made (n:Nat) (w:World):ValsAt (w.alloc (.cells (madeCells #[.int .i64 0,.int .i64 0,.string ⟨#[]⟩] (n*3)) 31)) (some ⟨w.heap.size,0,none⟩) (List.replicate n ⟨0,0,⟨#[]⟩⟩):=by
 refine RdK.row (enc:=vdE) w 31 (List.replicate n ⟨0,0,⟨#[]⟩⟩) _ ?_
 have hl:((List.replicate n (⟨0,0,⟨#[]⟩⟩:VD)).flatMap vdE).length=n*3:=by rw [flat_length vdE 3 vdE_length,List.length_replicate]
 apply List.ext_getElem?
 intro i
 by_cases hi:i < n*3
 ·have h3:i / 3 < n:=by omega
  have hd:=flat_get vdE 3 vdE_length (List.replicate n (⟨0,0,⟨#[]⟩⟩:VD)) (i / 3) (i % 3) (by simpa using h3) (Nat.mod_lt _ (by omega))
  rw [show i / 3*3+i % 3=i by omega] at hd
  rw [hd]
  have hm:i % 3=0\/i % 3=1\/i % 3=2:=by omega
  simp only [madeCells,List.getElem_replicate]
  rcases hm with q | q | q <;> simp [hi,q,vdE]
 ·rw [List.getElem?_eq_none (by simp [madeCells];omega),List.getElem?_eq_none (by rw [hl];omega)]
end
section
open Go.RowKit
theorem add64_run (x y c:Int) (hx:0<=x) (hy:0<=y) (hc0:0<=c) (hc:c<=1) (w:World) :
  (callFunc 202 #[.int .u64 x,.int .u64 y,.int .u64 c]).run Tryz.prog w =
   .ok (.value (.tuple #[.int .u64 ((x+y+c) % 18446744073709551616),.int .u64 ((x+y+c) / 18446744073709551616)])) w:=by
 rw [run_callFunc_extern Tryz.func202 (by kernel_rfl) (by kernel_rfl) (by kernel_rfl) (e:=add64Entry) (by kernel_rfl),run_add64 x y c hx hy hc0 hc]
 rfl
def sumI:List VD->Int
 | []=>0
 | v :: r=>v.num+sumI r
theorem sumI_snoc (l:List VD) (v:VD):sumI (l++[v])=sumI l+v.num:=by
 induction l with
 | nil=>simp [sumI]
 | cons a l ih=>simp only [List.cons_append,sumI,ih];omega
theorem sumI_b (l:List VD) (h:∀ v∈l, -9223372036854775808<=v.num/\v.num<=9223372036854775807) : -(9223372036854775808*l.length:Int)<=sumI l/\sumI l<=9223372036854775808*l.length:=by
 induction l with
 | nil=>simp [sumI]
 | cons a l ih =>
  have h1:=h a List.mem_cons_self
  have h2:=ih fun v hv=>h v (List.mem_cons_of_mem _ hv)
  simp only [sumI,List.length_cons]
  omega
def sumV (l:List VD):Int × VD:=if -9223372036854775808<=sumI l/\sumI l<=9223372036854775807 then (0,⟨1,sumI l,⟨#[]⟩⟩) else (10,⟨0,0,⟨#[]⟩⟩)
theorem sum_any (A:Option Addr) (c n:Nat) (l:List VD) (hn:l.length=n) (hl:n<=1000000) (hok:∀ v∈l,v.Ok 140737000000000) (w:World) (h:ValsAt w A l) :
  Calls Tryz.prog 174 #[.slice A n c] w fun e w'=>e=.returned (.tuple #[(sumV l).2.val,.int .i64 (sumV l).1])/\Touch [] w w':=by
 subst hn
 obtain ⟨W,hW⟩:∃ W,W=w.alloc (.cells #[.int .i64 0,.int .i64 0,.string ⟨#[]⟩] 31):=⟨_,rfl⟩
 have t0:Touch [] w W:=hW ▸ (Touch.refl [] w).alloc _
 have hbr:W.heap[w.heap.size]?=some (.cells #[.int .i64 0,.int .i64 0,.string ⟨#[]⟩] 31 (0,0)):=hW ▸ heap_alloc_new w _
 have HV:=lh h
 have HT0:=lh (And.intro t0 hbr)
 have HW:=lh hW
 have HN:=lh (show ∀ v∈l, -9223372036854775808<=v.num/\v.num<=9223372036854775807 from fun v hv=>(hok v hv).n)
 have Hof:=lh fun n w'=>of_num n w'
 clear h t0 hbr hW hok
 go_enter Tryz.func174,Tryz.ntmps174
 go_wp2_with fail
 rw [<- HW.out]
 go_loopw [4,5,11] (fun h o i wr=>∃ (k:Nat) (hi lo:Nat),k<=l.length/\h=.int .u64 hi/\o=.int .u64 lo/\i=.int .i64 k/\Hid (∃ q:Int,hi < 18446744073709551616/\lo < 18446744073709551616/\(hi:Int)*18446744073709551616+lo=sumI (l.take k)+q*340282366920938463463374607431768211456)/\Hid (Touch [] W wr)) (fun _ _ i _=>l.length-(intOf i).toNat)
 case atStart=>exact ⟨0,0,0,by omega,rfl,rfl,rfl,lh ⟨0,by omega,by omega,by simp [sumI]⟩,lh (Touch.refl _ _)⟩
 case round =>
  obtain ⟨k,hi,lo,hk,rfl,rfl,rfl,HQ,HT⟩:=hrel
  by_cases hlt:k < l.length
  ·have hva:ValsAt wr A l:=RdK.touch0 HV.out (HT0.out.1.trans0 HT.out)
   obtain ⟨ad,b,off,rfl,hadd,c0,c1,c2⟩:=hva.at_ k hlt
   have htk:=List.take_succ_eq_append_getElem hlt
   have hnb:=HN.out _ (List.getElem_mem hlt)
   obtain ⟨v,hv⟩:∃ v,v=l[k]:=⟨_,rfl⟩
   rw [<- hv] at c0 c1 c2 htk hnb
   have hsn:=sumI_snoc (l.take k) v
   rw [<- htk] at hsn
   obtain ⟨vk,x,vt⟩:=v
   dsimp only at c0 c1 c2 hnb hsn
   have Hsn:=lh hsn
   have hkI:(k:Int) < (l.length:Int):=by omega
   obtain ⟨-,hh,hl', -⟩:=HQ.out
   obtain ⟨u,hu⟩:∃ u:Int,u=if x < 0 then x+18446744073709551616 else x:=⟨_,rfl⟩
   have hwu:IntKind.u64.wrap x=u:=by
    have h:IntKind.u64.wrap x=x % 18446744073709551616:=by simp [IntKind.wrap,IntKind.bits,IntKind.signed]
    rw [h,hu]
    split <;> omega
   have hu0:0<=u:=by rw [hu];split <;> omega
   have ha:=fun w'=>add64_run lo u 0 (by omega) hu0 (by omega) (by omega) w'
   obtain ⟨lo',hlo'⟩:∃ lo':Nat,(lo':Int)=((lo:Int)+u+0) % 18446744073709551616:=⟨(((lo:Int)+u+0) % 18446744073709551616).toNat,by omega⟩
   obtain ⟨cy,hcy⟩:∃ cy:Int,cy=((lo:Int)+u+0) / 18446744073709551616:=⟨_,rfl⟩
   rw [<- hlo',<- hcy] at ha
   have hcb:0<=cy/\cy<=1:=by
    rw [hcy,hu]
    split <;> omega
   have Ha:=lh ha
   obtain ⟨s,hs⟩:∃ s:Int,s=if x < 0 then 18446744073709551615 else 0:=⟨_,rfl⟩
   have hws:IntKind.u64.wrap (x / 9223372036854775808)=s:=by
    have h:IntKind.u64.wrap (x / 9223372036854775808)=(x / 9223372036854775808) % 18446744073709551616:=by simp [IntKind.wrap,IntKind.bits,IntKind.signed]
    rw [h,hs]
    split <;> omega
   have hs0:0<=s:=by rw [hs];split <;> omega
   have hb:=fun w'=>add64_run hi s cy (by omega) hs0 hcb.1 hcb.2 w'
   obtain ⟨hi',hhi'⟩:∃ hi':Nat,(hi':Int)=((hi:Int)+s+cy) % 18446744073709551616:=⟨(((hi:Int)+s+cy) % 18446744073709551616).toNat,by omega⟩
   obtain ⟨cz,hcz⟩:∃ cz:Int,cz=((hi:Int)+s+cy) / 18446744073709551616:=⟨_,rfl⟩
   rw [<- hhi',<- hcz] at hb
   have Hb:=lh hb
   have HU:=lh (And.intro hu (And.intro hlo' (And.intro hcy (And.intro hs (And.intro hhi' (And.intro hcz hnb))))))
   clear ha hb htk hv hsn hu hlo' hcy hcb hu0 hh hl' hs hs0 hhi' hcz
   go_wp2_with (first | simp only [Ha.out] | simp only [Hb.out])
   go_roundw
   case rel =>
    refine ⟨k+1,hi',lo',by omega,rfl,rfl,by go_num,lh ?_,lh (HT.out.alloc _)⟩
    obtain ⟨q,h1,h2,h3⟩:=HQ.out
    obtain ⟨hu,hlo',hcy,hs,hhi',hcz,hnb⟩:=HU.out
    rw [Hsn.out]
    by_cases hx:x < 0
    ·rw [if_pos hx] at hu hs
     subst hu hs
     refine ⟨q+1-cz,by omega,by omega, ?_⟩
     omega
    ·rw [if_neg hx] at hu hs
     subst hu hs
     refine ⟨q-cz,by omega,by omega, ?_⟩
     omega
   case measure=>simp [intOf];omega
  ·obtain rfl:k=l.length:=by omega
   obtain ⟨q,h1,h2,h3⟩:=HQ.out
   rw [List.take_length] at h3
   have hSb:=sumI_b l HN.out
   obtain ⟨a,ha⟩:∃ a:Int,a=if hi < 9223372036854775808 then (hi:Int) else (hi:Int)-18446744073709551616:=⟨_,rfl⟩
   obtain ⟨b,hb⟩:∃ b:Int,b=if lo < 9223372036854775808 then (lo:Int) else (lo:Int)-18446744073709551616:=⟨_,rfl⟩
   have hwa:IntKind.i64.wrap (hi:Int)=a:=by
    rw [ha]
    split <;> simp [IntKind.wrap,IntKind.bits,IntKind.signed] <;> omega
   have hwb:IntKind.i64.wrap (lo:Int)=b:=by
    rw [hb]
    split <;> simp [IntKind.wrap,IntKind.bits,IntKind.signed] <;> omega
   have hbr:=HT.out.blk HT0.out.2 (by simp)
   have HBR:=lh hbr
   obtain ⟨p0,p1,p2,y0,y1,y2⟩:=blk3 hbr
   have HTW:=lh (HT0.out.1.trans0 HT.out)
   by_cases hin : -9223372036854775808<=sumI l/\sumI l<=9223372036854775807
   ·have hab:a=b / 9223372036854775808/\b=sumI l:=by
     rw [ha,hb]
     split <;> split <;> constructor <;> omega
    have Hv:=lh (show sumV l=(0,⟨1,b,⟨#[]⟩⟩) by unfold sumV;rw [if_pos hin,hab.2])
    have hq1:(a==b / 9223372036854775808)=true:=by rw [beq_iff_eq];exact hab.1
    have hq2:(a != b / 9223372036854775808)=false:=by rw [bne,hq1];rfl
    clear hin hab hSb ha hb h1 h2 h3 hbr HQ
    go_wp2_with fail
    refine (Hof.out _ _).mono ?_
    rintro e w1 ⟨rfl,t1⟩
    have HT1:=lh (HTW.out.trans0 t1)
    have HB1:=lh (t1.blk HBR.out (by simp))
    obtain ⟨p0',p1',p2',y0',y1',y2'⟩:=blk3 HB1.out
    clear t1
    go_wp2_with fail
    refine bodyPost_ret (results_cell_two rfl _ _ w.heap.size _ _ _ _ rfl (set3 HB1.out rfl _ _ _) Tryz.underlying31 rfl rfl) rfl ⟨by rw [Hv.out];rfl,HT1.out.trans (touch3 _ _ _ _ _) (fun b hb=>.inr (by simp at hb;omega))⟩
   ·have hab:a≠b / 9223372036854775808:=by
     rw [ha,hb]
     split <;> split <;> omega
    have Hv:=lh (show sumV l=(10,⟨0,0,⟨#[]⟩⟩) by unfold sumV;rw [if_neg hin])
    have hq1:(a==b / 9223372036854775808)=false:=by rw [beq_eq_false_iff_ne];exact hab
    have hq2:(a != b / 9223372036854775808)=true:=by rw [bne,hq1];rfl
    clear hin hab hSb ha hb h1 h2 h3 hbr HQ
    go_wp2_with fail
    refine bodyPost_ret (results_cell_two rfl _ _ w.heap.size _ _ _ _ rfl (set3 HBR.out rfl _ _ _) Tryz.underlying31 rfl rfl) rfl ⟨by rw [Hv.out];rfl,HTW.out.trans (touch3 _ _ _ _ _) (fun b hb=>.inr (by simp at hb;omega))⟩
end
section
open Go.RowKit
def beats (up:Bool) (v m:VD):Prop:=if up=true then 0 < cmpVV v m else cmpVV v m < 0
instance (up:Bool) (v m:VD):Decidable (beats up v m):=by unfold beats;infer_instance
def bestV (up:Bool):List VD->VD
 | []=>⟨0,0,⟨#[]⟩⟩
 | a :: r=>r.foldl (fun m v=>if beats up v m then v else m) a
theorem best_snoc (up:Bool) (l:List VD) (v:VD) (h:0 < l.length):bestV up (l++[v])=if beats up v (bestV up l) then v else bestV up l:=by
 cases l with
 | nil=>simp at h
 | cons a r =>
  show (r++[v]).foldl _ a=_
  rw [List.foldl_append];rfl
theorem minFunc_any (A:Option Addr) (c n:Nat) (l:List VD) (hn:l.length=n) (h0:0 < n) (hl:n<=1000000) (w:World) (h:ValsAt w A l) :
  Calls Tryz.prog 175 #[.slice A n c,.func (.func 112) #[] #[]] w fun e w'=>e=.returned (bestV false l).val/\Touch [] w w':=by
 subst hn
 obtain ⟨ad,b0,off0,rfl,hadd0,e0,e1,e2⟩:=h.at_ 0 h0
 have hbt:bestV false (l.take 1)=l[0]:=by
  cases l with
  | nil=>simp at h0
  | cons a r=>simp [bestV]
 obtain ⟨v0,hv0⟩:∃ v,v=l[0]:=⟨_,rfl⟩
 rw [<- hv0] at e0 e1 e2 hbt
 obtain ⟨k0,n0,s0⟩:=v0
 dsimp only at e0 e1 e2
 obtain ⟨W,hW⟩:∃ W,W=(w.alloc (.cells #[.int .i64 0,.int .i64 0,.string ⟨#[]⟩] 31)).alloc (.cells #[.int .i64 k0,.int .i64 n0,.string s0] 31):=⟨_,rfl⟩
 have t0:Touch [] w W:=hW ▸ ((Touch.refl [] w).alloc _).alloc _
 have hbr:W.heap[w.heap.size]?=some (.cells #[.int .i64 0,.int .i64 0,.string ⟨#[]⟩] 31 (0,0)):=hW ▸ ((Touch.refl [] (w.alloc (.cells #[.int .i64 0,.int .i64 0,.string ⟨#[]⟩] 31))).alloc (.cells #[.int .i64 k0,.int .i64 n0,.string s0] 31)).blk (heap_alloc_new w _) (by simp)
 have hbm:W.heap[w.heap.size+1]?=some (.cells #[.int .i64 k0,.int .i64 n0,.string s0] 31 (0,0)):=by
  have:=heap_alloc_new (w.alloc (.cells #[.int .i64 0,.int .i64 0,.string ⟨#[]⟩] 31)) (.cells #[.int .i64 k0,.int .i64 n0,.string s0] 31)
  rw [World.size_alloc] at this
  exact hW ▸ this
 have hWs:W.heap.size=w.heap.size+2:=by rw [hW];simp
 have hlw:∀ b∈fpo (some ad),b < w.heap.size:=fun b hb=>Rd.lt h (by rw [flat_length vdE 3 vdE_length];omega) b hb
 have HV:=lh (And.intro h hlw)
 have HT0:=lh (And.intro t0 (And.intro hbr (And.intro hbm hWs)))
 have Hbt:=lh hbt
 have HW:=lh hW
 have hn1:((l.length:Int) < 1)=False:=eq_false (by omega)
 have ta:=(Touch.refl [] w).alloc (.cells #[.int .i64 0,.int .i64 0,.string ⟨#[]⟩] 31)
 have e0:=ta.cell e0 (by simp)
 have e1:=ta.cell e1 (by simp)
 have e2:=ta.cell e2 (by simp)
 have h00:(0:Int) < (l.length:Int):=by omega
 clear hbt hv0 h t0 hbr hbm hWs hlw hW ta
 go_enter Tryz.func175,Tryz.ntmps175
 go_wp2_with fail
 rw [<- HW.out]
 clear e0 e1 e2
 go_loopw [6] (fun i wr=>∃ (k:Nat) (m:VD),1<=k/\k<=l.length/\i=.int .i64 k/\Hid (m=bestV false (l.take k))/\Hid (wr.heap[w.heap.size+1]?=some (.cells #[.int .i64 m.kind,.int .i64 m.num,.string m.text] 31 (0,0)))/\Hid (Touch [w.heap.size+1] W wr)) (fun i _=>l.length-(intOf i).toNat)
 case atStart=>exact ⟨1,⟨k0,n0,s0⟩,by omega,by omega,rfl,lh Hbt.out.symm,lh HT0.out.2.2.1,lh (Touch.refl _ _)⟩
 case round =>
  obtain ⟨k,m,hk1,hk,rfl,HM,HB,HT⟩:=hrel
  have TW0:=HT0.out.1.trans HT.out (fun b hb=>.inr (by simp at hb;omega))
  by_cases hlt:k < l.length
  ·have hval:ValsAt wr (some ad) l:=RdK.touch0 HV.out.1 TW0
   obtain ⟨ad',b1,off1,had',hadd1,d0,d1,d2⟩:=hval.at_ k hlt
   obtain rfl:=Option.some.inj had'
   have htk:=List.take_succ_eq_append_getElem hlt
   have hbs:=best_snoc false (l.take k) l[k] (by rw [List.length_take];omega)
   rw [<- htk,<- HM.out] at hbs
   obtain ⟨v,hv⟩:∃ v,v=l[k]:=⟨_,rfl⟩
   rw [<- hv] at d0 d1 d2 hbs
   have hcv:=fun w'=>cmpVal_any v m w'
   obtain ⟨q,hq⟩:∃ q,q=cmpVV v m:=⟨_,rfl⟩
   have hbe:beats false v m ↔ q < 0:=by unfold beats;rw [hq];simp
   rw [<- hq] at hcv
   have Hbs:=lh hbs
   have Hbe:=lh hbe
   obtain ⟨vk,vn,vt⟩:=v
   obtain ⟨mk,mn,mt⟩:=m
   simp only [VD.val] at hcv
   dsimp only at d0 d1 d2 HB
   have Hcv:=lh hcv
   obtain ⟨q0,q1,q2,_,_,_⟩:=blk3 HB.out
   have g0:=TW.cell d0
   have g1:=TW.cell d1
   have g2:=TW.cell d2
   have g3:=TW.cell q0
   have g4:=TW.cell q1
   have g5:=TW.cell q2
   have HD:=lh (And.intro d0 (And.intro d1 d2))
   have hki:(k:Int) < (l.length:Int):=by omega
   have hk0':(0:Int)<=(k:Int):=by omega
   have HTW:=lh TW0
   clear hcv hbs hbe hv htk hq hval d0 d1 d2 q0 q1 q2 TW0
   by_cases hc:q < 0
   ·have hct:=eq_true hc
    have Hv:=lh (Hbs.out.trans (if_pos (Hbe.out.2 hc)))
    clear hc
    go_wp2_with fail
    refine wp_region_tw wr (Touch.refl _ _) (by kernel_rfl) (by kernel_rfl) ?_
    repeat (go_big_quiet_step (((go_at_call 112;exact Calls.tw _ (Hcv.out _)))))
    refine wpQuiet_nil ?_
    rintro _ ⟨x9,rfl⟩
    have HX:=lh x9.t
    have HBx:=lh (x9.t.blk HB.out (by simp))
    obtain ⟨d0,d1,d2⟩:=HD.out
    have d0:=HX.out.cell d0 (by simp)
    have d1:=HX.out.cell d1 (by simp)
    have d2:=HX.out.cell d2 (by simp)
    clear g0 g1 g2 g3 g4 g5
    obtain ⟨q0,q1,q2,z0,z1,z2⟩:=blk3 HBx.out
    go_wp2_with fail
    go_roundw
    case rel =>
     refine ⟨k+1,⟨vk,vn,vt⟩,by omega,by omega,by go_num,lh Hv.out.symm,lh (set3 HBx.out rfl _ _ _),lh ?_⟩
     exact (HT.out.trans0 HX.out).trans (touch3 _ _ _ _ _) (fun b hb=>.inl hb)
    case measure=>simp [intOf];omega
   ·have hct:=eq_false hc
    have Hv:=lh (Hbs.out.trans (if_neg (fun h=>hc (Hbe.out.1 h))))
    clear hc
    go_wp2_with fail
    refine wp_region_tw wr (Touch.refl _ _) (by kernel_rfl) (by kernel_rfl) ?_
    repeat (go_big_quiet_step (((go_at_call 112;exact Calls.tw _ (Hcv.out _)))))
    refine wpQuiet_nil ?_
    rintro _ ⟨x9,rfl⟩
    have HX:=lh x9.t
    have HBx:=lh (x9.t.blk HB.out (by simp))
    clear g0 g1 g2 g3 g4 g5
    go_wp2_with fail
    go_roundw
    case rel=>exact ⟨k+1,⟨mk,mn,mt⟩,by omega,by omega,by go_num,lh Hv.out.symm,HBx,lh (HT.out.trans0 HX.out)⟩
    case measure=>simp [intOf];omega
  ·obtain rfl:k=l.length:=by omega
   have hM:=HM.out
   rw [List.take_length] at hM
   have HM2:=lh hM
   have HTW:=lh TW0
   have hbr:=HT.out.blk HT0.out.2.1 (by simp)
   obtain ⟨q0,q1,q2,z0,z1,z2⟩:=blk3 HB.out
   obtain ⟨p0,p1,p2,y0,y1,y2⟩:=blk3 hbr
   have HBR:=lh hbr
   clear hM HM TW0 hbr
   go_wp2_with fail
   refine bodyPost_ret (results_cell_row rfl _ _ w.heap.size _ _ _ _ rfl (set3 HBR.out rfl _ _ _) Tryz.underlying31 rfl rfl) rfl ⟨by rw [<- HM2.out];rfl,HTW.out.trans (touch3 _ _ _ _ _) (fun b hb=>.inr (by simp at hb;omega))⟩
theorem maxFunc_any (A:Option Addr) (c n:Nat) (l:List VD) (hn:l.length=n) (h0:0 < n) (hl:n<=1000000) (w:World) (h:ValsAt w A l) :
  Calls Tryz.prog 176 #[.slice A n c,.func (.func 112) #[] #[]] w fun e w'=>e=.returned (bestV true l).val/\Touch [] w w':=by
 subst hn
 obtain ⟨ad,b0,off0,rfl,hadd0,e0,e1,e2⟩:=h.at_ 0 h0
 have hbt:bestV true (l.take 1)=l[0]:=by
  cases l with
  | nil=>simp at h0
  | cons a r=>simp [bestV]
 obtain ⟨v0,hv0⟩:∃ v,v=l[0]:=⟨_,rfl⟩
 rw [<- hv0] at e0 e1 e2 hbt
 obtain ⟨k0,n0,s0⟩:=v0
 dsimp only at e0 e1 e2
 obtain ⟨W,hW⟩:∃ W,W=(w.alloc (.cells #[.int .i64 0,.int .i64 0,.string ⟨#[]⟩] 31)).alloc (.cells #[.int .i64 k0,.int .i64 n0,.string s0] 31):=⟨_,rfl⟩
 have t0:Touch [] w W:=hW ▸ ((Touch.refl [] w).alloc _).alloc _
 have hbr:W.heap[w.heap.size]?=some (.cells #[.int .i64 0,.int .i64 0,.string ⟨#[]⟩] 31 (0,0)):=hW ▸ ((Touch.refl [] (w.alloc (.cells #[.int .i64 0,.int .i64 0,.string ⟨#[]⟩] 31))).alloc (.cells #[.int .i64 k0,.int .i64 n0,.string s0] 31)).blk (heap_alloc_new w _) (by simp)
 have hbm:W.heap[w.heap.size+1]?=some (.cells #[.int .i64 k0,.int .i64 n0,.string s0] 31 (0,0)):=by
  have:=heap_alloc_new (w.alloc (.cells #[.int .i64 0,.int .i64 0,.string ⟨#[]⟩] 31)) (.cells #[.int .i64 k0,.int .i64 n0,.string s0] 31)
  rw [World.size_alloc] at this
  exact hW ▸ this
 have hWs:W.heap.size=w.heap.size+2:=by rw [hW];simp
 have hlw:∀ b∈fpo (some ad),b < w.heap.size:=fun b hb=>Rd.lt h (by rw [flat_length vdE 3 vdE_length];omega) b hb
 have HV:=lh (And.intro h hlw)
 have HT0:=lh (And.intro t0 (And.intro hbr (And.intro hbm hWs)))
 have Hbt:=lh hbt
 have HW:=lh hW
 have hn1:((l.length:Int) < 1)=False:=eq_false (by omega)
 have ta:=(Touch.refl [] w).alloc (.cells #[.int .i64 0,.int .i64 0,.string ⟨#[]⟩] 31)
 have e0:=ta.cell e0 (by simp)
 have e1:=ta.cell e1 (by simp)
 have e2:=ta.cell e2 (by simp)
 have h00:(0:Int) < (l.length:Int):=by omega
 clear hbt hv0 h t0 hbr hbm hWs hlw hW ta
 go_enter Tryz.func176,Tryz.ntmps176
 go_wp2_with fail
 rw [<- HW.out]
 clear e0 e1 e2
 go_loopw [6] (fun i wr=>∃ (k:Nat) (m:VD),1<=k/\k<=l.length/\i=.int .i64 k/\Hid (m=bestV true (l.take k))/\Hid (wr.heap[w.heap.size+1]?=some (.cells #[.int .i64 m.kind,.int .i64 m.num,.string m.text] 31 (0,0)))/\Hid (Touch [w.heap.size+1] W wr)) (fun i _=>l.length-(intOf i).toNat)
 case atStart=>exact ⟨1,⟨k0,n0,s0⟩,by omega,by omega,rfl,lh Hbt.out.symm,lh HT0.out.2.2.1,lh (Touch.refl _ _)⟩
 case round =>
  obtain ⟨k,m,hk1,hk,rfl,HM,HB,HT⟩:=hrel
  have TW0:=HT0.out.1.trans HT.out (fun b hb=>.inr (by simp at hb;omega))
  by_cases hlt:k < l.length
  ·have hval:ValsAt wr (some ad) l:=RdK.touch0 HV.out.1 TW0
   obtain ⟨ad',b1,off1,had',hadd1,d0,d1,d2⟩:=hval.at_ k hlt
   obtain rfl:=Option.some.inj had'
   have htk:=List.take_succ_eq_append_getElem hlt
   have hbs:=best_snoc true (l.take k) l[k] (by rw [List.length_take];omega)
   rw [<- htk,<- HM.out] at hbs
   obtain ⟨v,hv⟩:∃ v,v=l[k]:=⟨_,rfl⟩
   rw [<- hv] at d0 d1 d2 hbs
   have hcv:=fun w'=>cmpVal_any v m w'
   obtain ⟨q,hq⟩:∃ q,q=cmpVV v m:=⟨_,rfl⟩
   have hbe:beats true v m ↔ 0 < q:=by unfold beats;rw [hq];simp
   rw [<- hq] at hcv
   have Hbs:=lh hbs
   have Hbe:=lh hbe
   obtain ⟨vk,vn,vt⟩:=v
   obtain ⟨mk,mn,mt⟩:=m
   simp only [VD.val] at hcv
   dsimp only at d0 d1 d2 HB
   have Hcv:=lh hcv
   obtain ⟨q0,q1,q2,_,_,_⟩:=blk3 HB.out
   have g0:=TW.cell d0
   have g1:=TW.cell d1
   have g2:=TW.cell d2
   have g3:=TW.cell q0
   have g4:=TW.cell q1
   have g5:=TW.cell q2
   have HD:=lh (And.intro d0 (And.intro d1 d2))
   have hki:(k:Int) < (l.length:Int):=by omega
   have hk0':(0:Int)<=(k:Int):=by omega
   have HTW:=lh TW0
   clear hcv hbs hbe hv htk hq hval d0 d1 d2 q0 q1 q2 TW0
   by_cases hc:0 < q
   ·have hct:=eq_true hc
    have Hv:=lh (Hbs.out.trans (if_pos (Hbe.out.2 hc)))
    clear hc
    go_wp2_with fail
    refine wp_region_tw wr (Touch.refl _ _) (by kernel_rfl) (by kernel_rfl) ?_
    repeat (go_big_quiet_step (((go_at_call 112;exact Calls.tw _ (Hcv.out _)))))
    refine wpQuiet_nil ?_
    rintro _ ⟨x9,rfl⟩
    have HX:=lh x9.t
    have HBx:=lh (x9.t.blk HB.out (by simp))
    obtain ⟨d0,d1,d2⟩:=HD.out
    have d0:=HX.out.cell d0 (by simp)
    have d1:=HX.out.cell d1 (by simp)
    have d2:=HX.out.cell d2 (by simp)
    clear g0 g1 g2 g3 g4 g5
    obtain ⟨q0,q1,q2,z0,z1,z2⟩:=blk3 HBx.out
    go_wp2_with fail
    go_roundw
    case rel =>
     refine ⟨k+1,⟨vk,vn,vt⟩,by omega,by omega,by go_num,lh Hv.out.symm,lh (set3 HBx.out rfl _ _ _),lh ?_⟩
     exact (HT.out.trans0 HX.out).trans (touch3 _ _ _ _ _) (fun b hb=>.inl hb)
    case measure=>simp [intOf];omega
   ·have hct:=eq_false hc
    have Hv:=lh (Hbs.out.trans (if_neg (fun h=>hc (Hbe.out.1 h))))
    clear hc
    go_wp2_with fail
    refine wp_region_tw wr (Touch.refl _ _) (by kernel_rfl) (by kernel_rfl) ?_
    repeat (go_big_quiet_step (((go_at_call 112;exact Calls.tw _ (Hcv.out _)))))
    refine wpQuiet_nil ?_
    rintro _ ⟨x9,rfl⟩
    have HX:=lh x9.t
    have HBx:=lh (x9.t.blk HB.out (by simp))
    clear g0 g1 g2 g3 g4 g5
    go_wp2_with fail
    go_roundw
    case rel=>exact ⟨k+1,⟨mk,mn,mt⟩,by omega,by omega,by go_num,lh Hv.out.symm,HBx,lh (HT.out.trans0 HX.out)⟩
    case measure=>simp [intOf];omega
  ·obtain rfl:k=l.length:=by omega
   have hM:=HM.out
   rw [List.take_length] at hM
   have HM2:=lh hM
   have HTW:=lh TW0
   have hbr:=HT.out.blk HT0.out.2.1 (by simp)
   obtain ⟨q0,q1,q2,z0,z1,z2⟩:=blk3 HB.out
   obtain ⟨p0,p1,p2,y0,y1,y2⟩:=blk3 hbr
   have HBR:=lh hbr
   clear hM HM TW0 hbr
   go_wp2_with fail
   refine bodyPost_ret (results_cell_row rfl _ _ w.heap.size _ _ _ _ rfl (set3 HBR.out rfl _ _ _) Tryz.underlying31 rfl rfl) rfl ⟨by rw [<- HM2.out];rfl,HTW.out.trans (touch3 _ _ _ _ _) (fun b hb=>.inr (by simp at hb;omega))⟩
end
section
open Go.RowKit
theorem nullV_any (w:World):Calls Tryz.prog 173 #[] w fun e w'=>e=.returned (.agg #[.int .i64 0,.int .i64 0,.string ⟨#[]⟩])/\Touch [] w w':=by
 go_enter Tryz.func173,Tryz.ntmps173
 go_wp2_with fail
 refine bodyPost_ret (results_cell_row rfl _ _ w.heap.size _ _ _ _ rfl (heap_alloc_new w _) Tryz.underlying31 rfl rfl) rfl ⟨rfl,(Touch.refl [] w).alloc _⟩
def nonN (i:Nat) (rows:List (List VD)):List VD:=(rows.map fun r=>r.getD i ⟨0,0,⟨#[]⟩⟩).filter fun v=>decide (v.kind≠0)
theorem nonN_snoc (i:Nat) (rows:List (List VD)) (r:List VD):nonN i (rows++[r])=nonN i rows++if (r.getD i ⟨0,0,⟨#[]⟩⟩).kind≠0 then [r.getD i ⟨0,0,⟨#[]⟩⟩] else []:=by
 unfold nonN
 rw [List.map_append,List.filter_append]
 congr 1
 rw [List.map_singleton,List.filter_cons,List.filter_nil]
 by_cases h:(r.getD i ⟨0,0,⟨#[]⟩⟩).kind≠0
 ·rw [if_pos h,decide_eq_true h];rfl
 ·rw [if_neg h,decide_eq_false h];rfl
theorem nonN_mem {i:Nat} {rows:List (List VD)} {v:VD} (h:v∈nonN i rows):∃ r∈rows,v=r.getD i ⟨0,0,⟨#[]⟩⟩:=by
 obtain ⟨r,hr,e⟩:=List.mem_map.1 (List.mem_filter.1 h).1
 exact ⟨r,hr,e.symm⟩
def aggL (op:ByteArray) (l:List VD):Int × VD:=if op=opC then (0,⟨1,l.length,⟨#[]⟩⟩) else if l.length=0 then (0,⟨0,0,⟨#[]⟩⟩) else if op=opS then sumV l else (0,bestV (!decide (op=opMi)) l)
def aggOf (cs:List CD) (a:AG) (rows:List (List VD)):Int × VD:=if a.col.toList.isEmpty=true then (0,⟨1,rows.length,⟨#[]⟩⟩) else aggL a.op (nonN ((placeV cs a.col).getD 0) rows)
theorem aggOf_col (op col nm:ByteArray) (h5:col.toList.isEmpty=false) (SA:Option Addr) (n c:Nat) (cs:List CD) (hn:cs.length=n) (hl:n<=1000000) (RA:Option Addr) (m rc:Nat) (rows:List (List VD)) (hm:rows.length=m) (hl2:m<=1000000) (hrl:∀ r∈rows,(placeV cs col).getD 0 < r.length/\r.length<=1000000/\∀ v∈r,v.Ok 140737000000000) (w:World) (hcs:ColsAt w SA cs) (hrows:RowsAt w RA rows)  :
  Calls Tryz.prog 139 #[.agg #[.string op,.string col,.string nm],.slice SA n c,.slice RA m rc] w fun e w'=>e=.returned (.tuple #[(aggL op (nonN ((placeV cs col).getD 0) rows)).2.val,.int .i64 (aggL op (nonN ((placeV cs col).getD 0) rows)).1])/\Touch [] w w':=by
 subst hn hm
 obtain ⟨i,hi⟩:∃ i,i=(placeV cs col).getD 0:=⟨_,rfl⟩
 obtain ⟨W,hW⟩:∃ W,W=(w.alloc (.cells #[.string op,.string col,.string nm] 79)).alloc (.cells #[.int .i64 0,.int .i64 0,.string ⟨#[]⟩] 31):=⟨_,rfl⟩
 have t0:Touch [] w W:=hW ▸ ((Touch.refl [] w).alloc _).alloc _
 have hba:W.heap[w.heap.size]?=some (.cells #[.string op,.string col,.string nm] 79 (0,0)):=hW ▸ ((Touch.refl [] (w.alloc (.cells #[.string op,.string col,.string nm] 79))).alloc (.cells #[.int .i64 0,.int .i64 0,.string ⟨#[]⟩] 31)).blk (heap_alloc_new w _) (by simp)
 have hbr:W.heap[w.heap.size+1]?=some (.cells #[.int .i64 0,.int .i64 0,.string ⟨#[]⟩] 31 (0,0)):=by
  have h1:=heap_alloc_new (w.alloc (.cells #[.string op,.string col,.string nm] 79)) (.cells #[.int .i64 0,.int .i64 0,.string ⟨#[]⟩] 31)
  rw [World.size_alloc] at h1
  exact hW ▸ h1
 have hWs:W.heap.size=w.heap.size+2:=by rw [hW];simp
 have hfa:=findC_any SA c cs.length cs rfl col W (hcs.touch0 t0) (by omega)
 rw [<- hi] at hfa hrl ⊢
 obtain ⟨ans,hans⟩:∃ ans,ans=aggL op (nonN i rows):=⟨_,rfl⟩
 rw [<- hans]
 have HA:=lh hans
 clear hans
 obtain ⟨bb,hbb⟩:∃ b,b=(placeV cs col).isSome:=⟨_,rfl⟩
 rw [<- hbb] at hfa
 have Hfa:=lh hfa
 have HR:=lh (And.intro (hrows.touch0 t0) hrl)
 have HT0:=lh (And.intro t0 (And.intro hba (And.intro hbr hWs)))
 have HW:=lh hW
 clear hi hW t0 hba hbr hWs hfa hcs hrows hrl hbb
 go_enter Tryz.func139,Tryz.ntmps139
 go_wp2_with fail
 rw [<- HW.out]
 refine Hfa.out.mono ?_
 rintro e w1 ⟨rfl,t1⟩
 have HT1:=lh t1
 clear t1
 go_wp2_with fail
 go_loopw [10,28] (fun o j wr=>∃ (k q:Nat) (B:Option Addr) (bc:Nat),k<=rows.length/\j=.int .i64 k/\o=.slice B q bc/\Hid ((nonN i (rows.take k)).length=q)/\Hid (q<=k)/\Hid (Made 31 3 vdE (nonN i (rows.take k)) B bc w1 wr)) (fun _ j _=>rows.length-(intOf j).toNat)
 case atStart=>exact ⟨0,0,none,0,by omega,rfl,rfl,lh rfl,lh (Nat.le_refl _),lh (Made.nil _ _ _ _)⟩
 case round =>
  obtain ⟨k,q,B,bc,hk,rfl,rfl,HQ,Hqk,HM⟩:=hrel
  by_cases hlt:k < rows.length
  ·obtain ⟨ad,A1,d1,rfl,e0,hv⟩:=(HR.out.1.touch0 (HT1.out.trans0 HM.out.t)).at_ k hlt
   have htk:=List.take_succ_eq_append_getElem hlt
   have hrk:=HR.out.2 _ (List.getElem_mem hlt)
   obtain ⟨r,hr⟩:∃ r,r=rows[k]:=⟨_,rfl⟩
   rw [<- hr] at e0 hv htk hrk
   obtain ⟨ad1,b1,o1,rfl,hadd1,c0,c1,c2⟩:=hv.at_ i hrk.1
   have hsn:=nonN_snoc i (rows.take k) r
   rw [<- htk] at hsn
   have hgd:r.getD i ⟨0,0,⟨#[]⟩⟩=r[i]'hrk.1:=by simp [List.getD,hrk.1]
   rw [hgd] at hsn
   obtain ⟨v,hve⟩:∃ v,v=r[i]'hrk.1:=⟨_,rfl⟩
   rw [<- hve] at c0 c1 c2 hsn
   obtain ⟨vk,vn,vt⟩:=v
   dsimp only at c0 c1 c2 hsn
   have hil:=hrk.1
   have hkI:(k:Int) < (rows.length:Int):=by omega
   have hiI:(i:Int) < (r.length:Int):=by omega
   have hi0:(0:Int)<=(i:Int):=by omega
   clear htk hr hv hve hgd hrk
   by_cases hz:vk=0
   ·subst hz
    have Hsn:=lh (hsn.trans (by rw [if_neg (by simp),List.append_nil]))
    clear hsn
    go_wp2_with fail
    go_roundw
    case rel=>exact ⟨k+1,q,B,bc,by omega,by go_num,rfl,lh (by rw [Hsn.out];exact HQ.out),lh (by have:=Hqk.out;omega),lh (by rw [Hsn.out];exact HM.out)⟩
    case measure=>simp [intOf];omega
   ·have Hsn:=lh (hsn.trans (by rw [if_pos hz]))
    have hq1:(vk==0)=false:=by rw [beq_eq_false_iff_ne];exact hz
    have hq2:(vk != 0)=true:=by rw [bne,hq1];rfl
    clear hsn hz
    go_wp2_with (at_builtin;refine stop ?_)
    refine go ?_
    have ta:=(Touch.refl [] wr).alloc (.cells #[.int .i64 vk,.int .i64 vn,.string vt] 31)
    refine wpList_appK (enc:=vdE) rfl (.tmp 38) (.tmp 43) 33 rfl 31 _ 3 32 info_v5 Tryz.underlying33 rfl (by omega) vdE_length vdE_one B q bc _ HQ.out rfl (HM.out.touch0 ta).own
     (some ⟨wr.heap.size,0,none⟩) 1 1 [⟨vk,vn,vt⟩] rfl rfl (RdK.one (enc:=vdE) wr 31 ⟨vk,vn,vt⟩ _ rfl) (by have:=Hqk.out;omega) (by have:=Hqk.out;omega) ?_
    intro A' c' w' hown ht hf
    have HX:=lh ((HM.out.touch0 ta).step hown ht hf)
    clear hown ht hf ta
    go_wp2_with fail
    go_roundw
    case rel=>exact ⟨k+1,q+1,A',c',by omega,by go_num,rfl,lh (by rw [Hsn.out,List.length_append,HQ.out];rfl),lh (by have:=Hqk.out;omega),lh (by rw [Hsn.out];exact HX.out)⟩
    case measure=>simp [intOf];omega
  ·obtain rfl:k=rows.length:=by omega
   have hq:=HQ.out
   have hm:=HM.out
   rw [List.take_length] at hq hm
   have HM2:=lh hm
   have HQ2:=lh hq
   have HOK:=lh (show ∀ v∈nonN i rows,v.Ok 140737000000000 from fun v hv=>by
    obtain ⟨r,hr,rfl⟩:=nonN_mem hv
    have h1:=HR.out.2 r hr
    have:r.getD i ⟨0,0,⟨#[]⟩⟩=r[i]'h1.1:=by simp [List.getD,h1.1]
    rw [this]
    exact h1.2.2 _ (List.getElem_mem _))
   obtain ⟨L,hL⟩:∃ L,L=nonN i rows:=⟨_,rfl⟩
   have ha:=HA.out
   rw [<- hL] at HM2 HQ2 HOK ha
   have HA2:=lh ha
   clear ha HA
   have HTW:=lh (HT0.out.1.trans0 (HT1.out.trans0 HM2.out.t))
   have HTV:=lh (HT1.out.trans0 HM2.out.t)
   have HAB:=lh (HTV.out.blk HT0.out.2.1 (by simp))
   have HRB:=lh (HTV.out.blk HT0.out.2.2.1 (by simp))
   have hqb:=Hqk.out
   obtain ⟨a0,a1,a2,_,_,_⟩:=blk3 HAB.out
   clear hq hm hL HM HQ
   by_cases hC:op=opC
   ·have zC:(op.toList==[99,111,117,110,116])=true:=by rw [lit_beq op [99,111,117,110,116] opC rfl];exact decide_eq_true hC
    have HC:=lh hC
    clear hC
    have Hv:=lh (show aggL op L=(0,⟨1,q,⟨#[]⟩⟩) by unfold aggL;rw [if_pos HC.out,HQ2.out])
    go_wp2_with fail
    refine (of_num q _).mono ?_
    rintro e w2 ⟨rfl,t2⟩
    have HB1:=lh (t2.blk HRB.out (by simp))
    have HT9:=lh (HTW.out.trans0 t2)
    obtain ⟨p0,p1,p2,y0,y1,y2⟩:=blk3 HB1.out
    clear t2
    go_wp2_with fail
    refine bodyPost_ret (results_cell_two rfl _ _ (w.heap.size+1) _ _ _ _ rfl (set3 HB1.out rfl _ _ _) Tryz.underlying31 rfl rfl) rfl ⟨by rw [HA2.out,Hv.out];rfl,HT9.out.trans (touch3 _ _ _ _ _) (fun b hb=>.inr (by simp at hb;omega))⟩
   ·have zC:(op.toList==[99,111,117,110,116])=false:=by rw [lit_beq op [99,111,117,110,116] opC rfl];exact decide_eq_false hC
    have HC:=lh hC
    clear hC
    by_cases hq0:q=0
    ·subst hq0
     have Hv:=lh (show aggL op L=(0,⟨0,0,⟨#[]⟩⟩) by unfold aggL;rw [if_neg HC.out,if_pos HQ2.out])
     go_wp2_with fail
     refine (nullV_any _).mono ?_
     rintro e w2 ⟨rfl,t2⟩
     have HB1:=lh (t2.blk HRB.out (by simp))
     have HT9:=lh (HTW.out.trans0 t2)
     obtain ⟨p0,p1,p2,y0,y1,y2⟩:=blk3 HB1.out
     clear t2
     go_wp2_with fail
     refine bodyPost_ret (results_cell_two rfl _ _ (w.heap.size+1) _ _ _ _ rfl (set3 HB1.out rfl _ _ _) Tryz.underlying31 rfl rfl) rfl ⟨by rw [HA2.out,Hv.out];rfl,HT9.out.trans (touch3 _ _ _ _ _) (fun b hb=>.inr (by simp at hb;omega))⟩
    ·have hqz:((q:Int)==0)=false:=by rw [beq_eq_false_iff_ne];omega
     by_cases hS:op=opS
     ·have zS:(op.toList==[115,117,109])=true:=by rw [lit_beq op [115,117,109] opS rfl];exact decide_eq_true hS
      have HS:=lh hS
      clear hS
      have hsum:=sum_any B bc q L HQ2.out (by omega) HOK.out wr HM2.out.own.rd
      have hv0:aggL op L=sumV L:=by unfold aggL;rw [if_neg HC.out,if_neg (by rw [HQ2.out];exact hq0),if_pos HS.out]
      obtain ⟨sv,hsv⟩:∃ sv,sv=sumV L:=⟨_,rfl⟩
      rw [<- hsv] at hsum hv0
      obtain ⟨er,v⟩:=sv
      obtain ⟨vk,vn,vt⟩:=v
      simp only [VD.val] at hsum
      have Hsum:=lh hsum
      clear hsv hsum
      have Hv:=lh (show aggL op L=(er,⟨vk,vn,vt⟩) from hv0)
      go_wp2_with fail
      refine Hsum.out.mono ?_
      rintro e w2 ⟨rfl,t2⟩
      have HB1:=lh (t2.blk HRB.out (by simp))
      have HT9:=lh (HTW.out.trans0 t2)
      obtain ⟨p0,p1,p2,y0,y1,y2⟩:=blk3 HB1.out
      clear t2
      go_wp2_with fail
      refine bodyPost_ret (results_cell_two rfl _ _ (w.heap.size+1) _ _ _ _ rfl (set3 HB1.out rfl _ _ _) Tryz.underlying31 rfl rfl) rfl ⟨by rw [HA2.out,Hv.out];rfl,HT9.out.trans (touch3 _ _ _ _ _) (fun b hb=>.inr (by simp at hb;omega))⟩
     ·have zS:(op.toList==[115,117,109])=false:=by rw [lit_beq op [115,117,109] opS rfl];exact decide_eq_false hS
      have HS:=lh hS
      clear hS
      by_cases hM:op=opMi
      ·have zM:(op.toList==[109,105,110])=true:=by rw [lit_beq op [109,105,110] opMi rfl];exact decide_eq_true hM
       have HM:=lh hM
       clear hM
       have hmin:=minFunc_any B bc q L HQ2.out (by omega) (by omega) wr HM2.out.own.rd
       obtain ⟨v,hv⟩:∃ v,v=bestV false L:=⟨_,rfl⟩
       rw [<- hv] at hmin
       obtain ⟨vk,vn,vt⟩:=v
       simp only [VD.val] at hmin
       have Hmin:=lh hmin
       clear hmin
       have Hv:=lh (show aggL op L=(0,⟨vk,vn,vt⟩) by unfold aggL;rw [if_neg HC.out,if_neg (by rw [HQ2.out];exact hq0),if_neg HS.out,decide_eq_true HM.out,Bool.not_true,<- hv])
       go_wp2_with fail
       refine Hmin.out.mono ?_
       rintro e w2 ⟨rfl,t2⟩
       have HB1:=lh (t2.blk HRB.out (by simp))
       have HT9:=lh (HTW.out.trans0 t2)
       obtain ⟨p0,p1,p2,y0,y1,y2⟩:=blk3 HB1.out
       clear t2
       go_wp2_with fail
       refine bodyPost_ret (results_cell_two rfl _ _ (w.heap.size+1) _ _ _ _ rfl (set3 HB1.out rfl _ _ _) Tryz.underlying31 rfl rfl) rfl ⟨by rw [HA2.out,Hv.out];rfl,HT9.out.trans (touch3 _ _ _ _ _) (fun b hb=>.inr (by simp at hb;omega))⟩
      ·have zM:(op.toList==[109,105,110])=false:=by rw [lit_beq op [109,105,110] opMi rfl];exact decide_eq_false hM
       have HM:=lh hM
       clear hM
       have hmin:=maxFunc_any B bc q L HQ2.out (by omega) (by omega) wr HM2.out.own.rd
       obtain ⟨v,hv⟩:∃ v,v=bestV true L:=⟨_,rfl⟩
       rw [<- hv] at hmin
       obtain ⟨vk,vn,vt⟩:=v
       simp only [VD.val] at hmin
       have Hmin:=lh hmin
       clear hmin
       have Hv:=lh (show aggL op L=(0,⟨vk,vn,vt⟩) by unfold aggL;rw [if_neg HC.out,if_neg (by rw [HQ2.out];exact hq0),if_neg HS.out,decide_eq_false HM.out,Bool.not_false,<- hv])
       go_wp2_with fail
       refine Hmin.out.mono ?_
       rintro e w2 ⟨rfl,t2⟩
       have HB1:=lh (t2.blk HRB.out (by simp))
       have HT9:=lh (HTW.out.trans0 t2)
       obtain ⟨p0,p1,p2,y0,y1,y2⟩:=blk3 HB1.out
       clear t2
       go_wp2_with fail
       refine bodyPost_ret (results_cell_two rfl _ _ (w.heap.size+1) _ _ _ _ rfl (set3 HB1.out rfl _ _ _) Tryz.underlying31 rfl rfl) rfl ⟨by rw [HA2.out,Hv.out];rfl,HT9.out.trans (touch3 _ _ _ _ _) (fun b hb=>.inr (by simp at hb;omega))⟩
theorem aggOf_any (a:AG) (SA:Option Addr) (n c:Nat) (cs:List CD) (hn:cs.length=n) (hl:n<=1000000) (RA:Option Addr) (m rc:Nat) (rows:List (List VD)) (hm:rows.length=m) (hl2:m<=1000000) (hrl:a.col.toList.isEmpty=false->∀ r∈rows,(placeV cs a.col).getD 0 < r.length/\r.length<=1000000/\∀ v∈r,v.Ok 140737000000000) (w:World) (hcs:ColsAt w SA cs) (hrows:RowsAt w RA rows) :
  Calls Tryz.prog 139 #[.agg #[.string a.op,.string a.col,.string a.name],.slice SA n c,.slice RA m rc] w fun e w'=>e=.returned (.tuple #[(aggOf cs a rows).2.val,.int .i64 (aggOf cs a rows).1])/\Touch [] w w':=by
 unfold aggOf
 rcases Bool.eq_false_or_eq_true a.col.toList.isEmpty with h | h
 ·rw [if_pos h,hm]
  exact of_rows a.op a.col a.name h SA n c RA m rc hl2 w
 ·rw [if_neg (by rw [h];simp)]
  exact aggOf_col a.op a.col a.name h SA n c cs hn hl RA m rc rows hm hl2 (hrl h) w hcs hrows
end
end Go.Proofs.YtafoklilkdnepaaGreatDoor
