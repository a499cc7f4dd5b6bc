/- Part 29 of the texts of this proof, one behind the other. No condition beyond those that its theorems state. -/
import Derived.Test.YtafoklilkdnepaaGreatDoorRi28
import Derived.BigQuiet
import Derived.IntWalk
import Derived.Lib.SliceRun
set_option maxRecDepth 40000
set_option maxHeartbeats 25600000
namespace Go.Proofs.YtafoklilkdnepaaGreatDoor
section
open Go.RowKit
def newR (rows:List (List VD)) (i:Nat):Bool:=decide (i=0) || !eqVs (rows.getD i []) (rows.getD (i-1) [])
def cptI (rows:List (List VD)) (m:Nat):List Nat:=(List.range m).filter (newR rows)
theorem cptI_succ (rows:List (List VD)) (m:Nat):cptI rows (m+1)=cptI rows m++if newR rows m=true then [m] else []:=by
 unfold cptI
 rw [List.range_succ,List.filter_append]
 congr 1
 rw [List.filter_cons,List.filter_nil]
theorem cptI_le (rows:List (List VD)) (m:Nat):(cptI rows m).length<=m:=by
 unfold cptI
 exact Nat.le_trans (List.length_filter_le _ _) (by rw [List.length_range];exact Nat.le_refl _)
theorem cptI_all (rows:List (List VD)) (m:Nat) (h:∀ i,i < m->newR rows i=true):cptI rows m=List.range m:=by
 unfold cptI
 rw [List.filter_eq_self]
 intro i hi
 exact h i (List.mem_range.1 hi)
theorem cptI_lt {rows:List (List VD)} {m:Nat}:∀ i∈cptI rows m,i < m:=fun _ hi=>List.mem_range.1 (List.mem_filter.1 hi).1
theorem eqRows_any (A B:Option Addr) (c1 c2 n m:Nat) (l r:List VD) (hn:l.length=n) (hm:r.length=m) (w:World) (h:ValsAt w A l) (h2:ValsAt w B r) (hl:n<=140737000000000) (hl2:m<=140737000000000) :
  Calls Tryz.prog 100 #[.slice A n c1,.slice B m c2] w fun e w'=>e=.returned (.bool (eqVs l r))/\Touch [] w w':=by
 have H:=lh (equalV_any A B c1 c2 n m l r hn hm w h h2 hl hl2)
 clear h h2
 go_enter Tryz.func100,Tryz.ntmps100
 go_wp2_with fail
 refine H.out.mono ?_
 rintro e w1 ⟨rfl,t1⟩
 go_wp2
 go_ret
 exact ⟨rfl,t1⟩
def EqOkV (S:Nat->SL) (rows:List (List VD)) (G n:Nat) (w0:World):Prop:=∀ wr,Touch [G] w0 wr->∀ x y:Nat,x < n->y < n ->
 Calls Tryz.prog 100 #[(Value.slice (SL.A (S x)) (SL.n (S x)) (SL.c (S x))),(Value.slice (SL.A (S y)) (SL.n (S y)) (SL.c (S y)))] wr fun e w'=>e=.returned (.bool (eqVs (rows.getD x []) (rows.getD y [])))/\Touch [] wr w'
theorem touchCs (g:Nat):∀ (vs:List Value) (w:World) (o:Nat),Touch [g] w (w.setCells g o vs)
 | [],w,_=>Touch.refl _ _
 | v :: vs,w,o=>((Touch.refl [g] w).setCell (p:=⟨g,o,none⟩) (.inl (by simp)) v).trans (touchCs g vs _ _) (fun b hb=>.inl hb)
theorem zeroRow1 (w:World):(zeroValue 33).run Tryz.prog w=.ok (.slice none 0 0) w:=by kernel_rfl
theorem compact_short (A:Option Addr) (n c:Nat) (hn:n < 2) (fv:Value) (w:World):Calls Tryz.prog 99 #[.slice A n c,fv] w fun e w'=>e=.returned (.slice A n c)/\w'=w:=by
 have h:((n:Int) < 2)=True:=eq_true (by omega)
 go_enter Tryz.func99,Tryz.ntmps99
 go_wp2
 go_ret
 exact ⟨rfl,rfl⟩
theorem compact_any (G c n:Nat) (hn2:2<=n) (hn:n<=100000) (hnc:n<=c) (S:Nat->SL) (rows:List (List VD)) (w:World) (hR:RowV S w G c n (fun k=>k)) (hE:EqOkV S rows G n w) :
  Calls Tryz.prog 99 #[.slice (some ⟨G,0,none⟩) n c,.func (.func 100) #[] #[]] w fun e w' =>
   e=.returned (.slice (some ⟨G,0,none⟩) (cptI rows n).length c)/\(∀ p (h:p < (cptI rows n).length),w'.cell? ⟨G,p,none⟩=some (Value.slice (SL.A (S (cptI rows n)[p])) (SL.n (S (cptI rows n)[p])) (SL.c (S (cptI rows n)[p]))))/\Touch [G] w w':=by
 have HR:=lh hR
 have HE:=lh hE
 have h2:((n:Int) < 2)=False:=eq_false (by omega)
 clear hR hE
 go_enter Tryz.func99,Tryz.ntmps99
 go_wp2_with fail
 go_loopw [5] (fun x wr=>∃ k:Nat,1<=k/\k<=n/\x=.int .i64 k/\Hid (∀ i,i < k->newR rows i=true)/\Hid (Touch [] w wr)) (fun x _=>n-(intOf x).toNat)
 case atStart=>exact ⟨1,by omega,by omega,rfl,lh (fun i hi=>by
  have h0:i=0:=by omega
  subst h0
  simp [newR]),lh (Touch.refl _ _)⟩
 case round =>
  obtain ⟨k,hk1,hk,rfl,HN,HT⟩:=hrel
  by_cases hlt:k < n
  ·have hR1:RowV S wr G c n (fun k=>k):=HR.out.touch0 HT.out
   have ca:=TW.cell (hR1.cell k hlt)
   have cb:=TW.cell (hR1.cell (k-1) (by omega))
   obtain ⟨b,hb⟩:∃ b,b=eqVs (rows.getD k []) (rows.getD (k-1) []):=⟨_,rfl⟩
   have hc:∀ x8:TW wr,Calls Tryz.prog 100 #[(Value.slice (SL.A (S k)) (SL.n (S k)) (SL.c (S k))),(Value.slice (SL.A (S (k-1))) (SL.n (S (k-1))) (SL.c (S (k-1))))] x8.w fun e w'=>e=.returned (.bool b)/\Touch [] x8.w w':=fun x8=>by
    rw [hb]
    exact HE.out _ ((HT.out.mono (by simp)).trans x8.t (by simp)) k (k-1) hlt (by omega)
   have HCC:=lh hc
   have HB:=lh hb
   have hw1:IntKind.i64.wrap ((k:Int)-1)=((k-1:Nat):Int):=by rw [IntWalk.i64_in _ (by omega)];omega
   have hkk:(k:Int)-1=((k-1:Nat):Int):=by omega
   have hkn:(k:Int) < (n:Int):=by omega
   have hadd0:(⟨G,0,none⟩:Addr).add k=⟨G,k,none⟩:=add_blk _ _
   have hadd1:(⟨G,0,none⟩:Addr).add (k-1)=⟨G,k-1,none⟩:=add_blk _ _
   have HR1:=lh hR1
   clear hc hb hR1
   go_wp2_with fail
   refine wp_region_tw wr (Touch.refl _ _) (by kernel_rfl) (by kernel_rfl) ?_
   repeat (go_big_quiet_step (((go_at_call 100;exact Calls.tw _ (HCC.out _)))))
   refine wpQuiet_nil ?_
   rintro _ ⟨x9,rfl⟩
   cases b
   ·go_wp2_with fail
    go_roundw
    case rel=>exact ⟨k+1,by omega,by omega,by go_num,lh (fun i hi=>by
     by_cases hik:i < k
     ·exact HN.out i hik
     ·obtain rfl:i=k:=by omega
      unfold newR
      rw [<- HB.out];simp),lh (HT.out.trans0 x9.t)⟩
    case measure=>simp [intOf];omega
   ·have hck:(c=k)=False:=eq_false (by omega)
    have hkI:(0:Int)<=(k:Int):=by omega
    have hkc:(k:Int)<=(c:Int):=by omega
    have hkn2:(k:Int)<=(n:Int):=by omega
    have hnew0:newR rows k=false:=by unfold newR;rw [<- HB.out];simp;omega
    have hc1:cptI rows (k+1)=List.range k:=by rw [cptI_succ,hnew0,cptI_all rows k HN.out];simp
    have HC1:=lh hc1
    have HT9:=lh (show Touch [G] w x9.w from (HT.out.trans0 x9.t).mono (by simp))
    have HR9:=lh (HR1.out.touch0 x9.t)
    clear hc1 hnew0 ca cb hadd1 hkk hw1
    go_wp2_with fail
    go_loopw [5,7] (fun x y wx=>∃ (q k2:Nat) (f:Nat->Nat),1<=k2/\k+k2<=n/\q+1<=k+k2/\x=.int .i64 q/\y=.int .i64 k2/\Hid ((cptI rows (k+k2)).length=q)/\Hid (∀ p (h:p < (cptI rows (k+k2)).length),f p=(cptI rows (k+k2))[p])/\Hid (∀ p,k+k2-1<=p->p < n->f p=p)/\Hid (RowV S wx G c n f)/\Hid (Touch [G] w wx)) (fun _ y _=>n-k-(intOf y).toNat)
    case atStart=>exact ⟨k,1,fun p=>p,by omega,by omega,by omega,rfl,rfl,lh (by rw [HC1.out,List.length_range]),lh (fun p hp=>by simp only [HC1.out,List.getElem_range]),lh (fun p _ _=>rfl),HR9,HT9⟩
    case round =>
     obtain ⟨q,k2,f,hk2,hkm,hqm,rfl,rfl,HL,HP,HG,HRf,HTf⟩:=hrel
     clear HT9 HR9
     by_cases hlt2:k2 < n-k
     ·have ca:=HRf.out.cell (k+k2) (by omega)
      have cb:=HRf.out.cell (k+(k2-1)) (by omega)
      rw [HG.out (k+k2) (by omega) (by omega)] at ca
      rw [HG.out (k+(k2-1)) (by omega) (by omega)] at cb
      have ga:=TW.cell ca
      have gb:=TW.cell cb
      obtain ⟨b2,hb2⟩:∃ b2,b2=eqVs (rows.getD (k+k2) []) (rows.getD (k+(k2-1)) []):=⟨_,rfl⟩
      have hc:∀ x8:TW wr,Calls Tryz.prog 100 #[(Value.slice (SL.A (S (k+k2))) (SL.n (S (k+k2))) (SL.c (S (k+k2)))),(Value.slice (SL.A (S (k+(k2-1)))) (SL.n (S (k+(k2-1)))) (SL.c (S (k+(k2-1)))))] x8.w fun e w'=>e=.returned (.bool b2)/\Touch [] x8.w w':=fun x8=>by
       rw [hb2]
       exact HE.out _ (HTf.out.trans x8.t (by simp)) (k+k2) (k+(k2-1)) (by omega) (by omega)
      have hnw:newR rows (k+k2) = !b2:=by
       unfold newR
       rw [hb2,show k+k2-1=k+(k2-1) by omega,decide_eq_false (by omega),Bool.false_or]
      have hsc:=cptI_succ rows (k+k2)
      rw [hnw] at hsc
      have HCC:=lh hc
      have HSC:=lh hsc
      have hw2:IntKind.i64.wrap ((k2:Int)-1)=((k2-1:Nat):Int):=by rw [IntWalk.i64_in _ (by omega)];omega
      have hkk2:(k2:Int)-1=((k2-1:Nat):Int):=by omega
      have hlI:(k2:Int) < ((n-k:Nat):Int):=by omega
      have hlI2:((k2-1:Nat):Int) < ((n-k:Nat):Int):=by omega
      have hlI0:(0:Int)<=((k2-1:Nat):Int):=by omega
      have hadd2:(⟨G,k,none⟩:Addr).add k2=⟨G,k+k2,none⟩:=by unfold Addr.add;rw [if_neg (by omega)]
      have hadd3:(⟨G,k,none⟩:Addr).add (k2-1)=⟨G,k+(k2-1),none⟩:=by
       unfold Addr.add
       split
       ·rename_i h0;rw [h0];rfl
       ·rfl
      clear hc hsc hnw ca cb hb2
      go_wp2_with fail
      refine wp_region_tw wr (Touch.refl _ _) (by kernel_rfl) (by kernel_rfl) ?_
      repeat (go_big_quiet_step (((go_at_call 100;exact Calls.tw _ (HCC.out _)))))
      refine wpQuiet_nil ?_
      rintro _ ⟨x8,rfl⟩
      have HR8:=lh (HRf.out.touch0 x8.t)
      have HT8:=lh (HTf.out.trans x8.t (by simp))
      cases b2
      ·have hq1:q < n:=by omega
       have hqI:(q:Int) < (n:Int):=by omega
       have d0:=HR8.out.cell (k+k2) (by omega)
       rw [HG.out (k+k2) (by omega) (by omega)] at d0
       have d1:=HR8.out.cell q hq1
       have f1:=HR8.out.free q
       have hadd4:(⟨G,0,none⟩:Addr).add q=⟨G,q,none⟩:=add_blk _ _
       clear ga gb
       go_wp2_with fail
       go_roundw
       case rel =>
        have hsc:cptI rows (k+(k2+1))=cptI rows (k+k2)++[k+k2]:=HSC.out
        have hl:=HL.out
        refine ⟨q+1,k2+1,upd f q (k+k2),by omega,by omega,by omega,by go_num,by go_num,lh (by rw [hsc,List.length_append,hl];rfl),lh (fun p hp => ?_),lh (fun p h1 h2 => ?_),lh (HR8.out.set q (k+k2) hq1),lh (HT8.out.setCell (p:=⟨G,q,none⟩) (.inl (by simp)) _)⟩
        ·have hp2:p < q+1:=by rw [hsc,List.length_append,hl] at hp;exact hp
         simp only [hsc]
         by_cases hpq:p < q
         ·rw [List.getElem_append_left (by omega)]
          unfold upd
          rw [if_neg (by omega)]
          exact HP.out p (by omega)
         ·obtain rfl:p=q:=by omega
          rw [List.getElem_append_right (by omega)]
          unfold upd
          simp
        ·unfold upd
         rw [if_neg (by omega)]
         exact HG.out p (by omega) h2
       case measure=>simp [intOf];omega
      ·clear ga gb
       go_wp2_with fail
       go_roundw
       case rel =>
        have hsc:cptI rows (k+(k2+1))=cptI rows (k+k2):=by
         have h:=HSC.out
         simp only [Bool.not_true,Bool.false_eq_true,if_false,List.append_nil] at h
         exact h
        exact ⟨q,k2+1,f,by omega,by omega,by omega,rfl,by go_num,lh (by rw [hsc];exact HL.out),lh (fun p hp=>by simp only [hsc] at hp ⊢;exact HP.out p hp),lh (fun p h1 h2=>HG.out p (by omega) h2),HR8,HT8⟩
       case measure=>simp [intOf];omega
     ·have hkn3:k+k2=n:=by omega
      have hq1:q < n:=by omega
      have hl:=HL.out
      rw [hkn3] at hl
      have hP2:=HP.out
      simp only [hkn3] at hP2
      have HL2:=lh hl
      have HP2:=lh hP2
      have hlI:((k2:Int) < ((n-k:Nat):Int))=False:=eq_false (by omega)
      have hqI:(0:Int)<=(q:Int):=by omega
      have hqn:(q:Int)<=(n:Int):=by omega
      have hqc:(q:Int)<=(c:Int):=by omega
      have hcq:(c=q)=False:=eq_false (by omega)
      have hcl:∀ ty,(Builtin.clear_ #[25] ty #[.slice (some ⟨G,q,none⟩) (n-q) (c-q)]).run Tryz.prog wr=.ok (.tuple #[]) (wr.setCells G q (List.replicate (n-q) (.slice none 0 0))):=fun ty =>
       Lib.run_clear_slice wr _ _ ty _ Tryz.underlying25 (fun w0=>zeroRow1 w0) rfl rfl G q _ _ (by omega) (fun j hj=>by rw [HRf.out.cell (q+j) (by omega)];rfl) (fun j hj=>HRf.out.free (q+j))
      clear HL HP hl hP2
      go_wp2_with fail
      go_ret
      have hl:=HL2.out
      have tC:=touchCs G (List.replicate (n-q) (.slice none 0 0)) wr q
      refine ⟨by rw [hl];rfl,fun p hp => ?_,HTf.out.trans tC (fun b hb=>.inl hb)⟩
      rw [World.cell?_setCells_out G _ q wr ⟨G,p,none⟩ (fun _ _=>.inl (by show p < q;omega)),HRf.out.cell p (by omega),HP2.out p hp]
  ·obtain rfl:k=n:=by omega
   have HA:=lh (cptI_all rows k HN.out)
   go_wp2_with fail
   go_ret
   have hl:(cptI rows k).length=k:=by rw [HA.out,List.length_range]
   refine ⟨by rw [hl];rfl,fun p hp => ?_,HT.out.mono (by simp)⟩
   have h1:(cptI rows k)[p]=p:=by simp only [HA.out,List.getElem_range]
   rw [h1]
   exact (HR.out.touch0 HT.out).cell p (by omega)
end
section
open Go.RowKit
def cptR (rows:List (List VD)):List (List VD):=(cptI rows rows.length).map fun i=>rows.getD i []
theorem cptR_le (rows:List (List VD)):(cptR rows).length<=rows.length:=by unfold cptR;rw [List.length_map];exact cptI_le rows _
theorem cptR_mem {rows:List (List VD)} {r:List VD} (h:r∈cptR rows):r∈rows:=by
 unfold cptR at h
 obtain ⟨i,hi,rfl⟩:=List.mem_map.1 h
 have hl:=cptI_lt i hi
 have:rows.getD i []=rows[i]:=by simp [List.getD,hl]
 rw [this];exact List.getElem_mem hl
theorem cptR_short (rows:List (List VD)) (h:rows.length < 2):cptR rows=rows:=by
 match rows,h with
 | [],_=>rfl
 | [r],_=>rfl
theorem compactR_any (B:Option Addr) (c:Nat) (sl:List SL) (rows:List (List VD)) (hl:rows.length<=100000) (hrk:RowsOk rows) (w:World) (hS:SlsAt w sl rows) (hO:OwnK 33 1 slE w B c sl) (ha:∀ s∈sl,∀ b∈fpo s.A,b∉fpo B) :
  Calls Tryz.prog 99 #[.slice B rows.length c,.func (.func 100) #[] #[]] w fun e w' =>
   e=.returned (.slice B (cptR rows).length c)/\RowsAt w' B (cptR rows)/\Touch (fpo B) w w':=by
 by_cases h2:rows.length < 2
 ·refine (compact_short B rows.length c h2 _ w).mono ?_
  rintro e w' ⟨rfl,rfl⟩
  rw [cptR_short rows h2]
  exact ⟨rfl,⟨sl,hS,hO.rd⟩,Touch.refl _ _⟩
 ·rcases hO.head with ⟨-,h0, -⟩ | ⟨G,rfl⟩
  ·rw [<- hS.1,h0] at h2;simp at h2
  ·have hG:∀ s∈sl,∀ b∈fpo s.A,b≠G:=fun s hs b hb q=>ha s hs b hb (by simp [fpo,q])
   have hn:sl.length=rows.length:=hS.1
   have hat:∀ i (h:i < sl.length),slAt sl i=sl[i]:=fun i h=>by simp [slAt,List.getD,h]
   have hid:(List.range rows.length).map (fun k=>slAt sl k)=sl:=by
    apply List.ext_getElem
    ·simp [hn]
    ·intro i h1 h3
     rw [List.getElem_map,List.getElem_range]
     exact hat i h3
   have hR:RowV (slAt sl) w G c rows.length (fun k=>k):=by
    unfold RowV
    rw [hid]
    exact hO
   have hv:∀ i (h:i < rows.length) wr,Touch [G] w wr->(slAt sl i).n=rows[i].length/\ValsAt wr (slAt sl i).A rows[i]:=fun i h wr t=>by
    have hi:i < sl.length:=by omega
    rw [hat i hi]
    have:=hS.2 i hi h
    exact ⟨this.1,RdK.touch this.2 t (fun b hb hm=>hG _ (List.getElem_mem hi) b hb (by simpa using hm))⟩
   have hgd:∀ i (h:i < rows.length),rows.getD i []=rows[i]:=fun i h=>by simp [List.getD,h]
   have hE:EqOkV (slAt sl) rows G rows.length w:=fun wr t x y hx hy=>by
    have h1:=hv x hx wr t
    have h3:=hv y hy wr t
    rw [hgd x hx,hgd y hy,h1.1,h3.1]
    exact eqRows_any _ _ _ _ _ _ rows[x] rows[y] rfl rfl wr h1.2 h3.2 (hrk _ (List.getElem_mem hx)).1 (hrk _ (List.getElem_mem hy)).1
   have hcl:rows.length<=c:=by rw [<- hn];exact hO.le
   refine (compact_any G c rows.length (by omega) hl hcl (slAt sl) rows w hR hE).mono ?_
   rintro e w' ⟨rfl,hc,ht⟩
   have hlen:(cptR rows).length=(cptI rows rows.length).length:=by unfold cptR;rw [List.length_map]
   refine ⟨by rw [hlen],⟨(cptI rows rows.length).map (slAt sl),⟨by rw [hlen,List.length_map],fun i a b => ?_⟩,fun h0=>⟨_,rfl,fun j u hu => ?_⟩⟩,by simpa [fpo] using ht⟩
   ·have hi:i < (cptI rows rows.length).length:=by simpa using a
    have hlt:=cptI_lt _ (List.getElem_mem hi)
    have e1:(cptR rows)[i]=rows[(cptI rows rows.length)[i]]:=by
     rw [<- hgd _ hlt]
     simp [cptR]
    rw [e1,List.getElem_map]
    exact hv _ hlt w' ht
   ·have hfl:((cptI rows rows.length).map (slAt sl)).flatMap slE=((cptI rows rows.length).map (slAt sl)).map fun s:SL=>Value.slice s.A s.n s.c:=flat_one (val:=fun s:SL=>Value.slice s.A s.n s.c) _
    rw [hfl] at hu
    have hj:j < (cptI rows rows.length).length:=by
     have:=(List.getElem?_eq_some_iff.1 hu).1
     simpa using this
    have hadd:(⟨G,0,none⟩:Addr).add j=⟨G,j,none⟩:=add_blk _ _
    rw [hadd,hc j hj,<- hu]
    simp [hj]
theorem rows_distinct (x:PC) (hk0:x.kind=8) (L:Option Addr) (lc:Nat) (s r:SL) (rows:List (List VD)) (w:World) (hL:RdK tbE w L [(s,r)]) (hm:r.n=rows.length) (hl:rows.length<=100000) (hrk:RowsOk rows) (sl:List SL) (hS:SlsAt w sl rows) (hO:OwnK 33 1 slE w r.A r.c sl) (ha:∀ s∈sl,∀ b∈fpo s.A,b∉fpo r.A) :
  Calls Tryz.prog 65 #[x.val,.slice L 1 lc] w fun e w'=>∃ q:SL,e=.returned (.tuple #[.slice q.A q.n q.c,.int .i64 0])/\q.n=(cptR rows).length/\RowsAt w' q.A (cptR rows)/\Touch (fpo r.A) w w':=by
 obtain ⟨SA,sn,sc⟩:=s
 obtain ⟨RA,rn,rc⟩:=r
 obtain ⟨k0,k1,⟨A2,n2,c2'⟩,⟨⟨ck,cn,⟨cvk,cvn,cvt⟩,cop⟩,CA,cnn,cc⟩,⟨NA,nn,nc⟩,⟨EA,en,ec⟩,⟨OA,ol,oc⟩,⟨GA,gn,gc⟩,⟨BA,bn,bc⟩,count⟩:=x
 dsimp only at hk0 hm hO ha
 subst hk0 hm
 obtain ⟨ad,bl,bo,rfl,hadd0,hc0⟩:=RdK.cells hL 2 tbE_length (by omega) 0 (by simp)
 have l1:w.cell? ⟨bl,bo+1,none⟩=some (.slice RA rows.length rc):=hc0 1 _ rfl
 simp only [Nat.zero_mul] at hadd0
 have had:ad=⟨bl,bo,none⟩:=by rw [<- hadd0];unfold Addr.add;simp
 subst had
 have hadd1:(⟨bl,bo,none⟩:Addr).add 1=⟨bl,bo+1,none⟩:=by unfold Addr.add;simp
 have Hj:=lh fun w' (t:Touch [] w w')=>compactR_any RA rc sl rows hl hrk w' ⟨hS.1,fun i a b=>⟨(hS.2 i a b).1,ValsAt.touch0 (hS.2 i a b).2 t⟩⟩ (hO.touch0 t) ha
 simp only [PC.val] at *
 obtain ⟨W,hW⟩:∃ W,W=w.alloc (.cells #[.int .i64 8,.string k1,.slice A2 n2 c2',.int .i64 ck,.string cn,.int .i64 cvk,.int .i64 cvn,.string cvt,.string cop,.slice CA cnn cc,.slice NA nn nc,.slice EA en ec,.slice OA ol oc,.slice GA gn gc,.slice BA bn bc,.int .i64 count] 49):=⟨_,rfl⟩
 have t0:Touch [] w W:=hW ▸ (Touch.refl [] w).alloc _
 have hb0:=hW ▸ heap_alloc_new w (.cells #[.int .i64 8,.string k1,.slice A2 n2 c2',.int .i64 ck,.string cn,.int .i64 cvk,.int .i64 cvn,.string cvt,.string cop,.slice CA cnn cc,.slice NA nn nc,.slice EA en ec,.slice OA ol oc,.slice GA gn gc,.slice BA bn bc,.int .i64 count] 49)
 have l1d:=t0.cell l1 (by simp)
 have p0:W.cell? ⟨w.heap.size,0,none⟩=some (.int .i64 8):=cell_blk hb0 rfl
 rw [hW] at l1d p0
 have HW:=lh hW
 have HT0:=lh t0
 clear hL hc0 hW t0 l1 hb0 hS hO ha hrk
 go_enter Tryz.func65,Tryz.ntmps65
 go_wp2_with fail
 rw [<- HW.out]
 refine (Hj.out _ HT0.out).mono ?_
 rintro e w1 ⟨rfl,m1,m2⟩
 have M1:=lh (And.intro m1 m2)
 clear m1 m2 p0 l1d
 go_wp2_with fail
 go_ret2
 exact ⟨⟨RA,_,rc⟩,rfl,rfl,M1.out.1,(HT0.out.mono (by simp)).trans M1.out.2 (fun b hb=>.inl hb)⟩
end
section
open Go.RowKit
theorem byD_zero (cs:List CD) (rows:List (List VD)) (x:Nat):byD cs [] rows x=0:=by
 unfold byD rankN
 rw [List.filter_eq_nil_iff.2 (fun a _=>by simp [byR,cmpBy])]
 rfl
theorem byD_none (cs:List CD) (rows:List (List VD)) (x y:Nat):byD cs [] rows x=byD cs [] rows y:=by rw [byD_zero,byD_zero]
theorem good_none (cs:List CD) (rows:List (List VD)):Good (byD cs [] rows) (fun k=>k) 0 rows.length:=by
 refine ⟨fun i j h1 h2 h3 => ?_,fun x=>⟨fun ⟨i,h1,h2,h3⟩ => ?_,fun h=>⟨x,h.1,h.2,rfl⟩⟩⟩
 ·have:=byD_none cs rows i j
  unfold ltL
  dsimp only
  omega
 ·dsimp only at h3
  omega
theorem firstL_none (cs:List CD) (rows:List (List VD)) (count:Nat):firstL cs [] rows count=rows.take count:=by
 rw [firstL_eq count (good_none cs rows)]
 unfold pickL
 rw [range_getD rows [] _ rfl]
theorem SortedOf.one {a b x y:List (List VD)} (ha:SortedOf a x) (hb:SortedOf b y) (hp:a.Perm b):x=y:=by
 refine List.Perm.eq_of_pairwise (le:=fun a b=>cmpRV a b<=0) (fun u v _ _ h1 h2 => ?_) ha.2 hb.2 (ha.1.trans (hp.trans hb.1.symm))
 have:=cmpRV_neg u v
 exact cmpRV_zero _ _ (by omega)
theorem parts_perm (p q:List VD->Bool) (rows:List (List VD)) (h:∀ r∈rows,q r = !p r):(rows.filter p++rows.filter q).Perm rows:=by
 have e:rows.filter q=rows.filter fun r => !p r:=List.filter_congr h
 rw [e]
 exact List.filter_append_perm p rows
theorem parts_sorted (p q:List VD->Bool) {rows a b c:List (List VD)} (hr:rows.Pairwise fun a b=>cmpRV a b<=0) (h:∀ r∈rows,q r = !p r) (ha:SortedOf (rows.filter p) a) (hb:SortedOf (rows.filter q) b) (hc:SortedOf (a++b) c):c=rows :=
 SortedOf.one hc ⟨.refl _,hr⟩ ((ha.1.append hb.1).trans (parts_perm p q rows h))
theorem errF_all {α:Type} {g:α->Int}:∀ {l:List α},errF g l=0->∀ v∈l,g v=0
 | [],_=>fun v hv=>absurd hv (by simp)
 | a :: r,h=>fun v hv=>by
  rw [errF] at h
  by_cases h0:g a=0
  ·rw [if_pos h0] at h
   rcases List.mem_cons.1 hv with rfl | hm
   ·exact h0
   ·exact errF_all h v hm
  ·rw [if_neg h0] at h
   exact absurd h h0
end
section
open Go.RowKit
theorem topX_zero {cs:List CD} {row:List VD} {n:Nat} {e:TX n} (h:(topX cs row n e).2=0):topX cs row n e=evalX cs row n e:=by
 unfold topX at h ⊢
 by_cases h1:(typeX cs n e).2≠0
 ·rw [if_pos h1] at h;exact absurd h h1
 ·rw [if_neg h1] at h ⊢
  by_cases h2:fitR cs row=true
  ·rw [if_pos h2]
  ·rw [if_neg h2] at h;cases h
theorem tru_bit (b:Bool):(bitV b).tru=b:=by cases b <;> rfl
def notX (n:Nat) (e:TX n):TX (n+1):=(⟨3,⟨#[]⟩,⟨0,0,⟨#[]⟩⟩,wNot⟩,[e])
theorem evalX_not {cs:List CD} {row:List VD} {n:Nat} {e:TX n} (h1:(evalX cs row n e).2=0):evalX cs row (n+1) (notX n e)=(bitV (!(evalX cs row n e).1.tru),0):=by
 rw [evalX_succ cs row n (notX n e)]
 have k1:¬ ((notX n e).1.kind=1):=show ¬ ((3:Int)=1) by decide
 have k2:¬ ((notX n e).1.kind=2):=show ¬ ((3:Int)=2) by decide
 rw [if_neg k1,if_neg k2]
 show (if (evalX cs row n e).2≠0 then (zeroV,(evalX cs row n e).2) else _)=_
 rw [if_neg (by rw [h1];decide)]
 rfl
theorem topX_not {cs:List CD} {row:List VD} {n:Nat} {e:TX n} (h1:(topX cs row n e).2=0) (h2:(topX cs row (n+1) (notX n e)).2=0):(topX cs row (n+1) (notX n e)).1.tru = !(topX cs row n e).1.tru:=by
 have e1:=topX_zero h1
 rw [topX_zero h2,e1]
 rw [e1] at h1
 rw [evalX_not h1]
 exact tru_bit _
end
section
open Go.RowKit
theorem TabU.touch0' {lo hi:Nat} {w w':World} {s r:SL} {cs:List CD} {rows:List (List VD)} (h:TabU lo hi w s r cs rows) (ht:Touch [] w w'):TabU lo hi w' s r cs rows:=h.touch ht (by simp)
theorem eval_distinct (x:PC) (hk0:x.kind=8) (hm:x.args.n=1) (I:Option Addr) (ic n:Nat) (w:World) (y:PC) (hX:RdK pcE w x.args.A [y]) (v:Int × List CD × List (List VD)) (hE:EvalC w I ic n y v)
  (hok:∀ c∈v.2.1,c.Ok) (hvl:v.2.1.length<=1000000) (hrk:RowsOk v.2.2) (hrl:RowsLe v.2.2) (hrn:v.2.2.length<=100000) :
  Calls Tryz.prog 30 #[x.val,.slice I n ic] w (EvPost (nodeE [v] v.2.1 (0,cptR v.2.2)) w):=by
 obtain ⟨PO,hPO⟩:∃ PO,PO=EvPost (nodeE [v] v.2.1 (0,cptR v.2.2)) w:=⟨_,rfl⟩
 rw [<- hPO]
 have HPO:=lh hPO
 have Hrd:=lh fun (L:Option Addr) (lc:Nat) (s r:SL) w'=>rows_distinct x hk0 L lc s r v.2.2 w'
 have Hsd:=lh fun (L:Option Addr) (lc:Nat) (s:SL) w' (h:RdK slE w' L [s])=>schema_distinct x hk0 L lc s w' h
 obtain ⟨k0,k1,⟨A2,n2,c2'⟩,⟨⟨ck,cn,⟨cvk,cvn,cvt⟩,cop⟩,CA,cnn,cc⟩,⟨NA,nn,nc⟩,⟨EA,en,ec⟩,⟨OA,ol,oc⟩,⟨GA,gn,gc⟩,⟨BA,bn,bc⟩,count⟩:=x
 dsimp only at hk0 hm hX
 subst hk0 hm
 simp only [PC.val] at *
 obtain ⟨W,hW⟩:∃ W,W=(w.alloc (.cells #[.int .i64 8,.string k1,.slice A2 1 c2',.int .i64 ck,.string cn,.int .i64 cvk,.int .i64 cvn,.string cvt,.string cop,.slice CA cnn cc,.slice NA nn nc,.slice EA en ec,.slice OA ol oc,.slice GA gn gc,.slice BA bn bc,.int .i64 count] 49)).alloc (.cells #[.slice none 0 0,.slice none 0 0] 27):=⟨_,rfl⟩
 have t0:Touch [] w W:=hW ▸ ((Touch.refl [] w).alloc _).alloc _
 have hb0:W.heap[w.heap.size]?=some (.cells #[.int .i64 8,.string k1,.slice A2 1 c2',.int .i64 ck,.string cn,.int .i64 cvk,.int .i64 cvn,.string cvt,.string cop,.slice CA cnn cc,.slice NA nn nc,.slice EA en ec,.slice OA ol oc,.slice GA gn gc,.slice BA bn bc,.int .i64 count] 49 (0,0)):=hW ▸ ((Touch.refl [] (w.alloc (.cells #[.int .i64 8,.string k1,.slice A2 1 c2',.int .i64 ck,.string cn,.int .i64 cvk,.int .i64 cvn,.string cvt,.string cop,.slice CA cnn cc,.slice NA nn nc,.slice EA en ec,.slice OA ol oc,.slice GA gn gc,.slice BA bn bc,.int .i64 count] 49))).alloc (.cells #[.slice none 0 0,.slice none 0 0] 27)).blk (heap_alloc_new w _) (by simp)
 have hbt:W.heap[w.heap.size+1]?=some (.cells #[.slice none 0 0,.slice none 0 0] 27 (0,0)):=by
  have:=heap_alloc_new (w.alloc (.cells #[.int .i64 8,.string k1,.slice A2 1 c2',.int .i64 ck,.string cn,.int .i64 cvk,.int .i64 cvn,.string cvt,.string cop,.slice CA cnn cc,.slice NA nn nc,.slice EA en ec,.slice OA ol oc,.slice GA gn gc,.slice BA bn bc,.int .i64 count] 49)) (.cells #[.slice none 0 0,.slice none 0 0] 27)
  rw [World.size_alloc] at this
  exact hW ▸ this
 have hWs:W.heap.size=w.heap.size+2:=by rw [hW];simp
 have HW:=lh hW
 have HT0:=lh (And.intro t0 (And.intro hb0 (And.intro hbt hWs)))
 have hX2:=RdK.touch0 hX t0
 have q2:W.cell? ⟨w.heap.size,2,none⟩=some (.slice A2 1 c2'):=cell_blk hb0 rfl
 obtain ⟨ad,b1,o1,rfl,hadd,hc⟩:=RdK.cells hX2 16 pcE_length (by omega) 0 (by simp)
 have hty:=hE
 clear hX hX2 hW
 obtain ⟨y0,y1,⟨yA2,yn2,yc2⟩,⟨⟨yck,ycn,⟨ycvk,ycvn,ycvt⟩,ycop⟩,yCA,ycnn,ycc⟩,⟨yNA,ynn,ync⟩,⟨yEA,yen,yec⟩,⟨yOA,yol,yoc⟩,⟨yGA,ygn,ygc⟩,⟨yBA,ybn,ybc⟩,ycount⟩:=y
 have e0:=hc 0 _ rfl;have e1:=hc 1 _ rfl;have e2:=hc 2 _ rfl;have e3:=hc 3 _ rfl;have e4:=hc 4 _ rfl;have e5:=hc 5 _ rfl;have e6:=hc 6 _ rfl;have e7:=hc 7 _ rfl
 have e8:=hc 8 _ rfl;have e9:=hc 9 _ rfl;have e10:=hc 10 _ rfl;have e11:=hc 11 _ rfl;have e12:=hc 12 _ rfl;have e13:=hc 13 _ rfl;have e14:=hc 14 _ rfl;have e15:=hc 15 _ rfl
 rw [Nat.add_zero] at e0
 rw [Nat.zero_mul] at hadd
 simp only [List.getElem_cons_zero] at e0 e1 e2 e3 e4 e5 e6 e7 e8 e9 e10 e11 e12 e13 e14 e15
 have ta:=(Touch.refl [] W).alloc (.cells #[.int .i64 y0,.string y1,.slice yA2 yn2 yc2,.int .i64 yck,.string ycn,.int .i64 ycvk,.int .i64 ycvn,.string ycvt,.string ycop,.slice yCA ycnn ycc,.slice yNA ynn ync,.slice yEA yen yec,.slice yOA yol yoc,.slice yGA ygn ygc,.slice yBA ybn ybc,.int .i64 ycount] 49)
 have hty2:=hty _ (t0.trans0 ta)
 simp only [PC.val] at hty2
 have Hty:=lh hty2
 have HTa:=lh ta
 have Hok:=lh (And.intro hok (And.intro hrk hrl))
 clear hc hty hty2 ta t0 hb0 hbt hWs hPO hE hok hrk hrl
 go_enter Tryz.func30,Tryz.ntmps30
 go_wp2_with fail
 rw [<- HW.out]
 refine wp_loop_rounds 2 ?_
 rw [rounds_succ]
 go_wp2_with fail
 refine Hty.out.mono ?_
 rintro e w1 ⟨⟨sA,sn,sc⟩,⟨rA,rn,rc⟩,rfl,hnt,t1⟩
 obtain ⟨uer,ucs,urows⟩:=v
 dsimp only at hnt hvl hrn Hrd
 clear e0 e1 e2 e3 e4 e5 e6 e7 e8 e9 e10 e11 e12 e13 e14 e15 q2 Hty
 by_cases hz:uer=0
 rotate_left
 ·as_aux_lemma =>
  have HVe:=lh (show nodeE [(uer,ucs,urows)] ucs (0,cptR urows)=(uer,[],[]) by
   have:errL ([(uer,ucs,urows)].map fun v:Int × List CD × List (List VD)=>(v.1,v.2.1))=uer:=by simp [errL,hz]
   unfold nodeE;rw [this,if_neg hz])
  have hq:(uer==0)=false:=by rw [beq_eq_false_iff_ne];exact hz
  have hq':(uer != 0)=true:=by rw [bne,hq];rfl
  have ta2:=(Touch.refl [] w1).alloc (.cells #[.slice sA sn sc,.slice rA rn rc] 27)
  have hr2:=ta2.blk (t1.blk (HTa.out.blk HT0.out.2.2.1 (by simp)) (by simp)) (by simp)
  obtain ⟨z0,z1,y0',y1'⟩:=blk2 hr2
  have HT1:=lh (And.intro (((HT0.out.1.trans0 HTa.out).trans0 t1).trans0 ta2) hr2)
  clear hnt t1 hr2 ta2
  go_wp2_with fail
  refine bodyPost_ret (results_cell_two rfl _ _ (w.heap.size+1) _ _ _ _ rfl (set2 HT1.out.2 rfl _ _) Tryz.underlying27 rfl rfl) rfl ?_
  rw [HPO.out]
  dsimp only
  rw [HVe.out]
  exact EvPost.err uer (HT1.out.1.trans (touch2 _ _ _ _) (fun b hb=>.inr (by simp at hb;omega)))
 ·subst hz
  as_aux_lemma =>
  have HVe:=lh (show nodeE [(0,ucs,urows)] ucs (0,cptR urows)=if fitV ucs (cptR urows)=0 then (0,ucs,sortR (cptR urows)) else (fitV ucs (cptR urows),[],[]) by
   have:errL ([((0:Int),ucs,urows)].map fun v:Int × List CD × List (List VD)=>(v.1,v.2.1))=0:=by simp [errL]
   unfold nodeE;rw [this,if_pos rfl,if_pos rfl])
  have HUT:=lh (TabU.of hnt)
  have tb:=(Touch.refl [] w1).alloc (.cells #[.slice sA sn sc,.slice rA rn rc] 27)
  have tc:=tb.alloc (.cells #[.slice sA sn sc,.slice rA rn rc] 27)
  have HT1:=lh (And.intro (HTa.out.trans0 t1) (And.intro tc t1.size))
  have hrd1:=RdK.one (enc:=tbE) (w1.alloc (.cells #[.slice sA sn sc,.slice rA rn rc] 27)) 27 (⟨sA,sn,sc⟩,⟨rA,rn,rc⟩) #[.slice sA sn sc,.slice rA rn rc] rfl
  rw [World.size_alloc] at hrd1
  have HR1:=lh hrd1
  clear hnt t1 tb tc hrd1
  go_wp2_with (at_builtin;refine stop ?_)
  refine go ?_
  refine wpList_appK (enc:=tbE) rfl (.tmp 37) (.tmp 39) 115 rfl 27 _ 2 48 info_t5 Tryz.underlying115 rfl (by omega) tbE_length tbE_one none 0 0 [] rfl rfl (OwnK.nil _ _ _ _)
   (some ⟨w1.heap.size+1,0,none⟩) 1 1 [(⟨sA,sn,sc⟩,⟨rA,rn,rc⟩)] rfl rfl HR1.out (by omega) (by omega) ?_
  intro L lc w2 hown ht hf
  rw [List.nil_append] at hown
  have hT2:Touch [] W w2:=(HT1.out.1.trans0 HT1.out.2.1).trans0 (ht.mono (by simp [fpo]))
  have hq0:=hT2.blk HT0.out.2.1 (by simp)
  have hk8:w2.cell? ⟨w.heap.size,0,none⟩=some (.int .i64 8):=cell_blk hq0 rfl
  have hU2:TabU (W.heap.size+1) w1.heap.size w2 ⟨sA,sn,sc⟩ ⟨rA,rn,rc⟩ ucs urows:=by
   have:=HUT.out.touch (HT1.out.2.1.trans0 (ht.mono (by simp [fpo]))) (by simp)
   rwa [World.size_alloc] at this
  have hLf:∀ b∈fpo L,w1.heap.size+2<=b:=fun b hb=>by
   rcases hf b hb with q | q
   ·simp [fpo] at q
   ·rw [q];simp
  have H2:=lh (And.intro hT2 (And.intro hown (And.intro hU2 (And.intro hLf (show w1.heap.size<=w2.heap.size from Nat.le_trans (by rw [World.size_alloc,World.size_alloc];omega) (Touch.size (ht.mono (by simp [fpo]):Touch [] _ w2)))))))
  obtain ⟨adL,bL,oL,rfl,haddL,hcL⟩:=RdK.cells hown.rd 2 tbE_length (by omega) 0 (by simp)
  have m0:=hcL 0 _ rfl
  have m1:=hcL 1 _ rfl
  rw [Nat.add_zero] at m0
  rw [Nat.zero_mul] at haddL
  simp only [List.getElem_cons_zero] at m0 m1
  clear HT1 HR1 HUT hown ht hf hT2 hq0 hU2 hLf hcL
  go_wp2_with fail
  rw [rounds_succ]
  go_wp2_with fail
  refine wp_loop_rounds 2 ?_
  rw [rounds_succ]
  go_wp2_with (at_builtin;refine stop ?_)
  refine go ?_
  have td:=((Touch.refl [] w2).alloc (.cells #[.slice sA sn sc,.slice rA rn rc] 27)).alloc (.cells #[.slice sA sn sc] 24)
  have hrd2:=RdK.one (enc:=slE) (w2.alloc (.cells #[.slice sA sn sc,.slice rA rn rc] 27)) 24 ⟨sA,sn,sc⟩ #[.slice sA sn sc] rfl
  rw [World.size_alloc] at hrd2
  refine wpList_appK (enc:=slE) rfl (.tmp 60) (.tmp 63) 119 rfl 24 _ 1 24 info_s5 Tryz.underlying119 rfl (by omega) slE_length slE_one none 0 0 [] rfl rfl (OwnK.nil _ _ _ _)
   (some ⟨w2.heap.size+1,0,none⟩) 1 1 [⟨sA,sn,sc⟩] rfl rfl hrd2 (by omega) (by omega) ?_
  intro L2 lc2 w4 hown2 ht2 hf2
  rw [List.nil_append] at hown2
  have hT4:Touch [] w2 w4:=td.trans0 (ht2.mono (by simp [fpo]))
  have H4:=lh (And.intro hT4 hown2.rd)
  obtain ⟨p0,p1,p2,p3,p4,p5,p6,p7,p8,p9,p10,p11,p12,p13,p14,p15⟩:=blk16 ((H2.out.1.trans0 hT4).blk HT0.out.2.1 (by simp))
  clear m0 m1 hk8 hown2 ht2 hf2 hT4 td hrd2
  go_wp2_with fail
  rw [rounds_succ]
  go_wp2_with fail
  refine (Hsd.out L2 lc2 ⟨sA,sn,sc⟩ w4 H4.out.2).mono ?_
  rintro e w5 ⟨rfl,t5⟩
  have T5:=lh (H4.out.1.trans0 t5)
  clear p0 p1 p2 p3 p4 p5 p6 p7 p8 p9 p10 p11 p12 p13 p14 p15 t5
  obtain ⟨p0,p1,p2,p3,p4,p5,p6,p7,p8,p9,p10,p11,p12,p13,p14,p15⟩:=blk16 ((H2.out.1.trans0 T5.out).blk HT0.out.2.1 (by simp))
  have hU5:=H2.out.2.2.1.touch0' T5.out
  obtain ⟨sl,hs,ho,ha⟩:=hU5.rws
  have Hrw:=lh (Hrd.out (some adL) lc ⟨sA,sn,sc⟩ ⟨rA,rn,rc⟩ w5 (RdK.touch0 H2.out.2.1.rd T5.out) hU5.m hrn Hok.out.2.1 sl hs ho (fun s hs b hb=>(ha s hs b hb).1))
  have HU5:=lh hU5
  clear hs ho ha hU5 Hsd Hrd
  go_wp2_with fail
  refine Hrw.out.mono ?_
  rintro e w6 ⟨⟨qA,qn,qc⟩,rfl,r1,r2,t6⟩
  have hbr:w6.heap[w.heap.size+1]?=some (.cells #[.slice none 0 0,.slice none 0 0] 27 (0,0)):=t6.blk ((H2.out.1.trans0 T5.out).blk HT0.out.2.2.1 (by simp)) (fun hm=>by have:=HU5.out.rf _ hm;have:=HT0.out.2.2.2;omega)
  have hcol:ColsAt w6 sA ucs:=RdK.touch HU5.out.cols t6 (fun b hb hm=>HU5.out.apart b hb hm)
  have hT6:Touch [] w w6:=(HT0.out.1.trans0 (H2.out.1.trans0 T5.out)).trans t6 (fun b hb=>.inr (by have:=HU5.out.rf b hb;have:=HT0.out.2.2.2;omega))
  have HZ:=lh (And.intro r1 (And.intro r2 (And.intro hcol (And.intro hT6 (And.intro hbr (show w.heap.size+2<=w6.heap.size from by have h1:=t6.size;have h2:=(H2.out.1.trans0 T5.out).size;have:=HT0.out.2.2.2;omega))))))
  have hvk:RowsOk (cptR urows):=fun r hr=>Hok.out.2.1 r (cptR_mem hr)
  have hvl2:RowsLe (cptR urows):=fun r hr=>Hok.out.2.2 r (cptR_mem hr)
  have hcl:=cptR_le urows
  obtain ⟨rrows,hrr⟩:∃ r,r=cptR urows:=⟨_,rfl⟩
  rw [<- hrr] at HVe HZ hvk hvl2 hcl HPO
  have HV:=lh (And.intro hvk (And.intro hvl2 hcl))
  obtain ⟨z0,z1,y0',y1'⟩:=blk2 hbr
  have HN:=lh (And.intro HU5.out.n HU5.out.le)
  clear p0 p1 p2 p3 p4 p5 p6 p7 p8 p9 p10 p11 p12 p13 p14 p15 r1 r2 t6 hcol hT6 hbr hvk hvl2 hcl hrr Hrw haddL
  by_cases hf0:fitV ucs rrows=0
  ·as_aux_lemma =>
   have HVg:=lh (show nodeE [(0,ucs,urows)] ucs (0,rrows)=(0,ucs,sortR rrows) by rw [HVe.out,if_pos hf0])
   have Hmk:=lh (make_yes sA sc sn ucs HN.out.1.symm HN.out.2 Hok.out.1 qA qc qn rrows HZ.out.1.symm HV.out.1 HV.out.2.1 w6 HZ.out.2.2.1 HZ.out.2.1 (by have h:=HN.out.1;(try dsimp only at h);omega) (by have h:=HZ.out.1;have h2:=HV.out.2.2;(try dsimp only at h h2);omega) hf0)
   clear HVe hf0
   go_wp2_with fail
   refine Hmk.out.mono ?_
   rintro e w7 ⟨⟨mA,mn,mc⟩,⟨gA,gn',gc'⟩,out,rfl,hnt,hso,t7⟩
   have HM:=lh (And.intro hnt (And.intro hso (And.intro t7 (t7.blk HZ.out.2.2.2.2.1 (by simp)))))
   clear hnt hso t7 Hmk z0 z1 y0' y1'
   obtain ⟨z0,z1,y0',y1'⟩:=blk2 HM.out.2.2.2
   go_wp2_with fail
   obtain ⟨hnt,hso,t7,hr7⟩:=HM.out
   have tq:=touch2 w7 (w.heap.size+1) (.slice mA mn mc) (.slice gA gn' gc')
   have hs7:=HZ.out.2.2.2.2.2
   refine bodyPost_ret (results_cell_two rfl _ _ (w.heap.size+1) _ _ _ _ rfl (set2 hr7 rfl _ _) Tryz.underlying27 rfl rfl) rfl ?_
   rw [HPO.out]
   dsimp only
   rw [HVg.out,<- sortR_of hso]
   refine ⟨⟨mA,mn,mc⟩,⟨gA,gn',gc'⟩,rfl, ?_,(HZ.out.2.2.2.1.trans0 t7).trans tq (fun b hb=>.inr (by simp at hb;omega))⟩
   refine ⟨hnt.n,hnt.le,RdK.touch hnt.cols tq (fun b hb hm => ?_),fun b hb=>⟨?_, ?_⟩,hnt.m, ?_,fun b hb => ?_,hnt.apart⟩
   ·have:=(hnt.cf b hb).1;simp at hm;omega
   ·have:=(hnt.cf b hb).1;omega
   ·have:=(hnt.cf b hb).2;have:=tq.size;omega
   ·exact (hnt.rws.touch tq (fun b hb=>by simp at hb;omega) (fun b hb=>hnt.rf b hb)).base (by omega)
   ·have:=hnt.rf b hb;omega
  ·as_aux_lemma =>
   have hmk:=make_no sA sc sn ucs HN.out.1.symm Hok.out.1 qA qc qn rrows HZ.out.1.symm HV.out.1 w6 HZ.out.2.2.1 HZ.out.2.1 (by have h:=HN.out.1;(try dsimp only at h);omega) (by have h:=HZ.out.1;have h2:=HV.out.2.2;(try dsimp only at h h2);omega) hf0
   have HVg:=lh (show nodeE [(0,ucs,urows)] ucs (0,rrows)=(fitV ucs rrows,[],[]) by rw [HVe.out,if_neg hf0])
   obtain ⟨K,hK⟩:∃ K,K=fitV ucs rrows:=⟨_,rfl⟩
   rw [<- hK] at hmk HVg
   have Hmk:=lh hmk
   clear HVe hf0 hK hmk
   go_wp2_with fail
   refine Hmk.out.mono ?_
   rintro e w7 ⟨rfl,t7⟩
   have HM:=lh (And.intro t7 (t7.blk HZ.out.2.2.2.2.1 (by simp)))
   clear t7 Hmk z0 z1 y0' y1'
   obtain ⟨z0,z1,y0',y1'⟩:=blk2 HM.out.2
   go_wp2_with fail
   refine bodyPost_ret (results_cell_two rfl _ _ (w.heap.size+1) _ _ _ _ rfl (set2 HM.out.2 rfl _ _) Tryz.underlying27 rfl rfl) rfl ?_
   rw [HPO.out]
   dsimp only
   rw [HVg.out]
   exact EvPost.err K ((HZ.out.2.2.2.1.trans0 HM.out.1).trans (touch2 _ _ _ _) (fun b hb=>.inr (by simp at hb;omega)))
end
end Go.Proofs.YtafoklilkdnepaaGreatDoor
