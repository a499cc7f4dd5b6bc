/- Part 33 of the texts of this proof, one behind the other. No condition beyond those that its theorems state. -/
import Derived.Test.YtafoklilkdnepaaGreatDoorRi32
import Derived.Test.YtafoklilkdnepaaGreatDoorRows
import Derived.ProofKit
import Derived.Deep.Slices
import Derived.Deep.Fields
import Derived.ChangeSame
import Derived.ChangeArms
import Derived.Deep.MidRow
import Derived.BigQuiet
import Derived.Deep.DeepCutAuto
set_option maxRecDepth 40000
set_option maxHeartbeats 25600000
namespace Go.Proofs.YtafoklilkdnepaaGreatDoor
section
open Go.RowKit
def smN (c:CD):Bool:=decide (c.name.size<=50)
def smV (v:VD):Bool:=decide (v.text.size<=100)
def smR (r:List VD):Bool:=decide (r.length<=20)&&r.all smV
def smallT (cs:List CD) (rows:List (List VD)):Bool:=cs.all smN&&(rows.all smR&&(decide (cs.length<=16)&&decide (rows.length<=30)))
theorem smallT_true {cs:List CD} {rows:List (List VD)} (h:smallT cs rows=true):(∀ c∈cs,c.name.size<=50)/\(∀ r∈rows,r.length<=20/\∀ v∈r,v.text.size<=100)/\cs.length<=16/\rows.length<=30:=by
 unfold smallT at h
 rw [Bool.and_eq_true,Bool.and_eq_true,Bool.and_eq_true,List.all_eq_true,List.all_eq_true] at h
 refine ⟨fun c hc=>by simpa [smN] using h.1 c hc,fun r hr => ?_,of_decide_eq_true h.2.2.1,of_decide_eq_true h.2.2.2⟩
 have:=h.2.1 r hr
 unfold smR at this
 rw [Bool.and_eq_true,List.all_eq_true] at this
 exact ⟨of_decide_eq_true this.1,fun v hv=>by simpa [smV] using this.2 v hv⟩
theorem smallTable_any (A B:Option Addr) (c1 c2 n m:Nat) (cs:List CD) (rows:List (List VD)) (hn:cs.length=n) (hm:rows.length=m) (hc:n<=9223372036854775807/\∀ c∈cs,c.name.size<=9223372036854775807 /\ -9223372036854775808<=c.typ/\c.typ<=9223372036854775807)
  (hr:m<=9223372036854775807/\∀ r∈rows,r.length<=9223372036854775807/\∀ v∈r,v.Ok 9223372036854775807) (w:World) (h:ColsAt w A cs) (h2:RowsAt w B rows) :
  Calls Tryz.prog 13 #[.agg #[.slice A n c1,.slice B m c2]] w fun e w'=>e=.returned (.bool (smallT cs rows))/\Touch [] w w':=by
 obtain ⟨hc1,hc2⟩:=hc
 obtain ⟨hr1,hr2⟩:=hr
 subst hn hm
 go_enter Tryz.func13,Tryz.ntmps13
 have t0:=(Touch.refl [] w).alloc (.cells #[.slice A cs.length c1,.slice B rows.length c2] 27)
 have hbx:=heap_alloc_new w (.cells #[.slice A cs.length c1,.slice B rows.length c2] 27)
 have Hbx:=lh hbx
 clear hbx
 go_wp2
 go_loopw [12] (fun i wr=>∃ k:Nat,k<=cs.length/\i=.int .i64 k/\Hid ((cs.take k).all smN=true)/\Touch [] (w.alloc (.cells #[.slice A cs.length c1,.slice B rows.length c2] 27)) wr) (fun i _=>cs.length-(intOf i).toNat)
 case atStart=>exact ⟨0,by omega,rfl,lh rfl,Touch.refl _ _⟩
 case round =>
  obtain ⟨k,hk,rfl,Hall,ht'⟩:=hrel
  have ht:=t0.trans0 ht'
  by_cases hlt:k < cs.length
  ·obtain ⟨ad,b,off,rfl,hadd,e0,e1⟩:=(h.touch0 ht).at_ k hlt
   have hcok:=hc2 _ (List.getElem_mem hlt)
   have hno:=all_no (p:=smN) hlt
   have hyes:=all_snoc (p:=smN) hlt Hall.out
   obtain ⟨c,hce⟩:∃ c,c=cs[k]:=⟨_,rfl⟩
   rw [<- hce] at e0 e1 hcok hno hyes
   obtain ⟨hcn,hct1,hct2⟩:=hcok
   have Hno:=lh hno;have Hyes:=lh hyes
   clear hce hno hyes Hall
   by_cases h1:50 < c.name.size
   ·have Hs:=lh (Hno.out (by simp [smN];omega))
    go_wp2
    go_ret
    exact ⟨ret_bool (by unfold smallT;rw [Hs.out];rfl),ht.alloc _⟩
   ·have Hs:=lh (Hyes.out (by simp [smN];omega))
    go_wp2
    go_roundw
    case rel=>exact ⟨k+1,by omega,by go_num,Hs,ht'.alloc _⟩
    case measure=>simp [intOf];omega
  ·obtain rfl:k=cs.length:=by omega
   have hall:=Hall.out
   rw [List.take_length] at hall
   have HA:=lh hall
   have x1:=ht'.cell (cell_blk Hbx.out (i:=1) (v:=.slice B rows.length c2) rfl) (by simp)
   clear hall Hall
   go_wp2
   clear x1
   go_loopw [24] (fun i wr2=>∃ q:Nat,q<=rows.length/\i=.int .i64 q/\Hid ((rows.take q).all smR=true)/\Touch [] (w.alloc (.cells #[.slice A cs.length c1,.slice B rows.length c2] 27)) wr2) (fun i _=>rows.length-(intOf i).toNat)
   case atStart=>exact ⟨0,by omega,rfl,lh rfl,ht'⟩
   case round =>
    clear ht' ht
    obtain ⟨q,hq,rfl,Hall,ht'⟩:=hrel
    have ht:=t0.trans0 ht'
    by_cases hltq:q < rows.length
    ·obtain ⟨bd,RA,rc,rfl,r0,hrv⟩:=(h2.touch0 ht).at_ q hltq
     have hro:=hr2 _ (List.getElem_mem hltq)
     have hno:=all_no (p:=smR) hltq
     have hyes:=all_snoc (p:=smR) hltq Hall.out
     obtain ⟨r,hre⟩:∃ r,r=rows[q]:=⟨_,rfl⟩
     rw [<- hre] at r0 hrv hro hno hyes
     have Hno:=lh hno;have Hyes:=lh hyes
     obtain ⟨hrl,hrok⟩:=hro
     clear hre hno hyes Hall
     by_cases h20:20 < r.length
     ·have Hs:=lh (Hno.out (by unfold smR;rw [decide_eq_false (by omega)];rfl))
      go_wp2
      go_ret
      exact ⟨ret_bool (by unfold smallT;rw [HA.out,Hs.out];rfl),ht⟩
     ·have HsR:=lh (show smR r=r.all smV by unfold smR;rw [decide_eq_true (by omega)];rfl)
      go_wp2
      go_loopw [33] (fun i w3=>∃ j:Nat,j<=r.length/\i=.int .i64 j/\Hid ((r.take j).all smV=true)/\Touch [] wr w3) (fun i _=>r.length-(intOf i).toNat)
      case atStart=>exact ⟨0,by omega,rfl,lh rfl,Touch.refl _ _⟩
      case round =>
       obtain ⟨j,hj,rfl,Hall,ht3⟩:=hrel
       by_cases hltj:j < r.length
       ·obtain ⟨vd,vb,voff,rfl,hvadd,f0,f1,f2⟩:=(hrv.touch0 ht3).at_ j hltj
        have hvo:=hrok _ (List.getElem_mem hltj)
        have hno:=all_no (p:=smV) hltj
        have hyes:=all_snoc (p:=smV) hltj Hall.out
        obtain ⟨v,hve⟩:∃ v,v=r[j]:=⟨_,rfl⟩
        rw [<- hve] at f0 f1 f2 hvo hno hyes
        obtain ⟨_,_,hvt⟩:=hvo
        have Hvno:=lh hno;have Hvyes:=lh hyes
        clear hve hno hyes Hall
        by_cases h1:100 < v.text.size
        ·have Hs:=lh (Hno.out (by rw [HsR.out];exact Hvno.out (by simp [smV];omega)))
         go_wp2
         go_ret
         exact ⟨ret_bool (by unfold smallT;rw [HA.out,Hs.out];rfl),(ht.trans0 ht3).alloc _⟩
        ·have Hs:=lh (Hvyes.out (by simp [smV];omega))
         go_wp2
         go_roundw
         case rel=>exact ⟨j+1,by omega,by go_num,Hs,ht3.alloc _⟩
         case measure=>simp [intOf];omega
       ·obtain rfl:j=r.length:=by omega
        have hall:=Hall.out
        rw [List.take_length] at hall
        have Hs:=lh (Hyes.out (by rw [HsR.out];exact hall))
        clear hall Hall
        go_wp2
        go_roundw
        case rel=>exact ⟨q+1,by omega,by go_num,Hs,ht'.trans0 ht3⟩
        case measure=>simp [intOf];omega
    ·obtain rfl:q=rows.length:=by omega
     have hall:=Hall.out
     rw [List.take_length] at hall
     have Hs:=lh (show smallT cs rows=(decide ((cs.length:Int)<=16)&&decide ((rows.length:Int)<=30)) by
      unfold smallT
      rw [HA.out,hall,Bool.true_and,Bool.true_and,Bool.eq_iff_iff]
      simp
      omega)
     have x0:=ht'.cell (cell_blk Hbx.out (i:=0) (v:=.slice A cs.length c1) rfl) (by simp)
     have x1:=ht'.cell (cell_blk Hbx.out (i:=1) (v:=.slice B rows.length c2) rfl) (by simp)
     clear hall Hall
     by_cases h20:(cs.length:Int)<=16
     ·go_wp2
      go_ret
      exact ⟨ret_bool (by rw [Hs.out,decide_eq_true h20,Bool.true_and]),ht⟩
     ·go_wp2
      go_ret
      exact ⟨ret_bool (by rw [Hs.out,decide_eq_false (by omega),Bool.false_and]),ht⟩
end
section
open Go.RowKit Go.ChangeShapes Go.WideShapes Go.Deep
theorem bulk_pos {H:Type} (d:DataW H):1<=Rows.uptoBulk d:=by
 cases d with
 | lit l=>cases l <;> simp [Rows.uptoBulk]
 | _=>simp [Rows.uptoBulk]
theorem bulkAll_sum {H:Type} (l:List (DataW H)):Rows.uptoBulkAll l=(l.map Rows.uptoBulk).sum:=by
 induction l with
 | nil=>simp [Rows.uptoBulkAll]
 | cons a l ih=>simp [Rows.uptoBulkAll,ih]
theorem list_choose {α β γ:Type} (R:α->β->γ->Prop) (l:List α) (bs:List β) (hl:bs.length=l.length) (h:∀ i (h1:i < l.length) (h2:i < bs.length),∃ e,R l[i] bs[i] e) :
  ∃ es:List γ,es.length=l.length/\∀ i (h1:i < l.length) (h2:i < bs.length) (h3:i < es.length),R l[i] bs[i] es[i] :=
 ⟨List.ofFn fun i:Fin l.length=>(h i.1 i.2 (by rw [hl];exact i.2)).choose,by simp,fun i h1 h2 h3=>by
  rw [List.getElem_ofFn]
  exact (h i h1 h2).choose_spec⟩
theorem sum_le_of {γ:Type} (f:γ->Nat):∀ (es:List γ) (bs:List Nat),bs.length=es.length->(∀ i (h1:i < es.length) (h2:i < bs.length),f es[i]<=bs[i])->(es.map f).sum<=bs.sum
 | [],_,_,_=>by simp
 | e :: es,[],h,_=>by simp at h
 | e :: es,b :: bs,h,hh=>by
  have h0:=hh 0 (by simp) (by simp)
  have:=sum_le_of f es bs (by simpa using h) (fun i h1 h2=>by have:=hh (i+1) (by simp;omega) (by simp;omega);simpa using this)
  simp at h0 ⊢;omega
theorem mem_le_sum:∀ (bs:List Nat) (i:Nat) (h:i < bs.length),bs[i]<=bs.sum
 | b :: bs,0,_=>by simp
 | b :: bs,i+1,h=>by have:=mem_le_sum bs i (by simpa using h);simp;omega
theorem len_le_bs:∀ (bs:List Nat),(∀ b∈bs,1<=b)->bs.length<=bs.sum
 | [],_=>by simp
 | b :: bs,h=>by
  have h1:=h b List.mem_cons_self
  have:=len_le_bs bs fun x hx=>h x (List.mem_cons_of_mem _ hx)
  simp;omega
theorem rdK_of_rowsI {α:Type} (enc:α->List Value) (k:Nat) (hk:∀ x,(enc x).length=k) (h0:0 < k) (w:World) (a:Addr) (len:Nat) (P:Nat->α->Prop)
  (key:∀ i,i < len->∃ x:α,P i x/\∀ r u,(enc x)[r]?=some u->w.cell? (a.add (i*k+r))=some u):∃ l:List α,l.length=len/\RdK enc w (some a) l/\∀ i (h:i < l.length),P i l[i]:=by
 refine ⟨(List.range len).attach.map fun i=>(key i.1 (by simpa using i.2)).choose,by simp,fun _=>⟨a,rfl,fun j u hu => ?_⟩,fun i hi => ?_⟩
 ·have hj:=(List.getElem?_eq_some_iff.1 hu).1
  rw [flat_length enc k hk] at hj
  have hi:j / k < ((List.range len).attach.map fun i=>(key i.1 (by simpa using i.2)).choose).length:=Nat.div_lt_of_lt_mul (by rwa [Nat.mul_comm] at hj)
  have hr:j % k < k:=Nat.mod_lt _ h0
  have hjk:j / k*k+j % k=j:=Nat.div_add_mod' j k
  rw [<- hjk,flat_get enc k hk _ _ _ hi hr] at hu
  have hil:j / k < len:=by simpa using hi
  have hs:=(key _ hil).choose_spec.2
  rw [<- hjk]
  exact hs _ _ (by simpa using hu)
 ·have hil:i < len:=by simpa using hi
  have:=(key i hil).choose_spec.1
  simpa using this
section
variable {H:Type} (enc:TypeId × Value->H) (w:World) (base:Nat) (spare:Nat->Bool) (held:Bool)
def Opn (t:TypeId) (m C:Nat) {α:Type} (E:α->List Value) (Q:α->Nat->Prop):Prop :=
 ∀ n cs (y:DataW H × List MemPlace),n<=m->cs.length=C->DataW.trod enc Tryz.prog w base spare held n t cs=some y->∃ a,E a=cs/\Q a (Rows.uptoBulk y.1)
def SlQ {α:Type} (E:α->List Value) (Q:α->Nat->Prop) (s:SL) (b:Nat):Prop :=
 ∃ (l:List α) (bs:List Nat),s.n=l.length/\RdK E w s.A l/\s.n<=s.c/\bs.length=l.length/\bs.sum < b/\(∀ x∈bs,1<=x)/\∀ i (h1:i < l.length) (h2:i < bs.length),Q l[i] bs[i]
def wfI (k:Int):Prop := -9223372036854775808<=k/\k<=9223372036854775807
theorem opn_int (m:Nat):Opn enc w base spare held 3 m 1 (fun k:Int=>[.int .i64 k]) (fun k _=>wfI k):=by
 intro n cs y _ hl h
 obtain ⟨k,e,_,hw⟩:=DataW.trod_int Tryz.underlying3 h
 exact ⟨k,e.symm,by simpa [wfI,Lit.wf,IntKind.min,IntKind.max,IntKind.signed,IntKind.bits] using hw⟩
theorem opn_str (m:Nat):Opn enc w base spare held 9 m 1 btE (fun s b=>s.size<=b):=by
 intro n cs y _ hl h
 obtain ⟨s,e,ey,hw⟩:=DataW.trod_string Tryz.underlying9 h
 refine ⟨s,e.symm, ?_⟩
 rw [ey]
 simp only [Rows.uptoBulk]
 show s.size<=_
 simp only [ByteArray.size,Array.size]
 omega
theorem opn_bool (m:Nat):Opn enc w base spare held 4 m 1 (fun b:Bool=>[.bool b]) (fun _ _=>True):=by
 intro n cs y _ hl h
 obtain ⟨b,e,_⟩:=DataW.trod_bool Tryz.underlying4 h
 exact ⟨b,e.symm,trivial⟩
variable {enc w base spare held}
theorem opn_slice {t e:TypeId} {m C:Nat} {α:Type} {E:α->List Value} {Q:α->Nat->Prop} (ht:Tryz.prog.underlying t=some (.slice e)) (hC:Tryz.prog.cellsOf e=C) (h0:0 < C) (hE:∀ x,(E x).length=C)
  (he:Opn enc w base spare held e m C E Q):Opn enc w base spare held t (m+1) 1 slE (SlQ w E Q):=by
 intro n cs y hn hl h
 rcases DataW.trod_slice ht h with ⟨hcs,hy⟩ | ⟨a,len,cap,elems,rest,n',rfl,rfl,rfl,_,hlc,_,hlen,hel,_,_⟩
 ·subst hcs hy
  exact ⟨⟨none,0,0⟩,rfl,[],[],rfl,RdK.nil _ _ _,Nat.le_refl _,rfl,by simp [Rows.uptoBulk],by simp,fun i h1=>absurd h1 (by simp)⟩
 ·obtain ⟨l,hl1,hl2,hl3⟩:=rdK_of_rowsI E C hE h0 w a len (fun i x=>∀ h:i < elems.length,Q x (Rows.uptoBulk elems[i].1)) fun i hi=>by
   have hie:i < elems.length:=by omega
   have hk:=hel i hi
   rw [List.getElem?_eq_getElem hie,hC] at hk
   obtain ⟨cs',h1,h2⟩:=Option.bind_eq_some_iff.1 hk
   obtain ⟨_,hcl,hat⟩:=World.cells?_some h1
   obtain ⟨x,hx1,hx2⟩:=he n' cs' _ (by omega) hcl h2
   refine ⟨x,fun _=>hx2,fun r u hu => ?_⟩
   rw [<- Go.Deep.add_add,hat r (by rw [<- hE x];exact (List.getElem?_eq_some_iff.1 hu).1),<- hx1]
   exact hu
  refine ⟨⟨some a,len,cap⟩,rfl,l,elems.map fun y=>Rows.uptoBulk y.1,by rw [hl1],hl2,hlc,by rw [List.length_map,hl1,hlen], ?_, ?_,fun i h1 h2 => ?_⟩
  ·simp only [Rows.uptoBulk,bulkAll_sum,List.map_map]
   have:(elems.map fun y=>Rows.uptoBulk y.1)=elems.map (Rows.uptoBulk ∘ fun x=>x.1):=rfl
   rw [this];omega
  ·intro x hx
   obtain ⟨y,_,rfl⟩:=List.mem_map.1 hx
   exact bulk_pos _
  ·rw [List.getElem_map]
   exact hl3 i h1 (by simpa using h2)
theorem Opn.le {t:TypeId} {m m' C:Nat} {α:Type} {E:α->List Value} {Q:α->Nat->Prop} (h:Opn enc w base spare held t m C E Q) (hm:m'<=m):Opn enc w base spare held t m' C E Q :=
 fun n cs y hn hl ht=>h n cs y (Nat.le_trans hn hm) hl ht
theorem opn_col (m:Nat):Opn enc w base spare held 29 m 2 cdE (fun c b=>c.name.size<=b/\wfI c.typ):=by
 intro n cs y hn hl h
 obtain ⟨ys,n',rfl,rfl, -,hyl,hf⟩:=DataW.trod_struct Tryz.underlying29 h
 obtain ⟨c0,c1,rfl⟩:∃ c0 c1,cs=[c0,c1]:=by
  match cs,hl with
  | [c0,c1],_=>exact ⟨c0,c1,rfl⟩
 have hyn:ys.length=2:=hyl
 obtain ⟨y0,y1,rfl⟩:∃ y0 y1,ys=[y0,y1]:=by
  match ys,hyn with
  | [y0,y1],_=>exact ⟨y0,y1,rfl⟩
 have z0:Tryz.prog.cellsOf 9=1:=by kernel_rfl
 have z1:Tryz.prog.cellsOf 3=1:=by kernel_rfl
 have h0:DataW.trod enc Tryz.prog w base spare held n' 9 (List.take (Tryz.prog.cellsOf 9) (List.drop 0 [c0,c1]))=some y0:=hf 0 _ rfl
 rw [z0] at h0
 obtain ⟨a0,e0,q0⟩:=(opn_str _ _ _ _ _ n') n' [c0] y0 (by omega) rfl h0
 have h1:DataW.trod enc Tryz.prog w base spare held n' 3 (List.take (Tryz.prog.cellsOf 3) (List.drop 1 [c0,c1]))=some y1:=hf 1 _ rfl
 rw [z1] at h1
 obtain ⟨a1,e1,q1⟩:=(opn_int _ _ _ _ _ n') n' [c1] y1 (by omega) rfl h1
 cases e0
 cases e1
 have hb:Rows.uptoBulk (DataW.agg (List.map (fun x:DataW H × List MemPlace=>x.1) [y0,y1]))=Rows.uptoBulk y0.1+Rows.uptoBulk y1.1+1:=by simp [Rows.uptoBulk,Rows.uptoBulkAll];try omega
 refine ⟨⟨a0,a1⟩,rfl, ?_⟩
 rw [hb]
 exact ⟨by dsimp only;omega,q1⟩
theorem opn_val (m:Nat):Opn enc w base spare held 31 m 3 vdE (fun v b=>v.Ok b):=by
 intro n cs y hn hl h
 obtain ⟨ys,n',rfl,rfl, -,hyl,hf⟩:=DataW.trod_struct Tryz.underlying31 h
 obtain ⟨c0,c1,c2,rfl⟩:∃ c0 c1 c2,cs=[c0,c1,c2]:=by
  match cs,hl with
  | [c0,c1,c2],_=>exact ⟨c0,c1,c2,rfl⟩
 have hyn:ys.length=3:=hyl
 obtain ⟨y0,y1,y2,rfl⟩:∃ y0 y1 y2,ys=[y0,y1,y2]:=by
  match ys,hyn with
  | [y0,y1,y2],_=>exact ⟨y0,y1,y2,rfl⟩
 have z0:Tryz.prog.cellsOf 3=1:=by kernel_rfl
 have z1:Tryz.prog.cellsOf 9=1:=by kernel_rfl
 have h0:DataW.trod enc Tryz.prog w base spare held n' 3 (List.take (Tryz.prog.cellsOf 3) (List.drop 0 [c0,c1,c2]))=some y0:=hf 0 _ rfl
 rw [z0] at h0
 obtain ⟨a0,e0,q0⟩:=(opn_int _ _ _ _ _ n') n' [c0] y0 (by omega) rfl h0
 have h1:DataW.trod enc Tryz.prog w base spare held n' 3 (List.take (Tryz.prog.cellsOf 3) (List.drop 1 [c0,c1,c2]))=some y1:=hf 1 _ rfl
 rw [z0] at h1
 obtain ⟨a1,e1,q1⟩:=(opn_int _ _ _ _ _ n') n' [c1] y1 (by omega) rfl h1
 have h2:DataW.trod enc Tryz.prog w base spare held n' 9 (List.take (Tryz.prog.cellsOf 9) (List.drop 2 [c0,c1,c2]))=some y2:=hf 2 _ rfl
 rw [z1] at h2
 obtain ⟨a2,e2,q2⟩:=(opn_str _ _ _ _ _ n') n' [c2] y2 (by omega) rfl h2
 cases e0
 cases e1
 cases e2
 have hb:Rows.uptoBulk (DataW.agg (List.map (fun x:DataW H × List MemPlace=>x.1) [y0,y1,y2]))=Rows.uptoBulk y0.1+Rows.uptoBulk y1.1+Rows.uptoBulk y2.1+1:=by simp [Rows.uptoBulk,Rows.uptoBulkAll];try omega
 refine ⟨⟨a0,a1,a2⟩,rfl, ?_⟩
 rw [hb]
 exact ⟨q0,q1,by dsimp only;omega⟩
theorem opn_pair (m:Nat):Opn enc w base spare held 39 m 2 prE (fun p b=>p.1.size<=b/\p.2.size<=b):=by
 intro n cs y hn hl h
 obtain ⟨ys,n',rfl,rfl, -,hyl,hf⟩:=DataW.trod_struct Tryz.underlying39 h
 obtain ⟨c0,c1,rfl⟩:∃ c0 c1,cs=[c0,c1]:=by
  match cs,hl with
  | [c0,c1],_=>exact ⟨c0,c1,rfl⟩
 have hyn:ys.length=2:=hyl
 obtain ⟨y0,y1,rfl⟩:∃ y0 y1,ys=[y0,y1]:=by
  match ys,hyn with
  | [y0,y1],_=>exact ⟨y0,y1,rfl⟩
 have z0:Tryz.prog.cellsOf 9=1:=by kernel_rfl
 have h0:DataW.trod enc Tryz.prog w base spare held n' 9 (List.take (Tryz.prog.cellsOf 9) (List.drop 0 [c0,c1]))=some y0:=hf 0 _ rfl
 rw [z0] at h0
 obtain ⟨a0,e0,q0⟩:=(opn_str _ _ _ _ _ n') n' [c0] y0 (by omega) rfl h0
 have h1:DataW.trod enc Tryz.prog w base spare held n' 9 (List.take (Tryz.prog.cellsOf 9) (List.drop 1 [c0,c1]))=some y1:=hf 1 _ rfl
 rw [z0] at h1
 obtain ⟨a1,e1,q1⟩:=(opn_str _ _ _ _ _ n') n' [c1] y1 (by omega) rfl h1
 cases e0
 cases e1
 have hb:Rows.uptoBulk (DataW.agg (List.map (fun x:DataW H × List MemPlace=>x.1) [y0,y1]))=Rows.uptoBulk y0.1+Rows.uptoBulk y1.1+1:=by simp [Rows.uptoBulk,Rows.uptoBulkAll];try omega
 refine ⟨(a0,a1),rfl, ?_⟩
 rw [hb]
 exact ⟨by dsimp only;omega,by dsimp only;omega⟩
theorem opn_agg (m:Nat):Opn enc w base spare held 79 m 3 agE (fun a b=>a.op.size<=b/\a.col.size<=b/\a.name.size<=b):=by
 intro n cs y hn hl h
 obtain ⟨ys,n',rfl,rfl, -,hyl,hf⟩:=DataW.trod_struct Tryz.underlying79 h
 obtain ⟨c0,c1,c2,rfl⟩:∃ c0 c1 c2,cs=[c0,c1,c2]:=by
  match cs,hl with
  | [c0,c1,c2],_=>exact ⟨c0,c1,c2,rfl⟩
 have hyn:ys.length=3:=hyl
 obtain ⟨y0,y1,y2,rfl⟩:∃ y0 y1 y2,ys=[y0,y1,y2]:=by
  match ys,hyn with
  | [y0,y1,y2],_=>exact ⟨y0,y1,y2,rfl⟩
 have z0:Tryz.prog.cellsOf 9=1:=by kernel_rfl
 have h0:DataW.trod enc Tryz.prog w base spare held n' 9 (List.take (Tryz.prog.cellsOf 9) (List.drop 0 [c0,c1,c2]))=some y0:=hf 0 _ rfl
 rw [z0] at h0
 obtain ⟨a0,e0,q0⟩:=(opn_str _ _ _ _ _ n') n' [c0] y0 (by omega) rfl h0
 have h1:DataW.trod enc Tryz.prog w base spare held n' 9 (List.take (Tryz.prog.cellsOf 9) (List.drop 1 [c0,c1,c2]))=some y1:=hf 1 _ rfl
 rw [z0] at h1
 obtain ⟨a1,e1,q1⟩:=(opn_str _ _ _ _ _ n') n' [c1] y1 (by omega) rfl h1
 have h2:DataW.trod enc Tryz.prog w base spare held n' 9 (List.take (Tryz.prog.cellsOf 9) (List.drop 2 [c0,c1,c2]))=some y2:=hf 2 _ rfl
 rw [z0] at h2
 obtain ⟨a2,e2,q2⟩:=(opn_str _ _ _ _ _ n') n' [c2] y2 (by omega) rfl h2
 cases e0
 cases e1
 cases e2
 have hb:Rows.uptoBulk (DataW.agg (List.map (fun x:DataW H × List MemPlace=>x.1) [y0,y1,y2]))=Rows.uptoBulk y0.1+Rows.uptoBulk y1.1+Rows.uptoBulk y2.1+1:=by simp [Rows.uptoBulk,Rows.uptoBulkAll];try omega
 refine ⟨⟨a0,a1,a2⟩,rfl, ?_⟩
 rw [hb]
 exact ⟨by dsimp only;omega,by dsimp only;omega,by dsimp only;omega⟩
theorem opn_order (m:Nat):Opn enc w base spare held 94 m 2 odE (fun p b=>p.1.size<=b):=by
 intro n cs y hn hl h
 obtain ⟨ys,n',rfl,rfl, -,hyl,hf⟩:=DataW.trod_struct Tryz.underlying94 h
 obtain ⟨c0,c1,rfl⟩:∃ c0 c1,cs=[c0,c1]:=by
  match cs,hl with
  | [c0,c1],_=>exact ⟨c0,c1,rfl⟩
 have hyn:ys.length=2:=hyl
 obtain ⟨y0,y1,rfl⟩:∃ y0 y1,ys=[y0,y1]:=by
  match ys,hyn with
  | [y0,y1],_=>exact ⟨y0,y1,rfl⟩
 have z0:Tryz.prog.cellsOf 9=1:=by kernel_rfl
 have z1:Tryz.prog.cellsOf 4=1:=by kernel_rfl
 have h0:DataW.trod enc Tryz.prog w base spare held n' 9 (List.take (Tryz.prog.cellsOf 9) (List.drop 0 [c0,c1]))=some y0:=hf 0 _ rfl
 rw [z0] at h0
 obtain ⟨a0,e0,q0⟩:=(opn_str _ _ _ _ _ n') n' [c0] y0 (by omega) rfl h0
 have h1:DataW.trod enc Tryz.prog w base spare held n' 4 (List.take (Tryz.prog.cellsOf 4) (List.drop 1 [c0,c1]))=some y1:=hf 1 _ rfl
 rw [z1] at h1
 obtain ⟨a1,e1,q1⟩:=(opn_bool _ _ _ _ _ n') n' [c1] y1 (by omega) rfl h1
 cases e0
 cases e1
 have hb:Rows.uptoBulk (DataW.agg (List.map (fun x:DataW H × List MemPlace=>x.1) [y0,y1]))=Rows.uptoBulk y0.1+Rows.uptoBulk y1.1+1:=by simp [Rows.uptoBulk,Rows.uptoBulkAll];try omega
 refine ⟨(a0,a1),rfl, ?_⟩
 rw [hb]
 dsimp only;omega
def QX (w:World) (m:Nat) (x:XC) (b:Nat):Prop:=∃ e:TX m,ExP xcE anyB m w x e/\sizeX m e<=b/\(b<=1048576->allX (fun q=>q.Ok 1048576) m e)
theorem QX.args {m:Nat} {s:SL} {b:Nat} (h:SlQ w xcE (QX w m) s b):∃ es:List (TX m),s.n=es.length/\ArgsP xcE anyB m w s.A es/\(es.map (sizeX m)).sum < b/\(b<=1048576->∀ e∈es,allX (fun q=>q.Ok 1048576) m e):=by
 obtain ⟨l,bs,h1,h2,_,h4,h5,_,h7⟩:=h
 obtain ⟨es,g1,g2⟩:=list_choose (fun x b e=>ExP xcE anyB m w x e/\sizeX m e<=b/\(b<=1048576->allX (fun q=>q.Ok 1048576) m e)) l bs h4 h7
 refine ⟨es,by rw [h1,g1],⟨l,g1.symm,h2,fun i a b=>(g2 i a (by omega) b).1⟩,Nat.lt_of_le_of_lt (sum_le_of (sizeX m) es bs (by omega) fun i a b=>(g2 i (by omega) b a).2.1) h5,fun hb e he => ?_⟩
 obtain ⟨i,hi,rfl⟩:=List.mem_iff_getElem.1 he
 exact (g2 i (by omega) (by omega) hi).2.2 (by have:=mem_le_sum bs i (by omega);omega)
theorem opn_expr_step (m:Nat) (ih:Opn enc w base spare held 44 m 7 xcE (QX w m)):Opn enc w base spare held 44 (m+1) 7 xcE (QX w (m+1)):=by
 intro n cs y hn hl h
 obtain ⟨ys,n',rfl,rfl, -,hyl,hf⟩:=DataW.trod_struct Tryz.underlying44 h
 obtain ⟨c0,c1,c2,c3,c4,c5,c6,rfl⟩:∃ c0 c1 c2 c3 c4 c5 c6,cs=[c0,c1,c2,c3,c4,c5,c6]:=by
  match cs,hl with
  | [c0,c1,c2,c3,c4,c5,c6],_=>exact ⟨c0,c1,c2,c3,c4,c5,c6,rfl⟩
 have hyn:ys.length=5:=hyl
 obtain ⟨y0,y1,y2,y3,y4,rfl⟩:∃ y0 y1 y2 y3 y4,ys=[y0,y1,y2,y3,y4]:=by
  match ys,hyn with
  | [y0,y1,y2,y3,y4],_=>exact ⟨y0,y1,y2,y3,y4,rfl⟩
 have z0:Tryz.prog.cellsOf 3=1:=by kernel_rfl
 have z1:Tryz.prog.cellsOf 9=1:=by kernel_rfl
 have z2:Tryz.prog.cellsOf 31=3:=by kernel_rfl
 have z3:Tryz.prog.cellsOf 42=1:=by kernel_rfl
 have h0:DataW.trod enc Tryz.prog w base spare held n' 3 (List.take (Tryz.prog.cellsOf 3) (List.drop 0 [c0,c1,c2,c3,c4,c5,c6]))=some y0:=hf 0 _ rfl
 rw [z0] at h0
 obtain ⟨a0,e0,q0⟩:=(opn_int _ _ _ _ _ n') n' [c0] y0 (by omega) rfl h0
 have h1:DataW.trod enc Tryz.prog w base spare held n' 9 (List.take (Tryz.prog.cellsOf 9) (List.drop 1 [c0,c1,c2,c3,c4,c5,c6]))=some y1:=hf 1 _ rfl
 rw [z1] at h1
 obtain ⟨a1,e1,q1⟩:=(opn_str _ _ _ _ _ n') n' [c1] y1 (by omega) rfl h1
 have h2:DataW.trod enc Tryz.prog w base spare held n' 31 (List.take (Tryz.prog.cellsOf 31) (List.drop 2 [c0,c1,c2,c3,c4,c5,c6]))=some y2:=hf 2 _ rfl
 rw [z2] at h2
 obtain ⟨a2,e2,q2⟩:=(opn_val n') n' [c2,c3,c4] y2 (by omega) rfl h2
 have h3:DataW.trod enc Tryz.prog w base spare held n' 9 (List.take (Tryz.prog.cellsOf 9) (List.drop 5 [c0,c1,c2,c3,c4,c5,c6]))=some y3:=hf 3 _ rfl
 rw [z1] at h3
 obtain ⟨a3,e3,q3⟩:=(opn_str _ _ _ _ _ n') n' [c5] y3 (by omega) rfl h3
 have h4:DataW.trod enc Tryz.prog w base spare held n' 42 (List.take (Tryz.prog.cellsOf 42) (List.drop 6 [c0,c1,c2,c3,c4,c5,c6]))=some y4:=hf 4 _ rfl
 rw [z3] at h4
 obtain ⟨a4,e4,q4⟩:=((opn_slice Tryz.underlying42 (by kernel_rfl) (by omega) xcE_length ih).le (by omega:n'<=m+1)) n' [c6] y4 (by omega) rfl h4
 obtain ⟨v0,v1,v2⟩:=a2
 obtain ⟨A,k,c⟩:=a4
 cases e0
 cases e1
 cases e2
 cases e3
 cases e4
 have hb:Rows.uptoBulk (DataW.agg (List.map (fun x:DataW H × List MemPlace=>x.1) [y0,y1,y2,y3,y4]))=Rows.uptoBulk y0.1+Rows.uptoBulk y1.1+Rows.uptoBulk y2.1+Rows.uptoBulk y3.1+Rows.uptoBulk y4.1+1:=by simp [Rows.uptoBulk,Rows.uptoBulkAll];try omega
 refine ⟨⟨⟨a0,a1,⟨v0,v1,v2⟩,a3⟩,A,k,c⟩,rfl, ?_⟩
 rw [hb]
 obtain ⟨es,g1,g2,g3,g4⟩:=QX.args q4
 refine ⟨(⟨a0,a1,⟨v0,v1,v2⟩,a3⟩,es),⟨rfl,g1,fun _ _=>trivial,g2⟩, ?_,fun hb=>⟨⟨q0, ?_,⟨q2.k,q2.n, ?_⟩, ?_⟩,g4 (by omega)⟩⟩
 ·show 1+(es.map (sizeX m)).sum<=_
  omega
 ·dsimp only;omega
 ·have:=q2.t;dsimp only at this ⊢;omega
 ·dsimp only;omega
theorem opn_expr:∀ m,Opn enc w base spare held 44 m 7 xcE (QX w m)
 | 0=>fun n cs y hn hl h=>by
  obtain rfl:n=0:=by omega
  simp [DataW.trod] at h
 | m+1=>opn_expr_step m (opn_expr m)
theorem opn_exprs (m:Nat):Opn enc w base spare held 42 m 1 slE (SlQ w xcE (QX w m)):=(opn_slice Tryz.underlying42 (by kernel_rfl) (by omega) xcE_length (opn_expr m)).le (Nat.le_succ _)
theorem opn_strs (m:Nat):Opn enc w base spare held 45 m 1 slE (SlQ w btE (fun s b=>s.size<=b)):=(opn_slice Tryz.underlying45 (by kernel_rfl) (by omega) btE_length (opn_str _ _ _ _ _ m)).le (Nat.le_succ _)
theorem opn_pairs (m:Nat):Opn enc w base spare held 40 m 1 slE (SlQ w prE (fun p b=>p.1.size<=b/\p.2.size<=b)):=(opn_slice Tryz.underlying40 (by kernel_rfl) (by omega) prE_length (opn_pair m)).le (Nat.le_succ _)
theorem opn_aggs (m:Nat):Opn enc w base spare held 46 m 1 slE (SlQ w agE (fun a b=>a.op.size<=b/\a.col.size<=b/\a.name.size<=b)):=(opn_slice Tryz.underlying46 (by kernel_rfl) (by omega) agE_length (opn_agg m)).le (Nat.le_succ _)
theorem opn_orders (m:Nat):Opn enc w base spare held 47 m 1 slE (SlQ w odE (fun p b=>p.1.size<=b)):=(opn_slice Tryz.underlying47 (by kernel_rfl) (by omega) odE_length (opn_order m)).le (Nat.le_succ _)
theorem opn_cols (m:Nat):Opn enc w base spare held 24 m 1 slE (SlQ w cdE (fun c b=>c.name.size<=b/\wfI c.typ)):=(opn_slice Tryz.underlying24 (by kernel_rfl) (by omega) cdE_length (opn_col m)).le (Nat.le_succ _)
theorem opn_vals (m:Nat):Opn enc w base spare held 33 m 1 slE (SlQ w vdE (fun v b=>v.Ok b)):=(opn_slice Tryz.underlying33 (by kernel_rfl) (by omega) vdE_length (opn_val m)).le (Nat.le_succ _)
theorem opn_rows (m:Nat):Opn enc w base spare held 25 m 1 slE (SlQ w slE (SlQ w vdE (fun v b=>v.Ok b))):=(opn_slice Tryz.underlying25 (by kernel_rfl) (by omega) slE_length (opn_vals m)).le (Nat.le_succ _)
theorem opn_any {t e:TypeId} (ht:Tryz.prog.underlying t=some (.slice e)) (m:Nat):Opn enc w base spare held t m 1 slE (fun _ _=>True):=by
 intro n cs y _ _ h
 rcases DataW.trod_slice ht h with ⟨hcs,_⟩ | ⟨a,n,c,_,_,_,_,hcs,_⟩
 ·exact ⟨⟨none,0,0⟩,hcs.symm,trivial⟩
 ·exact ⟨⟨some a,n,c⟩,hcs.symm,trivial⟩
theorem SlQ.mem {α:Type} {E:α->List Value} {Q:α->Nat->Prop} {s:SL} {b:Nat} (h:SlQ w E Q s b):∃ l:List α,s.n=l.length/\RdK E w s.A l/\s.n<=s.c/\l.length<=b/\∀ x∈l,∃ k,k<=b/\Q x k:=by
 obtain ⟨l,bs,h1,h2,h3,h4,h5,h6,h7⟩:=h
 refine ⟨l,h1,h2,h3,by have:=len_le_bs bs h6;omega,fun x hx => ?_⟩
 obtain ⟨i,hi,rfl⟩:=List.mem_iff_getElem.1 hx
 exact ⟨_,by have:=mem_le_sum bs i (by omega);omega,h7 i hi (by omega)⟩
structure PD.In {m:Nat} (d:PD m):Prop where
 ok:d.Ok
 k:wfI d.kind
 nm:d.name.size<=1048576
 q:wfI d.count
 c:allX (fun q=>q.Ok 1048576) m d.cond
 x:∀ e∈d.exprs,allX (fun q=>q.Ok 1048576) m e
 n:∀ s∈d.names,s.size<=1048576
 o:∀ p∈d.on,p.1.size<=1048576/\p.2.size<=1048576
 a:∀ p∈d.aggs,p.op.size<=1048576/\p.col.size<=1048576/\p.name.size<=1048576
 b:∀ p∈d.by_,p.1.size<=1048576
def QP (w:World) (m:Nat) (x:PC) (b:Nat):Prop:=∃ d:PD m,PlanAt w x d/\(b<=1048576->d.In)
theorem opn_plan (m:Nat):Opn enc w base spare held 49 m 16 pcE (QP w m):=by
 intro n cs y hn hl h
 obtain ⟨ys,n',rfl,rfl, -,hyl,hf⟩:=DataW.trod_struct Tryz.underlying49 h
 obtain ⟨c0,c1,c2,c3,c4,c5,c6,c7,c8,c9,c10,c11,c12,c13,c14,c15,rfl⟩:∃ c0 c1 c2 c3 c4 c5 c6 c7 c8 c9 c10 c11 c12 c13 c14 c15,cs=[c0,c1,c2,c3,c4,c5,c6,c7,c8,c9,c10,c11,c12,c13,c14,c15]:=by
  match cs,hl with
  | [c0,c1,c2,c3,c4,c5,c6,c7,c8,c9,c10,c11,c12,c13,c14,c15],_=>exact ⟨c0,c1,c2,c3,c4,c5,c6,c7,c8,c9,c10,c11,c12,c13,c14,c15,rfl⟩
 have hyn:ys.length=10:=hyl
 obtain ⟨y0,y1,y2,y3,y4,y5,y6,y7,y8,y9,rfl⟩:∃ y0 y1 y2 y3 y4 y5 y6 y7 y8 y9,ys=[y0,y1,y2,y3,y4,y5,y6,y7,y8,y9]:=by
  match ys,hyn with
  | [y0,y1,y2,y3,y4,y5,y6,y7,y8,y9],_=>exact ⟨y0,y1,y2,y3,y4,y5,y6,y7,y8,y9,rfl⟩
 have z0:Tryz.prog.cellsOf 3=1:=by kernel_rfl
 have z1:Tryz.prog.cellsOf 9=1:=by kernel_rfl
 have z2:Tryz.prog.cellsOf 41=1:=by kernel_rfl
 have z3:Tryz.prog.cellsOf 44=7:=by kernel_rfl
 have z4:Tryz.prog.cellsOf 45=1:=by kernel_rfl
 have z5:Tryz.prog.cellsOf 42=1:=by kernel_rfl
 have z6:Tryz.prog.cellsOf 40=1:=by kernel_rfl
 have z7:Tryz.prog.cellsOf 46=1:=by kernel_rfl
 have z8:Tryz.prog.cellsOf 47=1:=by kernel_rfl
 have h0:DataW.trod enc Tryz.prog w base spare held n' 3 (List.take (Tryz.prog.cellsOf 3) (List.drop 0 [c0,c1,c2,c3,c4,c5,c6,c7,c8,c9,c10,c11,c12,c13,c14,c15]))=some y0:=hf 0 _ rfl
 rw [z0] at h0
 obtain ⟨a0,e0,q0⟩:=(opn_int _ _ _ _ _ n') n' [c0] y0 (by omega) rfl h0
 have h1:DataW.trod enc Tryz.prog w base spare held n' 9 (List.take (Tryz.prog.cellsOf 9) (List.drop 1 [c0,c1,c2,c3,c4,c5,c6,c7,c8,c9,c10,c11,c12,c13,c14,c15]))=some y1:=hf 1 _ rfl
 rw [z1] at h1
 obtain ⟨a1,e1,q1⟩:=(opn_str _ _ _ _ _ n') n' [c1] y1 (by omega) rfl h1
 have h2:DataW.trod enc Tryz.prog w base spare held n' 41 (List.take (Tryz.prog.cellsOf 41) (List.drop 2 [c0,c1,c2,c3,c4,c5,c6,c7,c8,c9,c10,c11,c12,c13,c14,c15]))=some y2:=hf 2 _ rfl
 rw [z2] at h2
 obtain ⟨a2,e2,q2⟩:=(opn_any Tryz.underlying41 n') n' [c2] y2 (by omega) rfl h2
 have h3:DataW.trod enc Tryz.prog w base spare held n' 44 (List.take (Tryz.prog.cellsOf 44) (List.drop 3 [c0,c1,c2,c3,c4,c5,c6,c7,c8,c9,c10,c11,c12,c13,c14,c15]))=some y3:=hf 3 _ rfl
 rw [z3] at h3
 obtain ⟨a3,e3,q3⟩:=((opn_expr m).le (by omega:n'<=m)) n' [c3,c4,c5,c6,c7,c8,c9] y3 (by omega) rfl h3
 have h4:DataW.trod enc Tryz.prog w base spare held n' 45 (List.take (Tryz.prog.cellsOf 45) (List.drop 10 [c0,c1,c2,c3,c4,c5,c6,c7,c8,c9,c10,c11,c12,c13,c14,c15]))=some y4:=hf 4 _ rfl
 rw [z4] at h4
 obtain ⟨a4,e4,q4⟩:=(opn_strs n') n' [c10] y4 (by omega) rfl h4
 have h5:DataW.trod enc Tryz.prog w base spare held n' 42 (List.take (Tryz.prog.cellsOf 42) (List.drop 11 [c0,c1,c2,c3,c4,c5,c6,c7,c8,c9,c10,c11,c12,c13,c14,c15]))=some y5:=hf 5 _ rfl
 rw [z5] at h5
 obtain ⟨a5,e5,q5⟩:=((opn_exprs m).le (by omega:n'<=m)) n' [c11] y5 (by omega) rfl h5
 have h6:DataW.trod enc Tryz.prog w base spare held n' 40 (List.take (Tryz.prog.cellsOf 40) (List.drop 12 [c0,c1,c2,c3,c4,c5,c6,c7,c8,c9,c10,c11,c12,c13,c14,c15]))=some y6:=hf 6 _ rfl
 rw [z6] at h6
 obtain ⟨a6,e6,q6⟩:=(opn_pairs n') n' [c12] y6 (by omega) rfl h6
 have h7:DataW.trod enc Tryz.prog w base spare held n' 46 (List.take (Tryz.prog.cellsOf 46) (List.drop 13 [c0,c1,c2,c3,c4,c5,c6,c7,c8,c9,c10,c11,c12,c13,c14,c15]))=some y7:=hf 7 _ rfl
 rw [z7] at h7
 obtain ⟨a7,e7,q7⟩:=(opn_aggs n') n' [c13] y7 (by omega) rfl h7
 have h8:DataW.trod enc Tryz.prog w base spare held n' 47 (List.take (Tryz.prog.cellsOf 47) (List.drop 14 [c0,c1,c2,c3,c4,c5,c6,c7,c8,c9,c10,c11,c12,c13,c14,c15]))=some y8:=hf 8 _ rfl
 rw [z8] at h8
 obtain ⟨a8,e8,q8⟩:=(opn_orders n') n' [c14] y8 (by omega) rfl h8
 have h9:DataW.trod enc Tryz.prog w base spare held n' 3 (List.take (Tryz.prog.cellsOf 3) (List.drop 15 [c0,c1,c2,c3,c4,c5,c6,c7,c8,c9,c10,c11,c12,c13,c14,c15]))=some y9:=hf 9 _ rfl
 rw [z0] at h9
 obtain ⟨a9,e9,q9⟩:=(opn_int _ _ _ _ _ n') n' [c15] y9 (by omega) rfl h9
 obtain ⟨A2,n2,c2'⟩:=a2
 obtain ⟨⟨ck,cn,⟨cvk,cvn,cvt⟩,cop⟩,CA,cnn,cc⟩:=a3
 obtain ⟨NA,nn,nc⟩:=a4
 obtain ⟨EA,en,ec⟩:=a5
 obtain ⟨OA,ol,oc⟩:=a6
 obtain ⟨GA,gn,gc⟩:=a7
 obtain ⟨BA,bn,bc⟩:=a8
 cases e0
 cases e1
 cases e2
 cases e3
 cases e4
 cases e5
 cases e6
 cases e7
 cases e8
 cases e9
 have hb:Rows.uptoBulk (DataW.agg (List.map (fun x:DataW H × List MemPlace=>x.1) [y0,y1,y2,y3,y4,y5,y6,y7,y8,y9]))=Rows.uptoBulk y0.1+Rows.uptoBulk y1.1+Rows.uptoBulk y2.1+Rows.uptoBulk y3.1+Rows.uptoBulk y4.1+Rows.uptoBulk y5.1+Rows.uptoBulk y6.1+Rows.uptoBulk y7.1+Rows.uptoBulk y8.1+Rows.uptoBulk y9.1+1:=by simp [Rows.uptoBulk,Rows.uptoBulkAll];try omega
 refine ⟨⟨a0,a1,⟨A2,n2,c2'⟩,⟨⟨ck,cn,⟨cvk,cvn,cvt⟩,cop⟩,CA,cnn,cc⟩,⟨NA,nn,nc⟩,⟨EA,en,ec⟩,⟨OA,ol,oc⟩,⟨GA,gn,gc⟩,⟨BA,bn,bc⟩,a9⟩,rfl, ?_⟩
 rw [hb]
 obtain ⟨ce,x1,x2,x3⟩:=q3
 obtain ⟨ns,n1,n2', -,n4,n5⟩:=q4.mem
 obtain ⟨es,g1,g2,g3,g4⟩:=QX.args q5
 obtain ⟨os,o1,o2, -,o4,o5⟩:=q6.mem
 obtain ⟨gs,r1,r2, -,r4,r5⟩:=q7.mem
 obtain ⟨bs,b1,b2, -,b4,b5⟩:=q8.mem
 refine ⟨⟨a0,a1,ce,ns,es,os,gs,bs,a9⟩,⟨rfl,rfl,x1,n1,n2',g1,g2,o1,o2,r1,r2,b1,b2,rfl⟩,fun hb => ?_⟩
 have hge:es.length<=(es.map (sizeX m)).sum:=len_le_sum m es
 refine ⟨⟨fun e he => ?_, ?_, ?_, ?_, ?_, ?_, ?_⟩,q0, ?_,q9,x3 (by omega),g4 (by omega),fun s hs => ?_,fun p hp => ?_,fun p hp => ?_,fun p hp => ?_⟩
 ·have:sizeX m e<=(es.map (sizeX m)).sum:=size_mem he
  omega
 ·dsimp only;omega
 ·dsimp only;omega
 ·dsimp only;omega
 ·dsimp only;omega
 ·dsimp only;omega
 ·dsimp only;omega
 ·dsimp only;omega
 ·obtain ⟨k,hk,hq⟩:=n5 s hs;omega
 ·obtain ⟨k,hk,hq⟩:=o5 p hp;omega
 ·obtain ⟨k,hk,hq⟩:=r5 p hp;omega
 ·obtain ⟨k,hk,hq⟩:=b5 p hp;omega
structure TbIn (cs:List CD) (rows:List (List VD)):Prop where
 n:cs.length<=1048576
 m:rows.length<=1048576
 c:∀ c∈cs,c.name.size<=1048576/\wfI c.typ
 r:∀ r∈rows,r.length<=1048576/\∀ v∈r,v.Ok 1048576
def QT (w:World) (x:SL × SL) (b:Nat):Prop:=∃ cs rows,TabAt w x.1 x.2 cs rows/\(b<=1048576->TbIn cs rows)
theorem VD.Ok.le {v:VD} {m n:Nat} (h:v.Ok m) (hm:m<=n):v.Ok n:=⟨h.k,h.n,Nat.le_trans h.t hm⟩
theorem SlQ.rows {s:SL} {b:Nat} (h:SlQ w slE (SlQ w vdE (fun v b=>v.Ok b)) s b):∃ rows:List (List VD),s.n=rows.length/\RowsAt w s.A rows/\rows.length<=b/\∀ r∈rows,r.length<=b/\∀ v∈r,v.Ok b:=by
 obtain ⟨l,bs,h1,h2,h3,h4,h5,h6,h7⟩:=h
 obtain ⟨es,g1,g2⟩:=list_choose (fun (x:SL) b (r:List VD)=>x.n=r.length/\ValsAt w x.A r/\r.length<=b/\∀ v∈r,v.Ok b) l bs h4 fun i a b=>by
  obtain ⟨r,r1,r2,_,r4,r5⟩:=(h7 i a b).mem
  exact ⟨r,r1,r2,r4,fun v hv=>by obtain ⟨k,hk,hq⟩:=r5 v hv;exact hq.le hk⟩
 refine ⟨es,by rw [h1,g1],⟨l,⟨g1.symm,fun i a b=>⟨(g2 i a (by omega) b).1,(g2 i a (by omega) b).2.1⟩⟩,h2⟩,by have:=len_le_bs bs h6;omega,fun r hr => ?_⟩
 obtain ⟨i,hi,rfl⟩:=List.mem_iff_getElem.1 hr
 have hi2:i < bs.length:=by omega
 have:=mem_le_sum bs i hi2
 exact ⟨by have:=(g2 i (by omega) hi2 hi).2.2.1;omega,fun v hv=>((g2 i (by omega) hi2 hi).2.2.2 v hv).le (by omega)⟩
theorem opn_tab (m:Nat):Opn enc w base spare held 27 m 2 tbE (QT w):=by
 intro n cs y hn hl h
 obtain ⟨ys,n',rfl,rfl, -,hyl,hf⟩:=DataW.trod_struct Tryz.underlying27 h
 obtain ⟨c0,c1,rfl⟩:∃ c0 c1,cs=[c0,c1]:=by
  match cs,hl with
  | [c0,c1],_=>exact ⟨c0,c1,rfl⟩
 have hyn:ys.length=2:=hyl
 obtain ⟨y0,y1,rfl⟩:∃ y0 y1,ys=[y0,y1]:=by
  match ys,hyn with
  | [y0,y1],_=>exact ⟨y0,y1,rfl⟩
 have z0:Tryz.prog.cellsOf 24=1:=by kernel_rfl
 have z1:Tryz.prog.cellsOf 25=1:=by kernel_rfl
 have h0:DataW.trod enc Tryz.prog w base spare held n' 24 (List.take (Tryz.prog.cellsOf 24) (List.drop 0 [c0,c1]))=some y0:=hf 0 _ rfl
 rw [z0] at h0
 obtain ⟨a0,e0,q0⟩:=(opn_cols n') n' [c0] y0 (by omega) rfl h0
 have h1:DataW.trod enc Tryz.prog w base spare held n' 25 (List.take (Tryz.prog.cellsOf 25) (List.drop 1 [c0,c1]))=some y1:=hf 1 _ rfl
 rw [z1] at h1
 obtain ⟨a1,e1,q1⟩:=(opn_rows n') n' [c1] y1 (by omega) rfl h1
 obtain ⟨A,k,c⟩:=a0
 obtain ⟨B,k2,c2⟩:=a1
 cases e0
 cases e1
 have hb:Rows.uptoBulk (DataW.agg (List.map (fun x:DataW H × List MemPlace=>x.1) [y0,y1]))=Rows.uptoBulk y0.1+Rows.uptoBulk y1.1+1:=by simp [Rows.uptoBulk,Rows.uptoBulkAll];try omega
 refine ⟨(⟨A,k,c⟩,⟨B,k2,c2⟩),rfl, ?_⟩
 rw [hb]
 obtain ⟨cs,n1,n2,n3,n4,n5⟩:=q0.mem
 obtain ⟨rows,r1,r2,r3,r4⟩:=q1.rows
 refine ⟨cs,rows,⟨n1,n3,n2,r1,r2⟩,fun hb=>⟨by omega,by omega,fun c hc => ?_,fun r hr=>⟨by have:=(r4 r hr).1;omega,fun v hv=>((r4 r hr).2 v hv).le (by omega)⟩⟩⟩
 obtain ⟨k,hk,hq⟩:=n5 c hc
 exact ⟨by omega,hq.2⟩
def stE (x:PC × (SL × SL) × (SL × SL)):List Value:=pcE x.1++(tbE x.2.1++tbE x.2.2)
def QS (w:World) (m:Nat) (x:PC × (SL × SL) × (SL × SL)) (b:Nat):Prop:=∃ (d:PD m) (a c:List CD) (ra rc:List (List VD)),PlanAt w x.1 d/\TabAt w x.2.1.1 x.2.1.2 a ra/\TabAt w x.2.2.1 x.2.2.2 c rc/\(b<=1048576->d.In/\TbIn a ra/\TbIn c rc)
theorem opn_step (m:Nat):Opn enc w base spare held 55 m 20 stE (QS w m):=by
 intro n cs y hn hl h
 obtain ⟨ys,n',rfl,rfl, -,hyl,hf⟩:=DataW.trod_struct Tryz.underlying55 h
 obtain ⟨c0,c1,c2,c3,c4,c5,c6,c7,c8,c9,c10,c11,c12,c13,c14,c15,c16,c17,c18,c19,rfl⟩:∃ c0 c1 c2 c3 c4 c5 c6 c7 c8 c9 c10 c11 c12 c13 c14 c15 c16 c17 c18 c19,cs=[c0,c1,c2,c3,c4,c5,c6,c7,c8,c9,c10,c11,c12,c13,c14,c15,c16,c17,c18,c19]:=by
  match cs,hl with
  | [c0,c1,c2,c3,c4,c5,c6,c7,c8,c9,c10,c11,c12,c13,c14,c15,c16,c17,c18,c19],_=>exact ⟨c0,c1,c2,c3,c4,c5,c6,c7,c8,c9,c10,c11,c12,c13,c14,c15,c16,c17,c18,c19,rfl⟩
 have hyn:ys.length=3:=hyl
 obtain ⟨y0,y1,y2,rfl⟩:∃ y0 y1 y2,ys=[y0,y1,y2]:=by
  match ys,hyn with
  | [y0,y1,y2],_=>exact ⟨y0,y1,y2,rfl⟩
 have z0:Tryz.prog.cellsOf 49=16:=by kernel_rfl
 have z1:Tryz.prog.cellsOf 27=2:=by kernel_rfl
 have h0:DataW.trod enc Tryz.prog w base spare held n' 49 (List.take (Tryz.prog.cellsOf 49) (List.drop 0 [c0,c1,c2,c3,c4,c5,c6,c7,c8,c9,c10,c11,c12,c13,c14,c15,c16,c17,c18,c19]))=some y0:=hf 0 _ rfl
 rw [z0] at h0
 obtain ⟨a0,e0,q0⟩:=((opn_plan m).le (by omega:n'<=m)) n' [c0,c1,c2,c3,c4,c5,c6,c7,c8,c9,c10,c11,c12,c13,c14,c15] y0 (by omega) rfl h0
 have h1:DataW.trod enc Tryz.prog w base spare held n' 27 (List.take (Tryz.prog.cellsOf 27) (List.drop 16 [c0,c1,c2,c3,c4,c5,c6,c7,c8,c9,c10,c11,c12,c13,c14,c15,c16,c17,c18,c19]))=some y1:=hf 1 _ rfl
 rw [z1] at h1
 obtain ⟨a1,e1,q1⟩:=(opn_tab n') n' [c16,c17] y1 (by omega) rfl h1
 have h2:DataW.trod enc Tryz.prog w base spare held n' 27 (List.take (Tryz.prog.cellsOf 27) (List.drop 18 [c0,c1,c2,c3,c4,c5,c6,c7,c8,c9,c10,c11,c12,c13,c14,c15,c16,c17,c18,c19]))=some y2:=hf 2 _ rfl
 rw [z1] at h2
 obtain ⟨a2,e2,q2⟩:=(opn_tab n') n' [c18,c19] y2 (by omega) rfl h2
 obtain ⟨k0,k1,⟨A2,n2,c2'⟩,⟨⟨ck,cn,⟨cvk,cvn,cvt⟩,cop⟩,CA,cnn,cc⟩,⟨NA,nn,nc⟩,⟨EA,en,ec⟩,⟨OA,ol,oc⟩,⟨GA,gn,gc⟩,⟨BA,bn,bc⟩,count⟩:=a0
 obtain ⟨⟨A,k,c⟩,⟨B,k2,c2⟩⟩:=a1
 obtain ⟨⟨A',k',c'⟩,⟨B',k2',c2''⟩⟩:=a2
 cases e0
 cases e1
 cases e2
 have hb:Rows.uptoBulk (DataW.agg (List.map (fun x:DataW H × List MemPlace=>x.1) [y0,y1,y2]))=Rows.uptoBulk y0.1+Rows.uptoBulk y1.1+Rows.uptoBulk y2.1+1:=by simp [Rows.uptoBulk,Rows.uptoBulkAll];try omega
 refine ⟨(⟨k0,k1,⟨A2,n2,c2'⟩,⟨⟨ck,cn,⟨cvk,cvn,cvt⟩,cop⟩,CA,cnn,cc⟩,⟨NA,nn,nc⟩,⟨EA,en,ec⟩,⟨OA,ol,oc⟩,⟨GA,gn,gc⟩,⟨BA,bn,bc⟩,count⟩,(⟨A,k,c⟩,⟨B,k2,c2⟩),(⟨A',k',c'⟩,⟨B',k2',c2''⟩)),rfl, ?_⟩
 rw [hb]
 obtain ⟨d,d1,d2⟩:=q0
 obtain ⟨a,ra,t1,t2⟩:=q1
 obtain ⟨b,rb,u1,u2⟩:=q2
 exact ⟨d,a,b,ra,rb,d1,t1,u1,fun hb=>⟨d2 (by omega),t2 (by omega),u2 (by omega)⟩⟩
theorem open_of {t:TypeId} {fs:Array Field} {C:Nat} {α:Type} {E:α->List Value} {Q:Nat->α->Nat->Prop} (ht:Tryz.prog.underlying t=some (.struct fs)) (hC:Tryz.prog.cellsOf t=C) (ho:∀ m,Opn enc w base spare held t m C E (Q m))
  {v:Value} {r:Go.Reach} {b0:Nat} {d:DataW H} {p:List MemPlace} (hv:Value.okWide Tryz.prog w r b0 t v) (h:DataW.Trod enc Tryz.prog w base spare held t v d p):∃ (m:Nat) (a:α),v=.agg (E a).toArray/\Q m a (Rows.uptoBulk d):=by
 obtain ⟨cs,rfl,hsz⟩:=okWide_struct ht hv
 obtain ⟨m,hm⟩:=h
 rw [hC] at hsz
 obtain ⟨a,h1,h2⟩:=ho m m cs.toList (d,p) (Nat.le_refl _) (by simpa using hsz) hm
 exact ⟨m,a,by rw [h1],h2⟩
theorem open_step {v:Value} {r:Go.Reach} {b0:Nat} {d:DataW H} {p:List MemPlace} (hv:Value.okWide Tryz.prog w r b0 55 v) (h:DataW.Trod enc Tryz.prog w base spare held 55 v d p) :
  ∃ (m:Nat) (x:PC × (SL × SL) × (SL × SL)),v=.agg (stE x).toArray/\QS w m x (Rows.uptoBulk d):=open_of Tryz.underlying55 (by kernel_rfl) opn_step hv h
end
end
section
open Go.RowKit
theorem rangeAt_blk {w:World} {g:Nat} {l:List Value} {t:TypeId} (h:w.heap[g]?=some (.cells l.toArray t (0,0))):w.rangeAt g 0 l:=fun j v hj=>by
 rw [Nat.zero_add]
 exact cell_blk h (by simpa using hj)
theorem TbIn.tb {cs:List CD} {rows:List (List VD)} (h:TbIn cs rows) (hs:smallT cs rows=true):TbOk cs rows:=by
 obtain ⟨h1,h2,h3,h4⟩:=smallT_true hs
 exact ⟨h3,h4,h.c,fun r hr=>⟨(h2 r hr).1,(h.r r hr).2⟩⟩
end
section
open Go.RowKit
theorem eq1_any (A B:Option Addr) (c1 c2 n m:Nat) (l r:List VD) (hn:l.length=n) (hm:r.length=m) (w:World) (h:ValsAt w A l) (h2:ValsAt w B r) (hl:n<=140737000000000) (hl2:m<=140737000000000) :
  Calls Tryz.prog 53 #[.slice A n c1,.slice B m c2] w fun e w'=>e=.returned (.bool (eqVs l r))/\Touch [] w w':=by
 have Hcf:=lh (equalV_any A B c1 c2 n m l r hn hm w h h2 hl hl2)
 go_enter Tryz.func53,Tryz.ntmps53
 go_wp2_with fail
 refine Hcf.out.mono ?_
 rintro e w1 ⟨rfl,t1⟩
 go_wp2
 go_ret
 exact ⟨rfl,t1⟩
theorem equalFunc_same (A B:Option Addr) (c1 c2 n:Nat) (rows:List (List VD)) (hn:rows.length=n) (hr:∀ r∈rows,r.length<=140737000000000) (w:World) (h:RowsAt w A rows) (h2:RowsAt w B rows) (hl:n<=140737000000000) :
  Calls Tryz.prog 52 #[.slice A n c1,.slice B n c2,.func (.func 53) #[] #[]] w fun e w'=>e=.returned (.bool true)/\Touch [] w w':=by
 subst hn
 have hnb:((rows.length:Int) != (rows.length:Int))=false:=by simp
 go_enter Tryz.func52,Tryz.ntmps52
 go_wp2
 clear hnb
 go_loopw [17] (fun i wr=>∃ k:Nat,k<=rows.length/\i=.int .i64 k/\Touch [] w wr) (fun i _=>rows.length-(intOf i).toNat)
 case atStart=>exact ⟨0,by omega,rfl,Touch.refl _ _⟩
 case round =>
  obtain ⟨k,hk,rfl,ht⟩:=hrel
  by_cases hlt:k < rows.length
  ·obtain ⟨ad,A1,d1,rfl,e0,hv1⟩:=(h.touch0 ht).at_ k hlt
   obtain ⟨bd,B1,d2,rfl,e1,hv2⟩:=(h2.touch0 ht).at_ k hlt
   have hrl:=hr _ (List.getElem_mem hlt)
   obtain ⟨r,hre⟩:∃ r,r=rows[k]:=⟨_,rfl⟩
   rw [<- hre] at e0 e1 hv1 hv2 hrl
   have hf:=eq1_any A1 B1 d1 d2 r.length r.length r r rfl rfl wr hv1 hv2 hrl hrl
   rw [(eqVs_iff _ _).2 rfl] at hf
   have Hf:=lh hf
   have hkI:(k:Int) < (rows.length:Int):=by omega
   clear hf hre
   go_wp2_with fail
   refine Hf.out.mono ?_
   rintro e w1 ⟨rfl,t1⟩
   go_wp2
   go_roundw
   case rel=>exact ⟨k+1,by omega,by go_num,ht.trans0 t1⟩
   case measure=>simp [intOf];omega
  ·obtain rfl:k=rows.length:=by omega
   go_wp2
   go_ret
   exact ⟨rfl,ht⟩
theorem tabEqual_same (A1 B1 A2 B2:Option Addr) (c1 d1 c2 d2 n m:Nat) (cs:List CD) (rows:List (List VD)) (hn:cs.length=n) (hm:rows.length=m) (hr:∀ r∈rows,r.length<=140737000000000) (w:World)
  (h1:ColsAt w A1 cs) (h2:ColsAt w A2 cs) (g1:RowsAt w B1 rows) (g2:RowsAt w B2 rows) (hl:n<=140737000000000) (hl2:m<=140737000000000) :
  Calls Tryz.prog 24 #[.agg #[.slice A1 n c1,.slice B1 m d1],.agg #[.slice A2 n c2,.slice B2 m d2]] w fun e w'=>e=.returned (.bool true)/\Touch [] w w':=by
 have t0:=((Touch.refl [] w).alloc (.cells #[.slice A1 n c1,.slice B1 m d1] 27)).alloc (.cells #[.slice A2 n c2,.slice B2 m d2] 27)
 have hb1:=((Touch.refl [] (w.alloc (.cells #[.slice A1 n c1,.slice B1 m d1] 27))).alloc (.cells #[.slice A2 n c2,.slice B2 m d2] 27)).blk (heap_alloc_new w (.cells #[.slice A1 n c1,.slice B1 m d1] 27)) (by simp)
 have hb2:=heap_alloc_new (w.alloc (.cells #[.slice A1 n c1,.slice B1 m d1] 27)) (.cells #[.slice A2 n c2,.slice B2 m d2] 27)
 rw [World.size_alloc] at hb2
 have he:=schEqual_any A1 A2 c1 c2 n n cs cs hn hn _ (h1.touch0 t0) (h2.touch0 t0) hl hl
 rw [(eqCs_iff _ _).2 rfl] at he
 have He:=lh he
 have Hf:=lh fun w' (t:Touch [] w w')=>equalFunc_same B1 B2 d1 d2 m rows hm hr w' (g1.touch0 t) (g2.touch0 t) hl2
 have Hb1:=lh hb1;have Hb2:=lh hb2
 clear he hb1 hb2
 go_enter Tryz.func24,Tryz.ntmps24
 go_wp2_with fail
 refine He.out.mono ?_
 rintro e w1 ⟨rfl,t1⟩
 have x1:=t1.cell (cell_blk Hb1.out (i:=1) (v:=.slice B1 m d1) rfl) (by simp)
 have x2:=t1.cell (cell_blk Hb2.out (i:=1) (v:=.slice B2 m d2) rfl) (by simp)
 go_wp2_with fail
 refine (Hf.out _ (t0.trans0 t1)).mono ?_
 rintro e w2 ⟨rfl,t2⟩
 go_wp2
 go_ret
 exact ⟨rfl,(t0.trans0 t1).trans0 t2⟩
end
section
open Go.RowKit
theorem small_at {w:World} {s r:SL} {cs:List CD} {rows:List (List VD)} (hX:TabAt w s r cs rows) (ht:TbIn cs rows):Calls Tryz.prog 13 #[.agg #[.slice s.A s.n s.c,.slice r.A r.n r.c]] w fun e w'=>e=.returned (.bool (smallT cs rows))/\Touch [] w w' :=
 smallTable_any s.A r.A s.c r.c s.n r.n cs rows hX.n.symm hX.m.symm ⟨by have:=ht.n;have:=hX.n;omega,fun c hc=>⟨by have:=(ht.c c hc).1;omega,(ht.c c hc).2⟩⟩ ⟨by have:=ht.m;have:=hX.m;omega,fun r hr=>⟨by have:=(ht.r r hr).1;omega,fun v hv=>((ht.r r hr).2 v hv).le' (by omega)⟩⟩ w hX.cols hX.rws
theorem blkz20 {w:World} {g:Nat} {a0 a1 a2 a3 a4 a5 a6 a7 a8 a9 a10 a11 a12 a13 a14 a15 a16 a17 a18 a19:Value} {t:TypeId} (h:w.heap[g]?=some (.cells #[a0,a1,a2,a3,a4,a5,a6,a7,a8,a9,a10,a11,a12,a13,a14,a15,a16,a17,a18,a19] t (0,0))):w.cell? ⟨g,0,none⟩=some a0/\w.cell? ⟨g,1,none⟩=some a1/\w.cell? ⟨g,2,none⟩=some a2/\w.cell? ⟨g,3,none⟩=some a3/\w.cell? ⟨g,4,none⟩=some a4/\w.cell? ⟨g,5,none⟩=some a5/\w.cell? ⟨g,6,none⟩=some a6/\w.cell? ⟨g,7,none⟩=some a7/\w.cell? ⟨g,8,none⟩=some a8/\w.cell? ⟨g,9,none⟩=some a9/\w.cell? ⟨g,10,none⟩=some a10/\w.cell? ⟨g,11,none⟩=some a11/\w.cell? ⟨g,12,none⟩=some a12/\w.cell? ⟨g,13,none⟩=some a13/\w.cell? ⟨g,14,none⟩=some a14/\w.cell? ⟨g,15,none⟩=some a15/\w.cell? ⟨g,16,none⟩=some a16/\w.cell? ⟨g,17,none⟩=some a17/\w.cell? ⟨g,18,none⟩=some a18/\w.cell? ⟨g,19,none⟩=some a19 :=
 ⟨cell_blk h rfl,cell_blk h rfl,cell_blk h rfl,cell_blk h rfl,cell_blk h rfl,cell_blk h rfl,cell_blk h rfl,cell_blk h rfl,cell_blk h rfl,cell_blk h rfl,cell_blk h rfl,cell_blk h rfl,cell_blk h rfl,cell_blk h rfl,cell_blk h rfl,cell_blk h rfl,cell_blk h rfl,cell_blk h rfl,cell_blk h rfl,cell_blk h rfl⟩
theorem PD.In.fine5 {m:Nat} {d:PD m} (h:d.In) (hs:d.Small):d.Fine:=⟨hs,h.k,h.q,h.c,h.x,h.n,h.a⟩
end
end Go.Proofs.YtafoklilkdnepaaGreatDoor
