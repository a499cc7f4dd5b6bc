/- Part 26 of the texts of this proof, one behind the other. No condition beyond those that its theorems state. -/
import Derived.Test.YtafoklilkdnepaaGreatDoorRe25
set_option linter.all false
set_option maxRecDepth 40000
set_option maxHeartbeats 25600000
namespace Go.Proofs.YtafoklilkdnepaaGreatDoor
section
open Go.RowKit
def iT(w:World):Prop:=Lib.TabIs Tryz.prog w "internal/strconv.uint64pow10" .u64 Lib.pow10Tab
theorem iT.touch0{w w':World}(h:iT w)(t:Touch [] w w'):iT w':=by
 unfold iT Lib.TabIs World.var? at h ⊢;cases hg:Tryz.prog.globalNamed "internal/strconv.uint64pow10" with
 |none=>rw[hg] at h;cases h
 |some g =>
  rw[hg] at h
  simp only[Option.bind_some] at h ⊢
  cases hh:w.heap[g]? with
  |none=>rw[hh] at h;cases h
  |some o=>rw[t.blk hh (by simp)];rw[hh] at h;exact h
theorem Touch.of_grow{w:World}(k:Nat)(os:Array Obj):Touch [] w (Go.Sort.grow (w.drewN k) os):=by
 refine⟨rfl,rfl,rfl, ?_,λj hj _=> ?_⟩
 ·show w.heap.size<=(w.heap++os).size;rw[de];omega
 exact Array.getElem?_append_left hj
def jH(s:List UInt8):List UInt8:=s.flatMap (λc=>if c=34\/c=92 then [92,c] else [c])
theorem zU(s:List UInt8)(c:UInt8):jH (s++[c])=jH s++(if c=34\/c=92 then [92,c] else [c]):=by unfold jH;simp
theorem Es(s:List UInt8):(jH s).length<=2*s.length:=by have:=yf s;unfold jU at this;rw[bK,az,dB] at this;unfold jH;omega
theorem zD(t:List UInt8)(hs:t.length<=1000000)(w:World): Calls Tryz.prog 194 #[.string (S t)] w λe w'=>e=.returned (.string (S (jU t)))/\Touch [] w w':=by
 obtain⟨W1,hW1⟩:∃W1,W1=w.alloc (.cells #[.int .u8 34] 5):=⟨_,rfl⟩;have t1:Touch [] w W1:=hW1 ▸ (Touch.refl [] w).alloc _;have ho1:ii W1 (some ⟨w.heap.size,0,none⟩) 1 [34]:=hW1 ▸ ii.new w [34] (by simp[maxLen]);have hs1:W1.heap.size=w.heap.size+1:=by rw[hW1];simp
 have hconv:=mP t W1;have hsz:=ji t;have hr:=rr W1 t;have ht:=nP W1 t;obtain⟨W,hW⟩:∃W,W=Lib.bytesWorld W1 5 (S t):=⟨_,rfl⟩;rw[<- hW] at hconv hr ht;have HO1:=lh (ho1.touch0 ht);have HT1:=Gc t1 ht hs1;have HR:=lh hr;have HW1:=lh hW1;clear hW hW1 ho1 t1 ht hr;go_enter Tryz.func194,Tryz.ntmps194;go_upto_region 2 with fail;rw[<- HW1.o];clear hs1;go_wp2_with fail;clear hconv;go_loopw [3,10] (λo i wr=>∃(k m:Nat)(B:Option Addr)(c:Nat),k<=t.length/\i=.int .i64 k/\o=.slice B m c/\Ga ((34:: jH (t.take k)).length=m)/\Ga (ii wr B c (34:: jH (t.take k)))/\Ga (∀b∈ed B,b=w.heap.size\/W.heap.size<=b)/\Ga (Touch [w.heap.size] W wr)) (λ_ i _=>t.length-(intOf i).toNat)
 case atStart=>exact⟨0,1,_,1,by omega,rfl,rfl,lh (by simp[jH]),lh HO1.o,lh (by simp[ed]),lh (Touch.refl _ _)⟩
 case round =>
 obtain⟨k,m,B,c,hk,rfl,rfl,HM,HO,HF,HT⟩:=hrel;have hmb:m<=2*k+1:=by have h1:=HM.o;have h2:=Es (t.take k);rw[bK] at h1;rw[aO] at h2;omega
 by_cases hlt:k<t.length
 ·have hrr:mo wr (some ⟨W1.heap.size,0,none⟩) t:=Rd.touch HR.o HT.o (by simp[ed,HT1.o.2.2]);obtain⟨ad,e1,hcell⟩:=hrr.at_ k hlt;obtain rfl:⟨W1.heap.size,0,none⟩=ad:=by injection e1
  obtain⟨x,hx⟩:∃x,x=t[k]:=⟨_,rfl⟩;have hadd:(⟨W1.heap.size,0,none⟩:Addr).add k=⟨W1.heap.size,k,none⟩:=by unfold Addr.add;split<;>simp_all
  have htk:=au hlt;rw[<- hx] at hcell htk;rw[hadd] at hcell;have hxl:=x.toNat_lt;have hnx:jH (t.take (k+1))=jH (t.take k)++(if x=34\/x=92 then [92,x] else [x]):=by rw[htk,zU]
  have Hnx:=lh hnx;clear hnx htk hx e1 hadd;by_cases hq:x=34\/x=92
  ·have Hn2:=lh (show 34:: jH (t.take (k+1))=34:: jH (t.take k)++[92]++[x] by rw[Hnx.o,ae hq];simp);have hq':((x.toNat:Int)==34)=true/\True\/((x.toNat:Int)==34)=false/\((x.toNat:Int)==92)=true:=by
    rcases hq with rfl|rfl
    ·exact .inl ⟨rfl,trivial⟩
    exact .inr ⟨rfl,rfl⟩
   clear hq;rcases hq' with ⟨hq1,hq2⟩|⟨hq1,hq2⟩<;>go_wp2_with (at_builtin;refine ez ?_);all_goals
   refine go ?_;refine lU rfl (.tmp 20) (.tmp 21) rfl B m c (34:: jH (t.take k)) HM.o rfl (HO.o.touch0 ((Touch.refl [] wr).alloc _)) (some ⟨wr.heap.size,0,none⟩) 1 1 [92] rfl rfl (mo.one' wr 92 rfl) (by omega) ?_;intro B2 c2 w2 ho2 ht2 hf2;rw[ao] at hf2;have hl2:(34:: jH (t.take k)++[92]).length=m+1:=by rw[az,HM.o];rfl
   have H2:=Gd ho2 ht2 hf2 hl2;clear ho2 ht2 hf2 hl2;go_wp2_with (at_builtin;refine ez ?_);refine go ?_;refine lU rfl (.tmp 23) (.tmp 25) rfl B2 (m+1) c2 _ H2.o.2.2.2 rfl (H2.o.1.touch0 ((Touch.refl [] w2).alloc _)) (some ⟨w2.heap.size,0,none⟩) 1 1 [x] rfl rfl (mo.one' w2 x rfl) (by omega) ?_;intro B3 c3 w3 ho3 ht3 hf3;rw[ao] at hf3;have H3:=Gc ho3 ht3 hf3;clear ho3 ht3 hf3;go_wp2_with fail;go_roundw
   case rel =>
    obtain⟨ho2,ht2,hf2,hl2⟩:=H2.o;obtain⟨ho3,ht3,hf3⟩:=H3.o;have hsw:=HT.o.size;have hs2:=ht2.size;rw[ao] at hs2;refine⟨k+1,m+1+1,B3,c3,by omega,by go_num,rfl,lh ?_,lh ?_,lh ?_,lh ?_⟩
    ·rw[Hn2.o,az,hl2];rfl
    ·rw[Hn2.o];exact ho3
    ·intro b hb;rcases hf3 b hb with q|q
     ·rcases hf2 b q with q | q
      ·exact HF.o b q
      right;omega
     right;omega
    refine((HT.o.alloc _).trans ht2 (λb hb=> ?_)).alloc _ |>.trans ht3 (λb hb=> ?_)
    ·rcases HF.o b hb with q | q
     ·left;simp[q]
     right;exact q
    rcases hf2 b hb with q | q
    ·rcases HF.o b q with q | q
     ·left;simp[q]
     right;exact q
    right;omega
   case measure=>simp[intOf];omega
  have Hn2:=lh (show 34:: jH (t.take (k+1))=34:: jH (t.take k)++[x] by rw[Hnx.o,ab hq];simp);have hq1:((x.toNat:Int)==34)=false:=by rw[aw];intro h;exact hq (.inl (UInt8.toNat_inj.1 (by show x.toNat=34;omega)))
  have hq2:((x.toNat:Int)==92)=false:=by rw[aw];intro h;exact hq (.inr (UInt8.toNat_inj.1 (by show x.toNat=92;omega)))
  clear hq;go_wp2_with (at_builtin;refine ez ?_);refine go ?_;refine lU rfl (.tmp 23) (.tmp 25) rfl B m c (34:: jH (t.take k)) HM.o rfl (HO.o.touch0 ((Touch.refl [] wr).alloc _)) (some ⟨wr.heap.size,0,none⟩) 1 1 [x] rfl rfl (mo.one' wr x rfl) (by omega) ?_;intro B2 c2 w2 ho2 ht2 hf2;rw[ao] at hf2;have H2:=Gc ho2 ht2 hf2;clear ho2 ht2 hf2;go_wp2_with fail;go_roundw
  case rel =>
   obtain⟨ho2,ht2,hf2⟩:=H2.o;have hsw:=HT.o.size;refine⟨k+1,m+1,B2,c2,by omega,by go_num,rfl,lh ?_,lh ?_,lh ?_,lh ?_⟩
   ·rw[Hn2.o,az,HM.o];rfl
   ·rw[Hn2.o];exact ho2
   ·intro b hb;rcases hf2 b hb with q|q
    ·exact HF.o b q
    right;omega
   refine(HT.o.alloc _).trans ht2 (λb hb=> ?_);rcases HF.o b hb with q|q
   ·left;simp[q]
   right;exact q
  case measure=>simp[intOf];omega
 obtain rfl:k=t.length:=by omega
 have hfin:34:: jH (t.take t.length)++[34]=jU t:=by rw[aH];rfl
 have Hf:=lh hfin;clear hfin;go_wp2_with (at_builtin;refine ez ?_);refine go ?_;refine lU rfl (.tmp 28) (.tmp 29) rfl B m c (34:: jH (t.take t.length)) HM.o rfl (HO.o.touch0 ((Touch.refl [] wr).alloc _)) (some ⟨wr.heap.size,0,none⟩) 1 1 [34] rfl rfl (mo.one' wr 34 rfl) (by omega) ?_;intro B2 c2 w2 ho2 ht2 hf2;have hl2:(34:: jH (t.take t.length)++[34]).length=m+1:=by rw[az,HM.o];rfl
 have hst:=yS c2 hl2 ho2.rd;rw[Hf.o] at hst;have H2:=lh ((HT.o.alloc _).trans ht2 (λb hb=>by
  rcases HF.o b hb with q|q
  ·left;simp[q]
  right;exact q))
 clear ho2 ht2 hf2 hl2;go_wp2_with fail;go_ret;exact⟨rfl,(HT1.o.1.trans0 HT1.o.2.1).trans H2.o (λb hb=>.inr (by simp at hb;omega))⟩
theorem CU(v:VD)(hv:v.Ok 140737000000000)(w:World)(hP:iT w): Calls Tryz.prog 170 #[v.val] w λe w'=>e=.returned (.string (S (gM v)))/\Touch [] w w':=by
 obtain⟨k,n,s⟩:=v;obtain⟨-,⟨hn1,hn2⟩,hts⟩:=hv;dsimp only[VD.val] at *;have t0:=(Touch.refl [] w).alloc (.cells #[.int .i64 k,.int .i64 n,.string s] 31);have hb:=ah w (.cells #[.int .i64 k,.int .i64 n,.string s] 31);have Hr:=lh (pM ⟨k,n,s⟩ hts (w.alloc (.cells #[.int .i64 k,.int .i64 n,.string s] 31)));have Hi:=lh λw'(t:Touch [] w w')=>Tryz.strconv_Itoa n hn1 hn2 w' (hP.touch0 t);have HB:=Gb t0 hb;simp only[VD.val] at Hr;clear t0 hb;by_cases hr:VD.right ⟨k,n,s⟩=true
 ·rw[hr] at Hr;by_cases h0:k=0
  ·subst h0;have Hs:=lh (show gM ⟨0,n,s⟩=[110,117,108,108] by unfold gM;rw[ab (by rw[hr];simp),ae rfl]);clear hr;go_enter Tryz.func170,Tryz.ntmps170;go_wp2_with fail;refine Hr.o.mono ?_;rintro e w1 ⟨rfl,t1⟩;obtain⟨z0,z1,z2,_,_,_⟩:=eJ (t1.blk HB.o.2 (by simp));have HT:=lh (HB.o.1.trans0 t1);clear t1;go_wp2_with fail;go_ret;exact⟨by rw[Hs.o];rfl,HT.o⟩
  have h0':(k==0)=false:=by rw[aw];exact h0
  by_cases h1:k=1
  ·subst h1;have Hs:=lh (show gM ⟨1,n,s⟩=Lib.itoa n by unfold gM;rw[ab (by rw[hr];simp),ab h0,ae rfl]);clear hr;go_enter Tryz.func170,Tryz.ntmps170;go_wp2_with fail;refine Hr.o.mono ?_;rintro e w1 ⟨rfl,t1⟩;obtain⟨z0,z1,z2,_,_,_⟩:=eJ (t1.blk HB.o.2 (by simp));have HT:=lh (HB.o.1.trans0 t1);clear t1;go_wp2_with fail;refine(Hi.o _ HT.o).mono ?_;rintro e w2 ⟨rfl,kk,os,hw⟩;have t2:Touch [] w1 w2:=hw ▸ Touch.of_grow kk os;have HT2:=lh (HT.o.trans0 t2);clear hw t2;go_wp2_with fail;go_ret;exact⟨by rw[Hs.o];rfl,HT2.o⟩
  have h1':(k==1)=false:=by rw[aw];exact h1
  have hp:s.data.toList.length<=64:=by
   unfold VD.right at hr;dsimp only at hr;rw[ab h0,ab h1] at hr;split at hr
   ·have:=(d8.1 hr).2;unfold ij at this;exact aN (d8.1 this).2
   cases hr
  have hq:=λw'=>zD s.data.toList (by omega) w';rw[m9] at hq;have Hq:=lh hq;have Hs:=lh (show gM ⟨k,n,s⟩=jU s.data.toList by unfold gM;rw[ab (by rw[hr];simp),ab h0,ab h1]);clear hr hp hq;go_enter Tryz.func170,Tryz.ntmps170;go_wp2_with fail;refine Hr.o.mono ?_;rintro e w1 ⟨rfl,t1⟩;obtain⟨z0,z1,z2,_,_,_⟩:=eJ (t1.blk HB.o.2 (by simp));have HT:=lh (HB.o.1.trans0 t1);clear t1;go_wp2_with fail;refine(Hq.o _).mono ?_;rintro e w2 ⟨rfl,t2⟩;have HT2:=lh (HT.o.trans0 t2);clear t2;go_wp2_with fail;go_ret;exact⟨by rw[Hs.o];rfl,HT2.o⟩
 have hr:VD.right ⟨k,n,s⟩=false:=by simpa using hr
 rw[hr] at Hr;have Hs:=lh (show gM ⟨k,n,s⟩=[] by unfold gM;rw[ae hr]);clear hr;go_enter Tryz.func170,Tryz.ntmps170;go_wp2_with fail;refine Hr.o.mono ?_;rintro e w1 ⟨rfl,t1⟩;have HT:=lh (HB.o.1.trans0 t1);clear t1;go_wp2_with fail;go_ret;exact⟨by rw[Hs.o];rfl,HT.o⟩
theorem yK(v:VD)(hv:v.Ok 140737000000000)(w:World)(hP:iT w):nq w v:=λw' t=>CU v hv w' (hP.touch0 t)
end
section
open Go.RowKit
structure GdT (cs:List CD) (rows:List (List VD)):Prop where
 fit:e_ cs rows=0
 c:∀c∈cs,c.name.size<=1048576/\tW c.typ
 v:∀r∈rows,∀v∈r,iP v
section
variable {cs:List CD} {rows:List (List VD)}
theorem GdT.n0(h:GdT cs rows):0<cs.length:=(mE (jO h.fit).1).1
theorem GdT.n(h:GdT cs rows):cs.length<=16:=(mE (jO h.fit).1).2.1
theorem GdT.m(h:GdT cs rows):rows.length<=4096:=(jO h.fit).2.1
theorem GdT.len(h:GdT cs rows):∀r∈rows,r.length=cs.length:=λr hr=>wO (bU.1 (jO h.fit).2.2 r hr)
theorem GdT.cols(h:GdT cs rows):∀c∈cs,c.Ok:=λc hc=>CD.ok_w (h.c c hc).1 (h.c c hc).2
theorem GdT.rok(h:GdT cs rows):fe rows:=λr hr=>⟨by have:=h.len r hr;have:=h.n;omega,h.v r hr⟩
theorem GdT.rle(h:GdT cs rows):gR rows:=λr hr=>by have:=h.len r hr;have:=h.n;omega
theorem GdT.good(h:GdT cs rows){W:World}(hP:iT W):kQ W rows cs.length:=λr hr=>⟨h.len r hr,λv hv=>⟨yK v (h.v r hr v hv) W hP,h.v r hr v hv⟩⟩
end
structure BdR (rows:List (List VD)):Prop where
 n:rows.length<=100000
 r:∀r∈rows,r.length<=100/\∀v∈r,iP v
theorem BdR.nil:BdR []:=⟨by simp,by simp⟩
theorem BdR.rok{rows:List (List VD)}(h:BdR rows):fe rows:=λr hr=>⟨by have:=(h.r r hr).1;omega,(h.r r hr).2⟩
theorem BdR.rle{rows:List (List VD)}(h:BdR rows):gR rows:=λr hr=>by have:=(h.r r hr).1;omega
theorem GdT.bd{cs:List CD}{rows:List (List VD)}(h:GdT cs rows):BdR rows:=⟨by have:=h.m;omega,λr hr=>⟨by have:=h.len r hr;have:=h.n;omega,h.v r hr⟩⟩
theorem BdR.sub{rows out:List (List VD)}(h:BdR rows)(hm:∀ r∈out,r∈rows)(hl:out.length<=rows.length):BdR out:=⟨by have:=h.n;omega,λr hr=>h.r r (hm r hr)⟩
noncomputable def f7{m:Nat}(d:PD m)(a:List CD)(ra:List (List VD))(b:List CD)(rb:List (List VD)):Int × List (List VD):=
 if d.kind=2 then gP a d.cond ra else if d.kind=3 then ja a d.exprs ra
 else if d.kind=4\/d.kind=5 then kN (decide (d.kind=5)) b.length ra rb (ea a (d.on.map (·.1))) (ea b (d.on.map (·.2)))
 else if d.kind=6 then li a d.names d.aggs ra else if d.kind=7 then (0,ra++rb) else if d.kind=8 then (0,gJ ra) else (0,j2 a d.by_ ra d.count.toNat)
theorem Eu(l:List VD):iP (j9 l).2:=by
 unfold j9;split
 ·rename_i h;exact kI _ h
 exact fV
theorem DE(up:Bool):∀(l:List VD),(∀v∈l,iP v)->iP (gX up l)
 | [],_=>fV
 |a:: r,h=>by
  show iP (r.foldl (λm v=>if jF up v m then v else m) a);have key:∀(r:List VD)(a:VD),iP a->(∀v∈r,iP v)->iP (r.foldl (λm v=>if jF up v m then v else m) a):=by
   intro r;induction r with
   |nil=>intro a ha _;exact ha
   |cons x r ih =>
    intro a ha hr
    rw[bX]
    refine ih _ ?_ λv hv=>hr v (aP _ hv)
    split
    ·exact hr x aK
    ·exact ha
  exact key r a (h a aK) λv hv=>h v (aP _ hv)
theorem E4(cs:List CD)(a:AG)(rows:List (List VD))(hl:rows.length<=100000)(h:∀ r∈rows,∀ v∈r,iP v):iP (eY cs a rows).2:=by
 have hn:∀v∈jz ((ef cs a.col).getD 0) rows,iP v:=λv hv=>by
  obtain⟨r,hr,rfl⟩:=oE hv;by_cases hk:(ef cs a.col).getD 0<r.length
  ·have:r.getD ((ef cs a.col).getD 0) ⟨0,0,⟨#[]⟩⟩=r[(ef cs a.col).getD 0]:=by simp[List.getD,hk]
   rw[this];exact h r hr _ (am hk)
  have:r.getD ((ef cs a.col).getD 0) ⟨0,0,⟨#[]⟩⟩=⟨0,0,⟨#[]⟩⟩:=by simp[List.getD,List.getElem?_eq_none (Nat.le_of_not_lt hk)]
  rw[this];exact fV
 have hnl:(jz ((ef cs a.col).getD 0) rows).length<=rows.length:=by unfold jz;refine bm (bP _ _) ?_;rw[ay];exact aL _
 unfold eY;split
 ·exact kI _ (by omega)
 unfold i8;split
 ·exact kI _ (by omega)
 split
 ·exact fV
 split
 ·exact Eu _
 exact DE _ _ hn
theorem Aw{m:Nat}{a:List CD}{ra:List (List VD)}(e:TX m)(h:BdR ra):BdR (gP a e ra).2:=h.sub (λr hr=>lp hr) (nD e)
theorem Ez{m:Nat}{a:List CD}{ra:List (List VD)}(es:List (TX m))(hl:es.length<=20)(hx:∀ e∈es,gj (fun q=>iP q.v) m e)(h:BdR ra):BdR (ja a es ra).2:=by
 unfold ja;split
 ·refine⟨by dsimp only;rw[ay];exact h.n,λr hr=> ?_⟩;obtain⟨q,hq,rfl⟩:=aJ.1 hr;refine⟨by unfold f_;rw[ay];omega,λv hv=> ?_⟩;obtain⟨e,he,rfl⟩:=aJ.1 hv;exact Ex (h.r q hq).2 m e (hx e he)
 exact .nil
theorem EB{a b:List CD}{ra rb:List (List VD)}(left:Bool)(at_ bt:List Nat)(ha:GdT a ra)(hb:GdT b rb):BdR (kN left b.length ra rb at_ bt).2:=by
 unfold kN;split
 ·exact .nil
 rename_i hl;refine⟨by dsimp only;omega,λr hr=> ?_⟩;obtain⟨p,hp,hr⟩:=List.mem_flatMap.1 hr;obtain⟨o,ho,rfl⟩:=aJ.1 hr;have hbo:o.length<=16/\∀v∈o,iP v:=by
  unfold jc at ho;split at ho
  ·rw[aI.1 ho];refine⟨by rw[dY];exact hb.n,λv hv=> ?_⟩;rw[List.eq_of_mem_replicate hv];exact fV
  obtain⟨i,hi,rfl⟩:=aJ.1 ho;by_cases hk:i<rb.length
  ·have:rb.getD i []=rb[i]:=by simp[List.getD,hk]
   rw[this];exact⟨by have:=hb.len _ (am hk);have:=hb.n;omega,hb.v _ (am hk)⟩
  have:rb.getD i []=[]:=by simp[List.getD,List.getElem?_eq_none (Nat.le_of_not_lt hk)]
  rw[this];simp
 refine⟨by rw[az];have:=ha.len p hp;have:=ha.n;omega,λv hv=> ?_⟩;rcases aZ.1 hv with q|q
 ·exact ha.v p hp v q
 exact hbo.2 v q
theorem FD{a:List CD}{ra:List (List VD)}(names:List ByteArray)(aggs:List AG)(hn:names.length<=20)(hg:aggs.length<=20)(ha:GdT a ra):BdR (li a names aggs ra).2:=by
 unfold li;split
 ·have hlen:(fF (gY names.length ra (ea a names))).length=(gY names.length ra (ea a names)).length:=(iN _).1.length_eq;have hol:(gY names.length ra (ea a names)).length<=ra.length+1:=by
   unfold gY;split
   ·simp
   have:=xR ra (ea a names) ra.length;omega
  refine⟨by dsimp only;rw[ay];have:=ha.m;omega,λr hr=> ?_⟩;obtain⟨K,hK,rfl⟩:=aJ.1 hr;have hk:=uX (nn:=names.length) (n:=a.length) ha.len (l_ ha.n0) ((iN _).1.mem_iff.1 hK);have hp:(ea a names).length=names.length:=by unfold ea;rw[ay]
  refine⟨by unfold kA oF;rw[az,ay,ay];omega,λv hv=> ?_⟩;rcases aZ.1 hv with q|q
  ·obtain⟨r,hr,hvr⟩:=hk.2 v q;exact ha.v r hr v hvr
  obtain⟨x,hx,rfl⟩:=aJ.1 q;obtain⟨g,hg,rfl⟩:=aJ.1 hx;exact E4 a g _ (by have:=xD ra (ea a names) (fY K);have:=ha.m;omega) λr hr=>ha.v r (ri hr)
 exact .nil
theorem Bk{rows:List (List VD)}{g:Nat->Nat}{r:List VD}(h:r∈jl [] rows g):r∈rows\/r=[]:=by
 obtain⟨k,_,rfl⟩:=aJ.1 h;by_cases hk:g k<rows.length
 ·have:rows.getD (g k) []=rows[g k]:=by simp[List.getD,hk]
  exact .inl (this ▸ am hk)
 exact .inr (by simp[List.getD,List.getElem?_eq_none (Nat.le_of_not_lt hk)])
theorem DF{a:List CD}{ra:List (List VD)}(os:List (ByteArray × Bool))(count:Nat)(h:BdR ra):BdR (j2 a os ra count):=by
 unfold j2;split
 ·refine⟨by rw[aO,jK];have:=h.n;omega,λr hr=> ?_⟩;rcases Bk (da hr) with q|rfl
  ·exact h.r r q
  simp
 exact .nil
theorem PD.Fine.xo{m:Nat}{d:PD m}(hd:d.Fine):∀e∈d.exprs,gj (λq=>iP q.v) m e:=λe he=>ld (λq hq=>hq.v.le' (by omega)) m e (hd.x e he)
theorem nZ{m:Nat}(d:PD m)(hd:d.Fine)(a:List CD)(ra:List (List VD))(b:List CD)(rb:List (List VD))(ha:GdT a ra)(hb:eN d.kind=2->GdT b rb):BdR (f7 d a ra b rb).2:=by
 have hs:=hd.sm;unfold f7;split
 ·exact Aw _ ha.bd
 split
 ·exact Ez _ hs.e hd.xo ha.bd
 split
 ·rename_i h45;exact EB _ _ _ ha (hb (by unfold eN;rw[ab (by omega),ae (by omega)]))
 split
 ·exact FD _ _ hs.n hs.a ha
 split
 ·rename_i h7;have hb':=(hb (by unfold eN;rw[ab (by omega),ae (by omega)]));refine⟨by dsimp only;rw[az];have:=ha.m;have:=hb'.m;omega,λr hr=> ?_⟩;rcases aZ.1 hr with q|q
  ·exact ha.bd.r r q
  exact hb'.bd.r r q
 split
 ·exact ha.bd.sub (λr hr=>mN hr) (ti _)
 exact DF _ _ ha.bd
theorem PD.Fine.tx{m:Nat}{e:TX m}(h:gj (fun q=>q.Ok 1048576) m e):gj (λq=>q.v.text.size<=140737000000000) m e:=ld (λq hq=>by have:=hq.v.t;omega) m e h
theorem r8{m:Nat}(d:PD m)(hd:d.Fine)(x:PC)(a:List CD)(ra:List (List VD))(b:List CD)(rb:List (List VD))(ha:GdT a ra)(hb:eN d.kind=2->GdT b rb)(h2:2<=d.kind)(h9:d.kind<=9)(h8:d.kind≠8)(hk1:(eR d a b).1=0)(w:World)(hPw:iT w)(h:PlanAt w x d): lS w x (if eN d.kind=2 then [(a,ra),(b,rb)] else [(a,ra)]) (f7 d a ra b rb):=by
 have hk:=h.kind;have hs:=hd.sm;have hA:=ha.cols;have hl:=ha.n;have hm:=ha.m;have hr:=ha.rok;have:d.kind=2\/d.kind=3\/d.kind=4\/d.kind=5\/d.kind=6\/d.kind=7\/d.kind=9:=by omega
 unfold f7;unfold eR at hk1;rcases this with q|q|q|q|q|q|q<;>rw[q] at hk hk1 hb ⊢<;>simp only[eN] at hb ⊢<;>simp +decide only [if_true,dF,or_true,true_or] at hk1 hb ⊢
 ·exact qN x hk d.cond a ra w h.cond hA (by omega) (by omega) hr (by have:=hs.c;omega) (PD.Fine.tx hd.c)
 ·exact yD x hk d.exprs a ra w h.en (by have:=hs.e;omega) h.exprs hA (by omega) (by omega) hr (λe he=>by have:=hs.x e he;omega) (λe he=>PD.Fine.tx (hd.x e he))
 ·have hb:=hb True.intro;exact rR x 4 hk.symm (.inl rfl) d.on h.on' (by have:=hs.o;omega) a b ra rb w h.on (ha.good hPw) (hb.good hPw) ha.n0 hb.n0 hl hb.n hm hb.m
 ·have hb:=hb True.intro;exact rR x 5 hk.symm (.inr rfl) d.on h.on' (by have:=hs.o;omega) a b ra rb w h.on (ha.good hPw) (hb.good hPw) ha.n0 hb.n0 hl hb.n hm hb.m
 ·exact xz x hk d.names d.aggs h.nn h.an (by have:=hs.n;omega) (by have:=hs.a;omega) a ra w h.names h.aggs (ha.good hPw) ha.n0 hl hm
 ·have hb:=hb True.intro;exact qD x hk a b ra rb w (by omega) (by have:=hb.m;omega)
 have hc:0<=d.count:=by
  unfold j0 at hk1;split at hk1
  ·exact absurd hk1 (by decide)
  omega
 rw[<- h.count] at hc ⊢;refine qQ x hk a d.by_ ra w h.bn h.by_ hc (by omega) (by omega) (by have:=hs.b;omega) λr hr=>⟨by have:=ha.len r hr;omega,λo ho=> ?_⟩;rw[ha.len r hr];exact l_ ha.n0 _ (aJ.2 ⟨o.1,aJ.2 ⟨o,ho,rfl⟩,rfl⟩:_∈ea a (d.by_.map (·.1)))
noncomputable def zl{m:Nat}(d:PD m)(v:Int × List CD × List (List VD)):Int × List CD × List (List VD):=fu [v] (eR d v.2.1 []).2 (f7 d v.2.1 v.2.2 [] [])
noncomputable def Fd{m:Nat}(d:PD m)(u v:Int × List CD × List (List VD)):Int × List CD × List (List VD):=fu [u,v] (eR d u.2.1 v.2.1).2 (f7 d u.2.1 u.2.2 v.2.1 v.2.2)
theorem pq{vs:List (Int × List CD × List (List VD))}(h:fI (vs.map fun v=>(v.1,v.2.1))≠0)(cs:List CD)(rv:Int × List (List VD)):fu vs cs rv=(fI (vs.map λv=>(v.1,v.2.1)),[],[]):=ab h
theorem DT{m:Nat}{d:PD m}{v:Int × List CD × List (List VD)}(h:v.1≠0):zl d v=(v.1,[],[]):=by
 have he:fI ([v].map λv=>(v.1,v.2.1))=v.1:=by show fI [(v.1,v.2.1)]=v.1;unfold fI;exact ab h
 unfold zl;rw[pq (by rw[he];exact h),he]
theorem ou{m:Nat}{d:PD m}(hd:d.Fine){a b:List CD}(hla:a.length<=16)(hlb:b.length<=16)(ha:∀ c∈a,c.name.size<=1048576/\tW c.typ)(hb:∀ c∈b,c.name.size<=1048576/\tW c.typ):(∀c∈(eR d a b).2,c.name.size<=1048576/\tW c.typ)/\(eR d a b).2.length<=1000:=
 AI d a b hla hlb ha hb hd.x hd.n (λp hp=>(hd.a p hp).2.2) hd.sm.n hd.sm.a hd.sm.e
theorem gV.touch0{w w':World}{I:Option Addr}{ic n:Nat}{x:PC}{v:Int × List CD × List (List VD)}(h:gV w I ic n x v)(ht:Touch [] w w'):gV w' I ic n x v:=λw'' t=>h w'' (ht.trans0 t)
theorem ss{k:Int}(h:eN k=1):k=2\/k=3\/k=6\/k=8\/k=9:=by
 unfold eN at h;split at h
 ·assumption
 split at h<;>omega
theorem Ff{k:Int}(h:eN k=2):k=4\/k=5\/k=7:=by
 unfold eN at h;split at h
 ·omega
 split at h
 ·assumption
 omega
theorem tI{m:Nat}(d:PD m)(hd:d.Fine)(x:PC)(hn:eN d.kind=1)(hm:x.args.n=1)(I:Option Addr)(ic n:Nat)(w:World)(hPw:iT w)(h:PlanAt w x d)(y:PC)(hX:d9 ir w x.args.A [y])(v:Int × List CD × List (List VD))(hE:gV w I ic n y v) (hv:v.1=0->GdT v.2.1 v.2.2) (hv':v.1≠0->v.2=([],[])) (hk1:v.1=0->(eR d v.2.1 []).1=0):gV w I ic n x (zl d v):=by
 have hk:=ss hn;have hkx:=h.kind;obtain⟨kk,hkk⟩:=Int.eq_ofNat_of_zero_le (show 0<=d.kind by omega);obtain⟨er,a,ra⟩:=v;dsimp only at hv hv' hk1;have hone:∀i(h1:i < [y].length)(h2:i < [(er,a,ra)].length),gV w I ic n [y][i] [(er,a,ra)][i]:=λi i1 i2=>by
  obtain rfl:i=0:=by simp at i1;omega
  exact hE
 by_cases h0:er=0
 ·subst h0;have g:=hv rfl;have hko:=ou hd (b:=[]) g.n (by simp) g.c (by simp);have hbd:=nZ d hd a ra [] [] g (λq=>by rw[hn] at q;exact absurd q (by decide));by_cases h8:d.kind=8
  ·have e1:eR d a []=(0,a):=by unfold eR;rw[h8];simp +decide only [if_true,dF]
   have e2:f7 d a ra [] []=(0,gJ ra):=by unfold f7;rw[h8];simp +decide only [if_true,dF]
   show gV w I ic n x (fu [(0,a,ra)] (eR d a []).2 (f7 d a ra [] []));rw[e1,e2];intro w' t;exact pi x (by rw[hkx,h8]) hm I ic n w' y (d9.touch0 hX t) (0,a,ra) (hE.touch0 t) g.cols (by have:=g.n;show a.length<=_;omega) g.rok g.rle (by have:=g.m;show ra.length<=_;omega)
  refine jS x kk 1 (by rw[hkx,hkk]) (by omega) hm (by omega) I ic n w [y] [(0,a,ra)] rfl rfl hX hone (eR d a []).1 (eR d a []).2 (λ_=> ?_) (f7 d a ra [] []) (λ_=> ?_) (λc hc=>CD.ok_w (hko.1 c hc).1 (hko.1 c hc).2) (by have:=hko.2;omega) hbd.rok hbd.rle (by have:=hbd.n;omega)
  ·have:=uM d hd x a [] g.cols g.n (by simp) (by omega) (by omega) w h;rw[ab (by omega)] at this;exact this
  have:=r8 d hd x a ra [] [] g (λq=>by rw[hn] at q;exact absurd q (by decide)) (by omega) (by omega) h8 (hk1 rfl) w hPw h;rw[ab (by omega)] at this;exact this
 have hz:=hv' h0;rw[DT h0];obtain⟨rfl,rfl⟩:a=[]/\ra=[]:=⟨bf Prod.fst hz,bf Prod.snd hz⟩;have hel:fI ([((er,[],[]):Int × List CD × List (List VD))].map λv=>(v.1,v.2.1))=er:=by show fI [(er,[])]=er;unfold fI;exact ab h0
 by_cases h8:d.kind=8
 ·intro w' t;have:=pi x (by rw[hkx,h8]) hm I ic n w' y (d9.touch0 hX t) (er,[],[]) (hE.touch0 t) (by simp) (by simp) (λr hr=>by simp at hr) (λr hr=>by simp at hr) (by simp);rw[pq (by rw[hel];exact h0),hel] at this;exact this
 have:=jS x kk 1 (by rw[hkx,hkk]) (by omega) hm (by omega) I ic n w [y] [(er,[],[])] rfl rfl hX hone 0 [] (λq=>absurd (hel.symm.trans q) h0) (0,[]) (λq=>absurd (hel.symm.trans q) h0) (by simp) (by simp) (λr hr=>by simp at hr) (λr hr=>by simp at hr) (by simp);rw[pq (by rw[hel];exact h0),hel] at this;exact this
theorem uq{m:Nat}(d:PD m)(hd:d.Fine)(x:PC)(hn:eN d.kind=2)(hm:x.args.n=2)(I:Option Addr)(ic n:Nat)(w:World)(hPw:iT w)(h:PlanAt w x d)(y z:PC)(hX:d9 ir w x.args.A [y,z])(a:List CD)(ra:List (List VD))(b:List CD)(rb:List (List VD))(hE:gV w I ic n y (0,a,ra))(hF:gV w I ic n z (0,b,rb)) (ga:GdT a ra) (gb:GdT b rb) (hk1:(eR d a b).1=0):gV w I ic n x (Fd d (0,a,ra) (0,b,rb)):=by
 have hk:=Ff hn;have hkx:=h.kind;obtain⟨kk,hkk⟩:=Int.eq_ofNat_of_zero_le (show 0<=d.kind by omega);have hko:=ou hd ga.n gb.n ga.c gb.c;have hbd:=nZ d hd a ra b rb ga (λ_=>gb);refine jS x kk 2 (by rw[hkx,hkk]) (by omega) hm (by omega) I ic n w [y,z] [(0,a,ra),(0,b,rb)] rfl rfl hX (λi i1 i2=> ?_) (eR d a b).1 (eR d a b).2 (λ_=> ?_) (f7 d a ra b rb) (λ_=> ?_) (λc hc=>CD.ok_w (hko.1 c hc).1 (hko.1 c hc).2) (by have:=hko.2;omega) hbd.rok hbd.rle (by have:=hbd.n;omega)
 ·have:i=0\/i=1:=by simp at i1;omega
  rcases this with rfl|rfl
  ·exact hE
  exact hF
 ·have:=uM d hd x a b ga.cols ga.n gb.n (by omega) (by omega) w h;rw[ae hn] at this;exact this
 have:=r8 d hd x a ra b rb ga (λ_=>gb) (by omega) (by omega) (by omega) hk1 w hPw h;rw[ae hn] at this;exact this
theorem rI{vs:List (Int × List CD × List (List VD))}{cs:List CD}{rv:Int × List (List VD)}(hc:∀ c∈cs,c.name.size<=1048576/\tW c.typ)(hb:BdR rv.2)(h:(fu vs cs rv).1=0):GdT (fu vs cs rv).2.1 (fu vs cs rv).2.2/\ft (fu vs cs rv).2.1 (fu vs cs rv).2.2=0/\(fu vs cs rv).2.1=cs:=by
 obtain⟨h1,h2,h3,h4⟩:=kr h;rw[h4];have hp:=iN rv.2;have hf:e_ cs (fF rv.2)=0:=mV h3 (λr hr=>hp.1.mem_iff.1 hr) (by rw[hp.1.length_eq];exact aL _);refine⟨⟨hf,hc,λr hr=>(hb.r r (hp.1.mem_iff.1 hr)).2⟩, ?_,rfl⟩;unfold ft;rw[ae hf,ae];unfold gH;rw[bU];intro i hi;have hi:=a_.1 hi;dsimp only at hi ⊢;have e1:(fF rv.2).getD (i+1) []=(fF rv.2)[i+1]:=by simp[List.getD,show i+1<(fF rv.2).length by omega]
 have e2:(fF rv.2).getD i []=(fF rv.2)[i]:=by simp[List.getD,show i<(fF rv.2).length by omega]
 rw[e1,e2];have:=cI.1 hp.2 i (i+1) (by omega) (by omega) (by omega);have:=fL (fF rv.2)[i+1] (fF rv.2)[i];exact aF (by omega)
end
section
open Go.RowKit
theorem nA{m:Nat}{d:PD m}(h:eN d.kind=1)(a b:List CD):eR d a b=eR d a []:=by have:=ss h;unfold eR;rcases this with q|q|q|q|q<;>rw[q]<;>simp +decide only [if_true,dF]
theorem zJ{m:Nat}{d:PD m}(h:eN d.kind=1)(a:List CD)(ra:List (List VD))(b:List CD)(rb:List (List VD)):f7 d a ra b rb=f7 d a ra [] []:=by have:=ss h;unfold f7;rcases this with q|q|q|q|q<;>rw[q]<;>simp +decide only [if_true,dF]
theorem TbOk.gd{a:List CD}{ra:List (List VD)}(h:TbOk a ra)(hc:ft a ra=0):GdT a ra:=⟨(gy hc).1,h.c,λr hr v hv=>((h.r r hr).2 v hv).le' (by omega)⟩
noncomputable def fK{m:Nat}(d:PD m)(a:List CD)(ra:List (List VD))(b:List CD)(rb:List (List VD)):Int × List CD × List (List VD):=if eN d.kind=2 then Fd d (0,a,ra) (0,b,rb) else zl d (0,a,ra)
theorem iU{m:Nat}{d:PD m}{a:List CD}{ra:List (List VD)}{b:List CD}{rb:List (List VD)}(hk:d.kind≠1)(h:(fE d a ra b rb).1=0): (eN d.kind=1\/eN d.kind=2)/\ft a ra=0/\(eN d.kind=2->ft b rb=0)/\(eR d a b).1=0/\eB (eR d a b).2=0/\fE d a ra b rb=(0,(eR d a b).2):=by
 unfold fE at h ⊢;by_cases hw:d.kind<1\/9<d.kind
 ·rw[ae hw] at h;exact absurd h (by decide)
 rw[ab hw,ab hk] at h ⊢;have hn:eN d.kind=1\/eN d.kind=2:=by
  have:d.kind=2\/d.kind=3\/d.kind=4\/d.kind=5\/d.kind=6\/d.kind=7\/d.kind=8\/d.kind=9:=by omega
  rcases this with q|q|q|q|q|q|q|q<;>rw[q]<;>simp[eN]
 have hsc:∀(c:List CD)(r:List (List VD)),(scanT c r).1=0->ft c r=0:=λc r h=>by
  by_cases q:ft c r=0
  ·exact q
  rw[lO q] at h;exact absurd h (by decide)
 have hcv:∀vs(v:Int × List CD),(gw vs v).1=0->eB v.2=0:=λvs v h=>by
  obtain⟨h1,h2, -⟩:=lB h;unfold gw at h;rw[ae h1,ae h2] at h;by_cases q:eB v.2=0
  ·exact q
  rw[ab q] at h;exact absurd h q
 by_cases h2:eN d.kind=2
 ·rw[ae h2] at h ⊢;have hc:=hcv _ _ h;obtain⟨e1,e2,e3⟩:=lB h;obtain⟨s1,s2⟩:=uI e1;exact⟨hn,hsc _ _ s1,λ_=>hsc _ _ s2,e2,hc,e3⟩
 rw[ab h2] at h ⊢;have hc:=hcv _ _ h;obtain⟨e1,e2,e3⟩:=lB h;exact⟨hn,hsc _ _ (D9 e1),λq=>absurd q h2,e2,hc,e3⟩
structure NsAt {m m':Nat} (W:World) (d:PD m) (o:PD m') (x:PC) (I:Option Addr) (ic:Nat) (a:List CD) (ra:List (List VD)) (b:List CD) (rb:List (List VD)):Prop where
 nd:gm W
 pw:iT W
 px:PlanAt W x d
 fd:d.Fine
 fo:o.Fine
 ta:TbOk a ra
 tb:TbOk b rb
 src:iK W I (fT a ra b rb)
 hn:(x.args.n:Int)=eN d.kind
 hX:d9 ir W x.args.A ([eH ⟨#[120]⟩,eH ⟨#[121]⟩].take x.args.n)
 k1:d.kind≠1
 on:eN o.kind=1
section
variable {m m':Nat} {W:World} {d:PD m} {o:PD m'} {x:PC} {I:Option Addr} {ic:Nat} {a:List CD} {ra:List (List VD)} {b:List CD} {rb:List (List VD)}
theorem NsAt.touch0{W':World}(h:NsAt W d o x I ic a ra b rb)(t:Touch [] W W'):NsAt W' d o x I ic a ra b rb:=⟨h.nd.touch0 t,h.pw.touch0 t,h.px.touch0 t,h.fd,h.fo,h.ta,h.tb,h.src.touch0 t,h.hn,d9.touch0 h.hX t,h.k1,h.on⟩
theorem NsAt.n2(h:NsAt W d o x I ic a ra b rb):x.args.n<=2:=by
 have:=h.hn;have h2:eN d.kind<=2:=by unfold eN;split<;>(try split)<;>omega
 omega
theorem NsAt.inT(h:NsAt W d o x I ic a ra b rb)(dp:Int)(hp0:0<=dp)(hp:dp<=15):gI W I ic 3 x dp (fE d a ra b rb):=
 D5 dp hp0 hp d h.fd x a ra b rb h.ta h.tb W h.nd h.px I ic h.src h.hn h.hX
theorem NsAt.inE(h:NsAt W d o x I ic a ra b rb)(h0:(fE d a ra b rb).1=0):gV W I ic 3 x (fK d a ra b rb):=by
 obtain⟨hn,hca,hcb,hkz, -, -⟩:=iU h.k1 h0;have ga:=h.ta.gd hca;have hsx:gV W I ic 3 (eH ⟨#[120]⟩) (0,a,ra):=kD (eH ⟨#[120]⟩) rfl rfl I ic 3 (fT a ra b rb) rfl (by omega) 0 (by simp[fT]) (uW a ra b rb) (by simp only[fT,List.getElem_cons_zero];have:=h.ta.n;omega) (by simp only[fT,List.getElem_cons_zero];have:=h.ta.m;omega) h.ta.rle W h.src;have hXX:=h.hX;have hnn:=h.hn;unfold fK;rcases hn with q|q
 ·rw[ab (by omega)];have hm:x.args.n=1:=by omega
  rw[hm] at hXX;exact tI d h.fd x q hm I ic 3 W h.pw h.px (eH ⟨#[120]⟩) hXX (0,a,ra) hsx (λ_=>ga) (λz=>absurd rfl z) (λ_=>by rw[<- nA q a b];exact hkz)
 rw[ae q];have hm:x.args.n=2:=by omega
 rw[hm] at hXX;have hsy:gV W I ic 3 (eH ⟨#[121]⟩) (0,b,rb):=kD (eH ⟨#[121]⟩) rfl rfl I ic 3 (fT a ra b rb) rfl (by omega) 1 (by simp[fT]) (wj a ra b rb) (by simp only[fT,List.getElem_cons_succ,List.getElem_cons_zero];have:=h.tb.n;omega) (by simp only[fT,List.getElem_cons_succ,List.getElem_cons_zero];have:=h.tb.m;omega) h.tb.rle W h.src;exact uq d h.fd x q hm I ic 3 W h.pw h.px (eH ⟨#[120]⟩) (eH ⟨#[121]⟩) hXX a ra b rb hsx hsy ga (h.tb.gd (hcb q)) hkz
theorem NsAt.inSz(h:NsAt W d o x I ic a ra b rb):jo W x (1+x.args.n):=BZ x W h.n2 h.hX
theorem NsAt.bd(h:NsAt W d o x I ic a ra b rb):(fE d a ra b rb).2.length<=16/\∀c∈(fE d a ra b rb).2,c.name.size<=1048576/\tW c.typ:=by
 by_cases h0:(fE d a ra b rb).1=0
 ·obtain⟨-, -, -, -,hcv,he⟩:=iU h.k1 h0;rw[he];exact⟨(mE hcv).2.1,(ou h.fd h.ta.n h.tb.n h.ta.c h.tb.c).1⟩
 have:(fE d a ra b rb).2=[]:=by
  unfold fE at h0 ⊢;by_cases hw:d.kind<1\/9<d.kind
  ·rw[ae hw]
  rw[ab hw,ab h.k1] at h0 ⊢;have key:∀vs(v:Int × List CD),(gw vs v).1≠0->(gw vs v).2=[]:=λvs v q=>by
   unfold gw at q ⊢;by_cases h1:fI vs=0
   ·rw[ae h1] at q ⊢;by_cases h2:v.1=0
    ·rw[ae h2] at q ⊢;by_cases h3:eB v.2=0
     ·rw[ae h3] at q;exact absurd rfl q
     rw[ab h3]
    rw[ab h2]
   rw[ab h1]
  by_cases h2:eN d.kind=2
  ·rw[ae h2] at h0 ⊢;exact key _ _ h0
  rw[ab h2] at h0 ⊢;exact key _ _ h0
 rw[this];simp
theorem NsAt.gd(h:NsAt W d o x I ic a ra b rb)(h0:(fE d a ra b rb).1=0)(h1:(fK d a ra b rb).1=0):GdT (fK d a ra b rb).2.1 (fK d a ra b rb).2.2/\ft (fK d a ra b rb).2.1 (fK d a ra b rb).2.2=0/\(fK d a ra b rb).2.1=(fE d a ra b rb).2:=by
 obtain⟨hn,hca,hcb,hkz,hcv,he⟩:=iU h.k1 h0;have ga:=h.ta.gd hca;rw[he];unfold fK at h1 ⊢;rcases hn with q|q
 ·rw[ab (by omega)] at h1 ⊢;rw[nA q a b];exact rI (ou h.fd (b:=[]) ga.n (by simp) ga.c (by simp)).1 (nZ d h.fd a ra [] [] ga (λz=>by omega)) h1
 rw[ae q] at h1 ⊢;exact rI (ou h.fd ga.n h.tb.n ga.c h.tb.c).1 (nZ d h.fd a ra b rb ga (λ_=>h.tb.gd (hcb q))) h1
end
def Fp{m m':Nat}(d:PD m)(o:PD m')(a:List CD)(ra:List (List VD))(b:List CD)(rb:List (List VD)):Int × List CD:=gw [fE d a ra b rb] (eR o (fE d a ra b rb).2 [])
section
variable {m m':Nat} {W:World} {d:PD m} {o:PD m'} {x:PC} {I:Option Addr} {ic:Nat} {a:List CD} {ra:List (List VD)} {b:List CD} {rb:List (List VD)}
theorem ER{k:Int}(h:eN k=1):∃kk:Nat,k=kk/\2<=kk/\kk<=9/\lX kk=1:=by
 rcases ss h with rfl|rfl|rfl|rfl|rfl
 ·exact⟨2,rfl,by omega,by omega,rfl⟩
 ·exact⟨3,rfl,by omega,by omega,rfl⟩
 ·exact⟨6,rfl,by omega,by omega,rfl⟩
 ·exact⟨8,rfl,by omega,by omega,rfl⟩
 exact⟨9,rfl,by omega,by omega,rfl⟩
theorem outTy{z y:PC}{n:Nat}(hG:gm W)(fo:o.Fine)(on:eN o.kind=1)(hP:PlanAt W z o)(hm:z.args.n=1)(hX:d9 ir W z.args.A [y])(v:Int × List CD)(hl:v.2.length<=16)(hc:∀ c∈v.2,c.name.size<=1048576/\tW c.typ)(hy:gI W I ic n y 2 v):gI W I ic n z 1 (gw [v] (eR o v.2 [])):=by
 obtain⟨kk,e1,e2,e3,e4⟩:=ER on;have hko:=ou fo (b:=[]) hl (by simp) hc (by simp);refine j4 z kk 1 (by rw[hP.kind,e1]) e2 e3 hm e4 1 (by omega) (by omega) I ic n W hG [y] [v] rfl rfl hX (λi i1 i2=> ?_) (eR o v.2 []) (λ_=> ?_) (λc hc=>CD.ok_w (hko.1 c hc).1 (hko.1 c hc).2) (by have:=hko.2;omega)
 ·obtain rfl:i=0:=by simp at i1;omega
  exact hy
 have:=uM o fo z v.2 [] (λc h=>CD.ok_w (hc c h).1 (hc c h).2) hl (by simp) (by omega) (by omega) W hP;rw[ab (by omega)] at this;exact this
theorem NsAt.outTy(h:NsAt W d o x I ic a ra b rb){z:PC}(hP:PlanAt W z o)(hm:z.args.n=1)(hX:d9 ir W z.args.A [x]):gI W I ic 3 z 1 (Fp d o a ra b rb):=
 _root_.Go.Proofs.YtafoklilkdnepaaGreatDoor.outTy h.nd h.fo h.on hP hm hX _ h.bd.1 h.bd.2 (h.inT 2 (by omega) (by omega))
theorem NsAt.outSz(h:NsAt W d o x I ic a ra b rb){z:PC}(hm:z.args.n=1)(hX:d9 ir W z.args.A [x]):jo W z (1+(1+x.args.n)):=ot z hm x hX _ (by have:=h.n2;omega) h.inSz
theorem NsAt.type(h:NsAt W d o x I ic a ra b rb){z:PC}(hP:PlanAt W z o)(hm:z.args.n=1)(hX:d9 ir W z.args.A [x]):
  Calls Tryz.prog 16 #[z.val,.slice I 3 ic] W (fm W.heap.size (Fp d o a ra b rb) W):=
 v_ z _ (by have:=h.n2;omega) I ic 3 _ W (h.outSz hm hX) (h.outTy hP hm hX)
end
end
section
open Go.RowKit
def vT(c:CD):Bool:=decide (c.name.size<=50)
def tQ(v:VD):Bool:=decide (v.text.size<=100)
def tM(r:List VD):Bool:=decide (r.length<=20)&&r.all tQ
def gO(cs:List CD)(rows:List (List VD)):Bool:=cs.all vT&&(rows.all tM&&(decide (cs.length<=16)&&decide (rows.length<=30)))
theorem xe{cs:List CD}{rows:List (List VD)}(h:gO cs rows=true):(∀c∈cs,c.name.size<=50)/\(∀r∈rows,r.length<=20/\∀v∈r,v.text.size<=100)/\cs.length<=16/\rows.length<=30:=by unfold gO at h;rw[bh,bh,bh,bU,bU] at h;refine⟨λc hc=>by simpa [vT] using h.1 c hc,λr hr=> ?_,aN h.2.2.1,aN h.2.2.2⟩;have:=h.2.1 r hr;unfold tM at this;rw[bh,bU] at this;exact⟨aN this.1,λv hv=>by simpa [tQ] using this.2 v hv⟩
theorem sV(A B:Option Addr)(c1 c2 n m:Nat)(cs:List CD)(rows:List (List VD))(hn:cs.length=n)(hm:rows.length=m)(hc:n<=9223372036854775807/\∀ c∈cs,c.name.size<=9223372036854775807 /\ -9223372036854775808<=c.typ/\c.typ<=9223372036854775807) (hr:m<=9223372036854775807/\∀r∈rows,r.length<=9223372036854775807/\∀v∈r,v.Ok 9223372036854775807) (w:World) (h:em w A cs) (h2:eW w B rows) : Calls Tryz.prog 13 #[.agg #[.slice A n c1,.slice B m c2]] w λe w'=>e=.returned (.bool (gO cs rows))/\Touch [] w w':=by
 obtain⟨hc1,hc2⟩:=hc;obtain⟨hr1,hr2⟩:=hr;subst hn hm;go_enter Tryz.func13,Tryz.ntmps13;have t0:=(Touch.refl [] w).alloc (.cells #[.slice A cs.length c1,.slice B rows.length c2] 27);have hbx:=ah w (.cells #[.slice A cs.length c1,.slice B rows.length c2] 27);have Hbx:=lh hbx;clear hbx;go_wp2;go_loopw [12] (λi wr=>∃k:Nat,k<=cs.length/\i=.int .i64 k/\Ga ((cs.take k).all vT=true)/\Touch [] (w.alloc (.cells #[.slice A cs.length c1,.slice B rows.length c2] 27)) wr) (λi _=>cs.length-(intOf i).toNat)
 case atStart=>exact⟨0,by omega,rfl,lh rfl,Touch.refl _ _⟩
 case round =>
 obtain⟨k,hk,rfl,Hall,ht'⟩:=hrel;have ht:=t0.trans0 ht';by_cases hlt:k<cs.length
 ·obtain⟨ad,b,off,rfl,hadd,e0,e1⟩:=(h.touch0 ht).at_ k hlt;have hcok:=hc2 _ (am hlt);have hno:=lu (p:=vT) hlt;have hyes:=jt (p:=vT) hlt Hall.o;obtain⟨c,hce⟩:∃c,c=cs[k]:=⟨_,rfl⟩;rw[<- hce] at e0 e1 hcok hno hyes;obtain⟨hcn,hct1,hct2⟩:=hcok;have Hno:=lh hno;have Hyes:=lh hyes;clear hce hno hyes Hall;by_cases h1:50<c.name.size
  ·have Hs:=lh (Hno.o (by simp[vT];omega));go_wp2;go_ret;exact⟨eo (by unfold gO;rw[Hs.o];rfl),ht.alloc _⟩
  have Hs:=lh (Hyes.o (by simp[vT];omega));go_wp2;go_roundw
  case rel=>exact⟨k+1,by omega,by go_num,Hs,ht'.alloc _⟩
  case measure=>simp[intOf];omega
 obtain rfl:k=cs.length:=by omega
 have hall:=Hall.o;rw[aH] at hall;have HA:=lh hall;have x1:=ht'.cell (d_ Hbx.o (i:=1) (v:=.slice B rows.length c2) rfl) (by simp);clear hall Hall;go_wp2;clear x1;go_loopw [24] (λi wr2=>∃q:Nat,q<=rows.length/\i=.int .i64 q/\Ga ((rows.take q).all tM=true)/\Touch [] (w.alloc (.cells #[.slice A cs.length c1,.slice B rows.length c2] 27)) wr2) (λi _=>rows.length-(intOf i).toNat)
 case atStart=>exact⟨0,by omega,rfl,lh rfl,ht'⟩
 case round =>
 clear ht' ht;obtain⟨q,hq,rfl,Hall,ht'⟩:=hrel;have ht:=t0.trans0 ht';by_cases hltq:q<rows.length
 ·obtain⟨bd,RA,rc,rfl,r0,hrv⟩:=(h2.touch0 ht).at_ q hltq;have hro:=hr2 _ (am hltq);have hno:=lu (p:=tM) hltq;have hyes:=jt (p:=tM) hltq Hall.o;obtain⟨r,hre⟩:∃r,r=rows[q]:=⟨_,rfl⟩;rw[<- hre] at r0 hrv hro hno hyes;have Hno:=lh hno;have Hyes:=lh hyes;obtain⟨hrl,hrok⟩:=hro;clear hre hno hyes Hall;by_cases h20:20<r.length
  ·have Hs:=lh (Hno.o (by unfold tM;rw[aC (by omega)];rfl));go_wp2;go_ret;exact⟨eo (by unfold gO;rw[HA.o,Hs.o];rfl),ht⟩
  have HsR:=lh (show tM r=r.all tQ by unfold tM;rw[aF (by omega)];rfl);go_wp2;go_loopw [33] (λi w3=>∃j:Nat,j<=r.length/\i=.int .i64 j/\Ga ((r.take j).all tQ=true)/\Touch [] wr w3) (λi _=>r.length-(intOf i).toNat)
  case atStart=>exact⟨0,by omega,rfl,lh rfl,Touch.refl _ _⟩
  case round =>
  obtain⟨j,hj,rfl,Hall,ht3⟩:=hrel;by_cases hltj:j<r.length
  ·obtain⟨vd,vb,voff,rfl,hvadd,f0,f1,f2⟩:=(hrv.touch0 ht3).at_ j hltj;have hvo:=hrok _ (am hltj);have hno:=lu (p:=tQ) hltj;have hyes:=jt (p:=tQ) hltj Hall.o;obtain⟨v,hve⟩:∃v,v=r[j]:=⟨_,rfl⟩;rw[<- hve] at f0 f1 f2 hvo hno hyes;obtain⟨_,_,hvt⟩:=hvo;have Hvno:=lh hno;have Hvyes:=lh hyes;clear hve hno hyes Hall;by_cases h1:100<v.text.size
   ·have Hs:=lh (Hno.o (by rw[HsR.o];exact Hvno.o (by simp[tQ];omega)));go_wp2;go_ret;exact⟨eo (by unfold gO;rw[HA.o,Hs.o];rfl),(ht.trans0 ht3).alloc _⟩
   have Hs:=lh (Hvyes.o (by simp[tQ];omega));go_wp2;go_roundw
   case rel=>exact⟨j+1,by omega,by go_num,Hs,ht3.alloc _⟩
   case measure=>simp[intOf];omega
  obtain rfl:j=r.length:=by omega
  have hall:=Hall.o;rw[aH] at hall;have Hs:=lh (Hyes.o (by rw[HsR.o];exact hall));clear hall Hall;go_wp2;go_roundw
  case rel=>exact⟨q+1,by omega,by go_num,Hs,ht'.trans0 ht3⟩
  case measure=>simp[intOf];omega
 obtain rfl:q=rows.length:=by omega
 have hall:=Hall.o;rw[aH] at hall;have Hs:=lh (show gO cs rows=(decide ((cs.length:Int)<=16)&&decide ((rows.length:Int)<=30)) by unfold gO;rw[HA.o,hall,cM,cM,cD];simp;omega)
 have x0:=ht'.cell (d_ Hbx.o (i:=0) (v:=.slice A cs.length c1) rfl) (by simp);have x1:=ht'.cell (d_ Hbx.o (i:=1) (v:=.slice B rows.length c2) rfl) (by simp);clear hall Hall;by_cases h20:(cs.length:Int)<=16
 ·go_wp2;go_ret;exact⟨eo (by rw[Hs.o,aF h20,cM]),ht⟩
 go_wp2;go_ret;exact⟨eo (by rw[Hs.o,aC (by omega),cL]),ht⟩
end
end Go.Proofs.YtafoklilkdnepaaGreatDoor
