/- Part 17 of the texts of this proof, one behind the other. No condition beyond those that its theorems state. -/
import Derived.Test.YtafoklilkdnepaaGreatDoorRe16
set_option linter.all false
set_option maxRecDepth 40000
set_option maxHeartbeats 25600000
namespace Go.Proofs.YtafoklilkdnepaaGreatDoor
section
open Go.RowKit Go.Shelf Go.Lib Go.Sort
theorem np{α:Type}[Inhabited α](enc:α->Value)(w:World)(q g:Nat)(d:Array α)(os:Array Obj):Touch [g] w (sortWorld enc w g 0 q d os):=by
 have h:Touch [g] w (putRow enc (Go.Sort.ahead w q) g 0 d):=
  ⟨rfl,rfl,rfl,by simp,λk _ hn=>by have:¬g=k:=λe=>hn (by simp[e]);simp[putRow,mapBlock,Array.getElem?_modify,this,Go.Sort.ahead]⟩
 refine⟨h.os,h.tape,h.output, ?_,λk hk hn=> ?_⟩
 ·have:=h.size;simp only[sortWorld,grow,Array.size_append];omega
 rw[<- h.block k hk hn];have hk2:k<(putRow enc (Go.Sort.ahead w q) g 0 d).heap.size:=bW hk h.size;simp only[sortWorld,grow];exact Array.getElem?_append_left hk2
def mh(a b:List VD):Bool:=decide (ej a b<0)
theorem Dk(a:List VD):mh a a=false:=by unfold mh;rw[decide_eq_false_iff_not];have:=fL a a;omega
theorem EM{a b c:List VD}(h1:mh a b=true)(h2:mh b c=true):mh a c=true:=by
 unfold mh at *;have h1:=aN h1;have h2:=aN h2;obtain⟨h3,h4⟩:=ln a b c (by omega) (by omega);refine aF ?_;by_cases hz:ej a c=0
 ·have:=(h4.1 hz).1;omega
 omega
theorem DV{a b c:List VD}(h1:mh a b=false)(h2:mh b c=false):mh a c=false:=by unfold mh at *;have h1:=of_decide_eq_false h1;have h2:=of_decide_eq_false h2;have:=fL a b;have:=fL b c;have:=fL a c;have:=(ln c b a (by omega) (by omega)).1;rw[decide_eq_false_iff_not];omega
def s7(rows:List (List VD))(T:List (SL × List VD))(sl:List SL):Prop:=T.Perm (sl.zip rows)/\(T.map (·.2)).Pairwise λa b=>ej a b<=0
theorem Bd(G c:Nat)(sl:List SL)(rows:List (List VD))(n:Nat)(hn:sl.length=n)(h0:0<n)(hbig:n<=1000000)(w:World)(h:fX w sl rows)(hown:ep 33 1 eT w (some ⟨G,0,none⟩) c sl)(hG:∀ s∈sl,G∉ed s.A)(hrl:∀ r∈rows,r.length<=140737000000000): Calls Tryz.prog 138 #[.slice (some ⟨G,0,none⟩) n c,.func (.func 81) #[] #[]] w λe w'=>e=.returned (.tuple #[])/\Touch [G] w w' /\ ∃T,s7 rows T sl/\d9 eT w' (some ⟨G,0,none⟩) (T.map (·.1)):=by
 subst hn;haveI:Inhabited (Fin sl.length):=⟨⟨0,h0⟩⟩;obtain⟨enc,henc⟩:∃enc:Fin sl.length->Value,enc=λi=>.slice sl[i].A sl[i].n sl[i].c:=⟨_,rfl⟩;obtain⟨rw_,hrw⟩:∃rw_:Fin sl.length->List VD,rw_=λi=>rows.getD i.1 []:=⟨_,rfl⟩;have hrg:∀(i:Fin sl.length)(hi:i.1<rows.length),rw_ i=rows[i.1]:=λi hi=>by rw[hrw];simp[List.getD,hi]
 obtain⟨cf,hcf⟩:∃cf:Fin sl.length->Fin sl.length->Int,cf=λi j=>ej (rw_ i) (rw_ j):=⟨_,rfl⟩;obtain⟨d,hd⟩:∃d:Array (Fin sl.length),d=Array.ofFn id:=⟨_,rfl⟩;have hrs:rows.length=sl.length:=h.1.symm;have hds:d.size=sl.length:=by rw[hd];simp
 have hlt:∀i j,ltOf cf i j=mh (rw_ i) (rw_ j):=λi j=>by rw[hcf];rfl
 have hO:SWO (ltOf cf):=⟨λx=>by rw[hlt];exact Dk _,λx y z h1 h2=>by rw[hlt] at *;exact EM h1 h2,λx y z h1 h2=>by rw[hlt] at *;exact DV h1 h2⟩;have hblk:G<w.heap.size:=hown.lt G (by simp[ed]);have hH:Holds enc w G 0 d:=by
  intro j hj;rw[hds] at hj;have hx:(sl.flatMap eT)[j]?=some (.slice sl[j].A sl[j].n sl[j].c):=by have:=oJ eT 1 eC sl j 0 hj (by omega);rw[bO] at this;exact this
  have hc:=World.ownsRow.cells hown (g:=G) rfl j _ hx;rw[show (⟨G,0,none⟩:Addr).add j=⟨G,0+j,none⟩ by unfold Addr.add;split<;>simp_all] at hc;refine⟨?_, ?_⟩
  ·rw[hc,henc];have hdj:d[j]! = ⟨j,hj⟩:=by rw[getElem!_pos d j (by rw[hds];exact hj)];simp[hd]
   rw[hdj];rfl
  rw[Nat.zero_add];exact hown.free_ j
 have hcmp:CmpLays1 Tryz.prog 81 #[] enc cf G 0 d.size w:=by
  intro m os dk hk x y;have T:=np enc w m G dk os;have key:∀i:Fin sl.length,eu (sortWorld enc w G 0 m dk os) sl[i].A (rw_ i)/\(rw_ i).length=sl[i].n:=λi=>by
   have h1:=h.2 i i.2 (by rw[hrs];exact i.2);rw[hrg i (by rw[hrs];exact i.2)];refine⟨d9.touch h1.2 T (λb hb hm=> ?_),h1.1.symm⟩;have:b=G:=by simpa using hm
   exact hG _ (am i.2) (this ▸ hb)
  have hrl':∀i:Fin sl.length,(rw_ i).length<=140737000000000:=λi=>by rw[hrg i (by rw[hrs];exact i.2)];exact hrl _ (am _)
  have kx:=key x;have ky:=key y;have:=wD sl[x].A sl[y].A sl[x].c sl[y].c sl[x].n sl[y].n (rw_ x) (rw_ y) kx.2 ky.2 (sortWorld enc w G 0 m dk os) kx.1 ky.1 (by rw[<- kx.2];exact hrl' x) (by rw[<- ky.2];exact hrl' y);rw[henc,hcf] at *;refine this.mono ?_;rintro e w' ⟨rfl,g⟩;exact⟨rfl,g.form⟩
 have eg:∀args w,(callFunc 81 args).run Tryz.prog w=.ok (.enter 81 args) w:=enters_of Tryz.func81 (by kernel_rfl) rfl;have hlim:Lib.bitLen d.size<4611686018427387904:=Nat.lt_of_le_of_lt (Lib.bitLen_le d.size 62 (by omega) (by omega)) (by omega);have hpd:=Any.pdqsortCmpFunc_all Tryz.layPdqR enc cf 81 #[] hO G 0 c d w eg hcmp ⟨λi=>by rw[henc];rfl,hH,hblk⟩ (d.size+1) 0 d.size (Lib.bitLen d.size) d w (by omega) rfl (SW.start hH) (aY _) (aL _) (by omega) hlim (bI rfl);rw[hds] at hpd;change Calls Tryz.prog 172 _ _ _ at hpd;have hl:=Tryz.bits_Len (sl.length:Int) w (by omega) (by omega);rw[Int.toNat_natCast] at hl;have wr:IntKind.u64.wrap (sl.length:Int)=sl.length:=by simp[IntKind.wrap,IntKind.bits,IntKind.signed];omega
 have hsort:=pdq_sorts (ltOf cf) hO d 0 sl.length (Lib.bitLen sl.length) true true (aY _) (by rw[hds];exact aL _) (bI rfl);obtain⟨d',hd'⟩:∃d',d'=Go.Sort.pdq (ltOf cf) d 0 sl.length (Lib.bitLen sl.length) true true:=⟨_,rfl⟩;rw[<- hd'] at hpd hsort;have Hpd:=lh hpd;have Hl:=lh hl;have Henc:=lh henc;have Hrs:=lh hrs;clear hpd hl hcmp hd' hlim h hown eg henc hrs;go_enter Tryz.func138,Tryz.ntmps138;go_wp2_with fail;refine Hl.o.mono ?_;rintro e w' ⟨rfl,rfl⟩;go_wp2_with fail;refine Hpd.o.mono ?_;rintro e w1 ⟨rfl,q,os,rfl⟩;go_wp2_with fail;go_end0;obtain⟨hpi,hso⟩:=hsort;have hrs:=Hrs.o;have hds':d'.size=sl.length:=by rw[hpi.1,hds]
 have hpl:d'.toList.Perm d.toList:=by have h3:=hpi.2.2;have e1:=@Array.extract_size _ d';have e2:=@Array.extract_size _ d;rw[hds'] at e1;rw[hds] at e2;rw[e1,e2] at h3;exact h3
 have hdl:d.toList.map (λi=>(sl.get i,rw_ i))=sl.zip rows:=by
  rw[hd];rw[Array.toList_ofFn,List.map_ofFn];refine List.ext_getElem (by simp[hrs]) (λi h1 h2=> ?_);rw[List.getElem_zip];have hi:i<sl.length:=by simpa using h1
  have:=hrg ⟨i,hi⟩ (by rw[hrs];exact hi);simp[this]
 have hSp:(d'.toList.map (λi=>(sl.get i,rw_ i))).Perm (sl.zip rows):=by have:=hpl.map (λi=>(sl.get i,rw_ i));rwa[hdl] at this
 refine⟨rfl,np enc w' q G d' os,d'.toList.map (λi=>(sl.get i,rw_ i)),⟨hSp, ?_⟩, ?_⟩
 ·rw[cI];intro i j hi hj hij;have hi':i<d'.size:=by simpa using hi
  have hj':j<d'.size:=by simpa using hj
  have h1:=hso i j (aY _) hij (by omega);rw[hlt,getElem!_pos d' j hj',getElem!_pos d' i hi'] at h1;unfold mh at h1;have h1:=of_decide_eq_false h1;simp only[List.getElem_map,Array.getElem_toList];have:=fL (rw_ d'[i]) (rw_ d'[j]);omega
 rw[cC];intro _;refine⟨_,rfl,λj u hu=> ?_⟩;have hfm:((d'.toList.map ((fun x:SL × List VD=>x.1) ∘ λi=>(sl.get i,rw_ i))).flatMap eT)=d'.toList.map (λi=>enc i):=by rw[Henc.o,List.flatMap_map];show d'.toList.flatMap (λi=>[(.slice (sl.get i).A (sl.get i).n (sl.get i).c:Value)])=_;exact oD _
 rw[hfm] at hu;obtain⟨hj,hu2⟩:=bS.1 hu;have hj':j<d'.size:=by simpa using hj
 have:=(holds_sortWorld enc w' G 0 q d d' os hblk hH (by rw[hds',hds]) j hj').1;rw[show (⟨G,0,none⟩:Addr).add j=⟨G,0+j,none⟩ by unfold Addr.add;split<;>simp_all,this,getElem!_pos d' j hj',<- hu2];simp
end
end Go.Proofs.YtafoklilkdnepaaGreatDoor
