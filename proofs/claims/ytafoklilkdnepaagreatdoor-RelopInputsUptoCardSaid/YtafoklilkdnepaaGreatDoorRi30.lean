/- Part 30 of the texts of this proof, one behind the other. No condition beyond those that its theorems state. -/
import Derived.Test.YtafoklilkdnepaaGreatDoorRi29
import Derived.Lib.LaidTab
set_option maxRecDepth 40000
set_option maxHeartbeats 25600000
namespace Go.Proofs.YtafoklilkdnepaaGreatDoor
section
open Go.RowKit
theorem checkT_parts {cs:List CD} {rows:List (List VD)} (h:checkT cs rows=0):fitV cs rows=0/\sortedV rows=true:=by
 unfold checkT at h
 by_cases h1:fitV cs rows=0
 ·rw [if_pos h1] at h
  by_cases h2:sortedV rows=true
  ·exact ⟨h1,h2⟩
  ·rw [if_neg h2] at h;exact absurd h (by decide)
 ·rw [if_neg h1] at h;exact absurd h h1
theorem sortedV_step {rows:List (List VD)} (h:sortedV rows=true) (k:Nat) (hk:k+1 < rows.length):cmpRV rows[k] rows[k+1]<=0:=by
 unfold sortedV at h
 rw [List.all_eq_true] at h
 have:=of_decide_eq_true (h k (List.mem_range.2 (by omega)))
 have e1:rows.getD (k+1) []=rows[k+1]:=by simp [List.getD,hk]
 have e2:rows.getD k []=rows[k]:=by simp [List.getD,show k < rows.length by omega]
 rw [e1,e2] at this
 have:=cmpRV_neg rows[k+1] rows[k]
 omega
theorem sortedV_pair {rows:List (List VD)} (h:sortedV rows=true):rows.Pairwise fun a b=>cmpRV a b<=0:=by
 rw [List.pairwise_iff_getElem]
 intro i j hi hj hij
 obtain ⟨d,rfl⟩:∃ d,j=i+1+d:=⟨j-(i+1),by omega⟩
 clear hij
 induction d with
 | zero=>exact sortedV_step h i (by omega)
 | succ d ih =>
  have h1:=ih (by omega)
  have h2:=sortedV_step h (i+1+d) (by omega)
  exact (tr_row _ _ _ h1 h2).1
theorem sortR_same {rows:List (List VD)} (h:rows.Pairwise fun a b=>cmpRV a b<=0):sortR rows=rows:=(sortR_of ⟨.refl _,h⟩).symm
theorem sortR_is (rows:List (List VD)):SortedOf rows (sortR rows):=by
 refine ⟨List.mergeSort_perm _ _, ?_⟩
 have:=List.pairwise_mergeSort (le:=fun a b:List VD=>decide (cmpRV a b<=0))
  (fun a b c h1 h2=>by
   have:=tr_row a b c (of_decide_eq_true h1) (of_decide_eq_true h2)
   exact decide_eq_true this.1)
  (fun a b=>by
   have:=cmpRV_neg a b
   by_cases h:cmpRV a b<=0
   ·rw [decide_eq_true h];rfl
   ·rw [decide_eq_true (show cmpRV b a<=0 by omega),Bool.or_true]) rows
 exact this.imp fun h=>of_decide_eq_true h
theorem fitV_sub {cs:List CD} {rows out:List (List VD)} (h:fitV cs rows=0) (hm:∀ r∈out,r∈rows) (hl:out.length<=rows.length):fitV cs out=0:=by
 obtain ⟨h1,h2,h3⟩:=fitV_zero h
 unfold fitV
 rw [if_pos h1,if_neg (by omega),if_pos]
 rw [List.all_eq_true] at h3 ⊢
 exact fun r hr=>h3 r (hm r hr)
def srcs1 (cs:List CD) (rows:List (List VD)):List SrcD:=[⟨⟨#[120]⟩,cs,rows⟩]
theorem src1_x (cs:List CD) (rows:List (List VD)):srcI (srcs1 cs rows) ⟨#[120]⟩=some 0:=srcI_some (l:=srcs1 cs rows) (k:=0) (by simp [srcs1]) rfl (fun j hj=>absurd hj (by omega))
theorem scan1_x {cs:List CD} {rows:List (List VD)} (h:checkT cs rows=0):scanV (srcs1 cs rows) ⟨#[120]⟩=(0,cs):=by
 unfold scanV
 rw [src1_x]
 simp only [srcs1,List.getElem?_cons_zero]
 exact if_pos h
structure RuAt (W:World) (I:Option Addr) (ic:Nat) (cs:List CD) (rows:List (List VD)):Prop where
 tb:TbOk cs rows
 ck:checkT cs rows=0
 nd:NeedsAt W
 src:SrcsAt W I (srcs1 cs rows)
section
variable {W:World} {I:Option Addr} {ic:Nat} {cs:List CD} {rows:List (List VD)}
theorem RuAt.touch0 {W':World} (h:RuAt W I ic cs rows) (t:Touch [] W W'):RuAt W' I ic cs rows:=⟨h.tb,h.ck,h.nd.touch0 t,h.src.touch0 t⟩
theorem RuAt.fit (h:RuAt W I ic cs rows):fitV cs rows=0:=(checkT_parts h.ck).1
theorem RuAt.check (h:RuAt W I ic cs rows):checkV cs=0:=(fitV_zero h.fit).1
theorem RuAt.pair (h:RuAt W I ic cs rows):rows.Pairwise fun a b=>cmpRV a b<=0:=sortedV_pair (checkT_parts h.ck).2
theorem RuAt.scanT (h:RuAt W I ic cs rows) (d:Int) (hd:d<=16):TypedC W I ic 1 (scanC ⟨#[120]⟩) d (0,cs):=by
 have:=typedC_scan (scanC ⟨#[120]⟩) rfl rfl d hd I ic 1 (srcs1 cs rows) rfl (by omega) (fun s hs=>by
  simp only [srcs1,List.mem_singleton] at hs
  subst hs
  exact h.tb.src _) W h.nd h.src
 rw [show (scanC ⟨#[120]⟩).name=⟨#[120]⟩ from rfl,scan1_x h.ck] at this
 exact this
theorem RuAt.scanE (h:RuAt W I ic cs rows):EvalC W I ic 1 (scanC ⟨#[120]⟩) (0,cs,rows) :=
 evalC_scan (scanC ⟨#[120]⟩) rfl rfl I ic 1 (srcs1 cs rows) rfl (by omega) 0 (by simp [srcs1]) (src1_x cs rows) (by simp only [srcs1,List.getElem_cons_zero];have:=h.tb.n;omega) (by simp only [srcs1,List.getElem_cons_zero];have:=h.tb.m;omega) h.tb.rle W h.src
theorem scanSz (s:ByteArray) (w:World):SizeC w (scanC s) 1:=sizeC_leaf _ rfl w
theorem one_size (x:PC) (hm:x.args.n=1) (y:PC) (hX:RdK pcE W x.args.A [y]) (k:Nat) (hk:k<=100) (hy:SizeC W y k):SizeC W x (1+k):=by
 have:=sizeC_node x [y] [k] W (by rw [hm];rfl) (by rw [hm];rfl) hX (fun i a b=>by
  obtain rfl:i=0:=by simp at a;omega
  exact hy) (by simp;omega) (by omega)
 simpa using this
theorem RuAt.oneT (h:RuAt W I ic cs rows) (x:PC) (kk:Nat) (hk0:x.kind=kk) (hk2:2<=kk) (hk9:kk<=9) (hnd:needV kk=1) (hm:x.args.n=1) (y:PC) (hX:RdK pcE W x.args.A [y]) (d:Int) (hd0:0<=d) (hd:d<=16) (v:Int × List CD) (hy:TypedC W I ic 1 y (d+1) v) (er:Int) (hs:v.1=0->SchemaC W x [v.2] (er,cs)):TypedC W I ic 1 x d (nodeV [v] (er,cs)) :=
 typedC_node x kk 1 hk0 hk2 hk9 hm hnd d hd0 hd I ic 1 W h.nd [y] [v] rfl rfl hX (fun i a b=>by
  obtain rfl:i=0:=by simp at a;omega
  exact hy) (er,cs) (fun h0=>hs (by
   unfold errL at h0
   by_cases hv:v.1=0
   ·exact hv
   ·rw [if_neg hv] at h0;exact h0)) h.tb.cols (by have:=h.tb.n;show cs.length<=_;omega)
theorem errL1 {v:Int × List CD} (h:errL [v]=0):v.1=0:=by
 unfold errL at h
 by_cases hv:v.1=0
 ·exact hv
 ·rw [if_neg hv] at h;exact h
theorem errL2 {u v:Int × List CD} (h:errL [u,v]=0):u.1=0/\v.1=0:=by
 unfold errL at h
 by_cases hv:u.1=0
 ·rw [if_pos hv] at h
  exact ⟨hv,errL1 h⟩
 ·rw [if_neg hv] at h;exact absurd h hv
theorem nodeV_zero {vs:List (Int × List CD)} {v:Int × List CD} (h:(nodeV vs v).1=0):errL vs=0/\v.1=0/\(nodeV vs v)=(0,v.2):=by
 unfold nodeV at h ⊢
 by_cases h1:errL vs=0
 ·rw [if_pos h1] at h ⊢
  by_cases h2:v.1=0
  ·rw [if_pos h2] at h ⊢
   by_cases h3:checkV v.2=0
   ·rw [if_pos h3];exact ⟨h1,h2,rfl⟩
   ·rw [if_neg h3] at h;exact absurd h h3
  ·rw [if_neg h2] at h;exact absurd h h2
 ·rw [if_neg h1] at h;exact absurd h h1
theorem nodeE_zero {vs:List (Int × List CD × List (List VD))} {cs:List CD} {rv:Int × List (List VD)} (h:(nodeE vs cs rv).1=0):errL (vs.map fun v=>(v.1,v.2.1))=0/\rv.1=0/\fitV cs rv.2=0/\nodeE vs cs rv=(0,cs,sortR rv.2):=by
 unfold nodeE at h ⊢
 by_cases h1:errL (vs.map fun v=>(v.1,v.2.1))=0
 ·rw [if_pos h1] at h ⊢
  by_cases h2:rv.1=0
  ·rw [if_pos h2] at h ⊢
   by_cases h3:fitV cs rv.2=0
   ·rw [if_pos h3];exact ⟨h1,h2,h3,rfl⟩
   ·rw [if_neg h3] at h;exact absurd h h3
  ·rw [if_neg h2] at h;exact absurd h h2
 ·rw [if_neg h1] at h;exact absurd h h1
structure CondAt {m:Nat} (W:World) (x:XC) (e:TX m):Prop where
 at_:ExP xcE anyB m W x e
 sz:sizeX m e<=1000000
 tx:allX (fun q=>q.v.text.size<=140737000000000) m e
theorem CondAt.touch0 {m:Nat} {x:XC} {e:TX m} {W':World} (h:CondAt W x e) (t:Touch [] W W'):CondAt W' x e:=⟨h.at_.touch0 t,h.sz,h.tx⟩
theorem CondAt.ets {m:Nat} {x:XC} {e:TX m} (h:CondAt W x e) (hc:∀ c∈cs,c.Ok) (hl:cs.length<=16):ETypeS W x cs (typeX cs m e) :=
 fun w' A c t hcs=>typeX_any m e x A c cs.length cs rfl hc w' (h.at_.touch0 t) hcs (by omega) h.sz h.tx
def whT {m:Nat} (cs:List CD) (e:TX m):Int × List CD:=nodeV [(0,cs)] ((typeX cs m e).2,cs)
def whE {m:Nat} (cs:List CD) (rows:List (List VD)) (e:TX m):Int × List CD × List (List VD):=nodeE [(0,cs,rows)] cs (whereV cs e rows)
theorem whereV_mem {m:Nat} {e:TX m} {r:List VD} (h:r∈(whereV cs e rows).2):r∈rows:=by
 unfold whereV at h
 split at h
 ·exact (List.mem_filter.1 h).1
 ·simp at h
theorem whereV_le {m:Nat} (e:TX m):(whereV cs e rows).2.length<=rows.length:=by
 unfold whereV
 split
 ·exact List.length_filter_le _ _
 ·simp
theorem RuAt.whT (h:RuAt W I ic cs rows) {m:Nat} (x:PC) (hk0:x.kind=2) (hm:x.args.n=1) (hX:RdK pcE W x.args.A [scanC ⟨#[120]⟩]) (e:TX m) (hc:CondAt W x.cond e) (d:Int) (hd0:0<=d) (hd:d<=15):TypedC W I ic 1 x d (whT cs e) :=
 h.oneT x 2 hk0 (by omega) (by omega) rfl hm _ hX d hd0 (by omega) (0,cs) (h.scanT _ (by omega)) _ (fun _=>schemaC_where x hk0 cs _ W (hc.ets h.tb.cols h.tb.n))
theorem RuAt.whE (h:RuAt W I ic cs rows) {m:Nat} (x:PC) (hk0:x.kind=2) (hm:x.args.n=1) (hX:RdK pcE W x.args.A [scanC ⟨#[120]⟩]) (e:TX m) (hc:CondAt W x.cond e):EvalC W I ic 1 x (whE cs rows e):=by
 refine evalC_node x 2 1 hk0 (by omega) hm (by omega) I ic 1 W [scanC ⟨#[120]⟩] [(0,cs,rows)] rfl rfl hX (fun i a b => ?_) _ cs (fun _=>schemaC_where x hk0 cs _ W (hc.ets h.tb.cols h.tb.n)) _ (fun _ => ?_) h.tb.cols (by have:=h.tb.n;omega) (fun r hr=>h.tb.rok r (whereV_mem hr)) (fun r hr=>h.tb.rle r (whereV_mem hr)) (by have:=whereV_le (cs:=cs) (rows:=rows) e;have:=h.tb.m;omega)
 ·obtain rfl:i=0:=by simp at a;omega
  exact h.scanE
 ·exact rowsC_where x hk0 e cs rows W hc.at_ h.tb.cols (by have:=h.tb.n;omega) (by have:=h.tb.m;omega) h.tb.rok hc.sz hc.tx
theorem whE_len {m:Nat} (e:TX m):(_root_.Go.Proofs.YtafoklilkdnepaaGreatDoor.whE cs rows e).2.2.length<=rows.length:=by
 unfold _root_.Go.Proofs.YtafoklilkdnepaaGreatDoor.whE nodeE
 have h0:=whereV_le (cs:=cs) (rows:=rows) e
 have h1:(sortR (whereV cs e rows).2).length=(whereV cs e rows).2.length:=(sortR_is _).1.length_eq
 split
 ·split
  ·split
   ·dsimp only;omega
   ·simp
  ·simp
 ·simp
theorem whE_mem {m:Nat} {e:TX m} {r:List VD} (h:r∈(_root_.Go.Proofs.YtafoklilkdnepaaGreatDoor.whE cs rows e).2.2):r∈rows:=by
 unfold _root_.Go.Proofs.YtafoklilkdnepaaGreatDoor.whE nodeE at h
 split at h
 ·split at h
  ·split at h
   ·exact whereV_mem ((sortR_is _).1.mem_iff.1 h)
   ·simp at h
  ·simp at h
 ·simp at h
def boT {m:Nat} (cs:List CD) (e:TX m):Int × List CD:=nodeV [whT cs e,whT cs (notX m e)] (0,cs)
def boE {m:Nat} (cs:List CD) (rows:List (List VD)) (e:TX m):Int × List CD × List (List VD):=nodeE [whE cs rows e,whE cs rows (notX m e)] cs (0,(whE cs rows e).2.2++(whE cs rows (notX m e)).2.2)
theorem RuAt.both (h:RuAt W I ic cs rows) {m:Nat} (x y z:PC) (hk0:x.kind=7) (hm:x.args.n=2) (hX:RdK pcE W x.args.A [y,z]) (e:TX m)
  (hky:y.kind=2) (hmy:y.args.n=1) (hXy:RdK pcE W y.args.A [scanC ⟨#[120]⟩]) (hcy:CondAt W y.cond e)
  (hkz:z.kind=2) (hmz:z.args.n=1) (hXz:RdK pcE W z.args.A [scanC ⟨#[120]⟩]) (hcz:CondAt W z.cond (notX m e)) :
  Calls Tryz.prog 12 #[x.val,.slice I 1 ic] W (EvPost (topV (boT cs e) (boE cs rows e)) W):=by
 have hcl:=h.tb.n
 have heq:eqCs cs cs=true:=(eqCs_iff _ _).2 rfl
 have hsch:SchemaC W x [cs,cs] (0,cs):=by
  have:=schemaC_union x hk0 cs cs (by omega) (by omega) W
  rw [if_pos heq] at this
  exact this
 refine evalTop x 5 (by omega) I ic 1 _ _ W ?_ ?_ (fun _ => ?_)
 ·have:=sizeC_node x [y,z] [2,2] W (by rw [hm];rfl) (by rw [hm];rfl) hX (fun i a b=>by
   have:i=0\/i=1:=by simp at a;omega
   rcases this with rfl | rfl
   ·exact one_size y hmy _ hXy 1 (by omega) (scanSz _ W)
   ·exact one_size z hmz _ hXz 1 (by omega) (scanSz _ W)) (by simp) (by omega)
  exact this
 ·refine typedC_node x 7 2 hk0 (by omega) (by omega) hm rfl 1 (by omega) (by omega) I ic 1 W h.nd [y,z] [_,_] rfl rfl hX (fun i a b => ?_) (0,cs) (fun h0 => ?_) h.tb.cols (by show cs.length<=_;omega)
  ·have:i=0\/i=1:=by simp at a;omega
   rcases this with rfl | rfl
   ·exact h.whT y hky hmy hXy e hcy _ (by omega) (by omega)
   ·exact h.whT z hkz hmz hXz _ hcz _ (by omega) (by omega)
  ·obtain ⟨h1,h2⟩:=errL2 h0
   have e1:=(nodeV_zero h1).2.2
   have e2:=(nodeV_zero h2).2.2
   show SchemaC W x [(_root_.Go.Proofs.YtafoklilkdnepaaGreatDoor.whT cs e).2,(_root_.Go.Proofs.YtafoklilkdnepaaGreatDoor.whT cs (notX m e)).2] (0,cs)
   unfold _root_.Go.Proofs.YtafoklilkdnepaaGreatDoor.whT
   rw [e1,e2]
   exact hsch
 ·refine evalC_node x 7 2 hk0 (by omega) hm (by omega) I ic 1 W [y,z] [_,_] rfl rfl hX (fun i a b => ?_) 0 cs (fun h0 => ?_) (0,_) (fun _ => ?_) h.tb.cols (by omega) ?_ ?_ ?_
  ·have:i=0\/i=1:=by simp at a;omega
   rcases this with rfl | rfl
   ·exact h.whE y hky hmy hXy e hcy
   ·exact h.whE z hkz hmz hXz _ hcz
  ·obtain ⟨h1,h2⟩:=errL2 h0
   have e1:=(nodeE_zero h1).2.2.2
   have e2:=(nodeE_zero h2).2.2.2
   show SchemaC W x [(_root_.Go.Proofs.YtafoklilkdnepaaGreatDoor.whE cs rows e).2.1,(_root_.Go.Proofs.YtafoklilkdnepaaGreatDoor.whE cs rows (notX m e)).2.1] (0,cs)
   unfold _root_.Go.Proofs.YtafoklilkdnepaaGreatDoor.whE
   rw [e1,e2]
   exact hsch
  ·have l1:=whE_len (cs:=cs) (rows:=rows) e
   have l2:=whE_len (cs:=cs) (rows:=rows) (notX m e)
   have:=h.tb.m
   exact rowsC_union x hk0 _ _ (_root_.Go.Proofs.YtafoklilkdnepaaGreatDoor.whE cs rows e).2.2 (_root_.Go.Proofs.YtafoklilkdnepaaGreatDoor.whE cs rows (notX m e)).2.2 W (by omega) (by omega)
  ·intro r hr
   rcases List.mem_append.1 hr with hr | hr
   ·exact h.tb.rok r (whE_mem hr)
   ·exact h.tb.rok r (whE_mem hr)
  ·intro r hr
   rcases List.mem_append.1 hr with hr | hr
   ·exact h.tb.rle r (whE_mem hr)
   ·exact h.tb.rle r (whE_mem hr)
  ·have l1:=whE_len (cs:=cs) (rows:=rows) e
   have l2:=whE_len (cs:=cs) (rows:=rows) (notX m e)
   have:=h.tb.m
   rw [List.length_append];omega
theorem topV_zero {v:Int × List CD} {ev:Int × List CD × List (List VD)} (h:(topV v ev).1=0):v.1=0/\ev.1=0/\topV v ev=ev:=by
 unfold topV at h ⊢
 by_cases h1:v.1=0
 ·rw [if_pos h1] at h ⊢;exact ⟨h1,h,rfl⟩
 ·rw [if_neg h1] at h;exact absurd h h1
theorem RuAt.bothV (h:RuAt W I ic cs rows) {m:Nat} (e:TX m) (h0:(topV (boT cs e) (boE cs rows e)).1=0):topV (boT cs e) (boE cs rows e)=(0,cs,rows):=by
 obtain ⟨-,h1,h2⟩:=topV_zero h0
 rw [h2]
 obtain ⟨g1, -, -,g4⟩:=nodeE_zero h1
 unfold boE
 rw [g4]
 obtain ⟨p1,p2⟩:=errL2 g1
 obtain ⟨-,q1, -,q2⟩:=nodeE_zero p1
 obtain ⟨-,r1, -,r2⟩:=nodeE_zero p2
 unfold _root_.Go.Proofs.YtafoklilkdnepaaGreatDoor.whE at *
 rw [q2,r2]
 unfold whereV at q1 r1 ⊢
 have z1:errF (fun r=>(topX cs r m e).2) rows=0:=by
  by_cases hz:errF (fun r=>(topX cs r m e).2) rows=0
  ·exact hz
  ·rw [if_neg hz] at q1;exact q1
 have z2:errF (fun r=>(topX cs r (m+1) (notX m e)).2) rows=0:=by
  by_cases hz:errF (fun r=>(topX cs r (m+1) (notX m e)).2) rows=0
  ·exact hz
  ·rw [if_neg hz] at r1;exact r1
 rw [if_pos z1,if_pos z2]
 have:=parts_sorted (fun r=>(topX cs r m e).1.tru) (fun r=>(topX cs r (m+1) (notX m e)).1.tru) (rows:=rows) h.pair (fun r hr=>topX_not (errF_all z1 r hr) (errF_all z2 r hr)) (sortR_is _) (sortR_is _) (sortR_is _)
 rw [this]
def soV (cs:List CD) (rows:List (List VD)) (count:Int):Int × List CD × List (List VD):=if count < 0 then (20,[],[]) else (0,cs,rows.take count.toNat)
theorem RuAt.some (h:RuAt W I ic cs rows) (x:PC) (hk0:x.kind=9) (hm:x.args.n=1) (hX:RdK pcE W x.args.A [scanC ⟨#[120]⟩]) (hb:x.by_.n=0) :
  Calls Tryz.prog 12 #[x.val,.slice I 1 ic] W (EvPost (soV cs rows x.count) W):=by
 have hcl:=h.tb.n
 have hrl:=h.tb.m
 have hsz:=one_size x hm _ hX 1 (by omega) (scanSz _ W)
 have hsch:=schemaC_first x hk0 [] (by rw [hb];rfl) (by simp) cs (by omega) W (RdK.nil _ _ _)
 have hty:=h.oneT x 9 hk0 (by omega) (by omega) rfl hm _ hX 1 (by omega) (by omega) (0,cs) (h.scanT _ (by omega)) _ (fun _=>hsch)
 by_cases hc:x.count < 0
 ·have hv:byV cs [] x.count=20:=by unfold byV;rw [if_pos hc]
  have hn:nodeV [(0,cs)] (byV cs [] x.count,cs)=(20,[]):=by rw [hv];rfl
  rw [hn] at hty
  have:=evalTop x 2 (by omega) I ic 1 (20,[]) (20,[],[]) W hsz hty (fun q=>absurd q (by decide))
  rw [show topV (20,[]) (20,[],[])=(20,[],[]) from rfl] at this
  unfold soV
  rw [if_pos hc]
  exact this
 ·have hv:byV cs [] x.count=0:=by unfold byV;rw [if_neg hc];rfl
  rw [hv,nodeV_ok rfl rfl h.check] at hty
  rw [hv] at hsch
  have hmem:∀ r∈rows.take x.count.toNat,r∈rows:=fun r hr=>List.mem_of_mem_take hr
  have htl:(rows.take x.count.toNat).length<=rows.length:=by rw [List.length_take];omega
  have hE:=evalC_node x 9 1 hk0 (by omega) hm (by omega) I ic 1 W [scanC ⟨#[120]⟩] [(0,cs,rows)] rfl rfl hX (fun i a b=>by
   obtain rfl:i=0:=by simp at a;omega
   exact h.scanE) 0 cs (fun _=>hsch) (0,rows.take x.count.toNat) (fun _=>by
    have:=rowsC_first x hk0 cs [] rows W (by rw [hb];rfl) (RdK.nil _ _ _) (by omega) (by omega) (by omega) (by simp) (fun r hr=>⟨by have:=(h.tb.r r hr).1;omega,by simp⟩)
    rw [firstL_none] at this
    exact this) h.tb.cols (by omega) (fun r hr=>h.tb.rok r (hmem r hr)) (fun r hr=>h.tb.rle r (hmem r hr)) (by show (rows.take x.count.toNat).length<=_;omega)
  rw [nodeE_ok rfl rfl (fitV_sub h.fit hmem htl)] at hE
  have hs:sortR (rows.take x.count.toNat)=rows.take x.count.toNat:=sortR_same (h.pair.sublist (List.take_sublist _ _))
  rw [show ((0:Int),rows.take x.count.toNat).2=rows.take x.count.toNat from rfl,hs] at hE
  have:=evalTop x 2 (by omega) I ic 1 (0,cs) _ W hsz hty (fun _=>hE)
  rw [show topV (0,cs) (0,cs,rows.take x.count.toNat)=(0,cs,rows.take x.count.toNat) from if_pos rfl] at this
  unfold soV
  rw [if_neg hc]
  exact this
end
end
section
open Go.RowKit
def PowAt (w:World):Prop:=Lib.TabIs Tryz.prog w "internal/strconv.uint64pow10" .u64 Lib.pow10Tab
theorem PowAt.touch0 {w w':World} (h:PowAt w) (t:Touch [] w w'):PowAt w':=by
 unfold PowAt Lib.TabIs World.var? at h ⊢
 cases hg:Tryz.prog.globalNamed "internal/strconv.uint64pow10" with
 | none=>rw [hg] at h;cases h
 | some g =>
  rw [hg] at h
  simp only [Option.bind_some] at h ⊢
  cases hh:w.heap[g]? with
  | none=>rw [hh] at h;cases h
  | some o=>rw [t.blk hh (by simp)];rw [hh] at h;exact h
theorem Touch.of_grow {w:World} (k:Nat) (os:Array Obj):Touch [] w (Go.Sort.grow (w.drewN k) os):=by
 refine ⟨rfl,rfl,rfl, ?_,fun j hj _ => ?_⟩
 ·show w.heap.size<=(w.heap++os).size
  rw [Array.size_append];omega
 ·exact Array.getElem?_append_left hj
def quoB (s:List UInt8):List UInt8:=s.flatMap (fun c=>if c=34\/c=92 then [92,c] else [c])
theorem quoB_snoc (s:List UInt8) (c:UInt8):quoB (s++[c])=quoB s++(if c=34\/c=92 then [92,c] else [c]):=by
 unfold quoB;simp
theorem quoB_le (s:List UInt8):(quoB s).length<=2*s.length:=by
 have:=quot_le s
 unfold quotL at this
 rw [List.length_cons,List.length_append,List.length_singleton] at this
 unfold quoB;omega
theorem quoted_any (t:List UInt8) (hs:t.length<=1000000) (w:World) :
  Calls Tryz.prog 194 #[.string (S t)] w fun e w'=>e=.returned (.string (S (quotL t)))/\Touch [] w w':=by
 obtain ⟨W1,hW1⟩:∃ W1,W1=w.alloc (.cells #[.int .u8 34] 5):=⟨_,rfl⟩
 have t1:Touch [] w W1:=hW1 ▸ (Touch.refl [] w).alloc _
 have ho1:OwnB W1 (some ⟨w.heap.size,0,none⟩) 1 [34]:=hW1 ▸ OwnB.new w [34] (by simp [maxLen])
 have hs1:W1.heap.size=w.heap.size+1:=by rw [hW1];simp
 have hconv:=run_bytes_of t W1
 have hsz:=S_size t
 have hr:=rd_bytes W1 t
 have ht:=touch_bytes W1 t
 obtain ⟨W,hW⟩:∃ W,W=Lib.bytesWorld W1 5 (S t):=⟨_,rfl⟩
 rw [<- hW] at hconv hr ht
 have HO1:=lh (ho1.touch0 ht)
 have HT1:=lh (And.intro t1 (And.intro ht hs1))
 have HR:=lh hr
 have HW1:=lh hW1
 clear hW hW1 ho1 t1 ht hr
 go_enter Tryz.func194,Tryz.ntmps194
 go_upto_region 2 with fail
 rw [<- HW1.out]
 clear hs1
 go_wp2_with fail
 clear hconv
 go_loopw [3,10] (fun o i wr=>∃ (k m:Nat) (B:Option Addr) (c:Nat),k<=t.length/\i=.int .i64 k/\o=.slice B m c/\Hid ((34 :: quoB (t.take k)).length=m)/\Hid (OwnB wr B c (34 :: quoB (t.take k)))/\Hid (∀ b∈fpo B,b=w.heap.size\/W.heap.size<=b)/\Hid (Touch [w.heap.size] W wr)) (fun _ i _=>t.length-(intOf i).toNat)
 case atStart=>exact ⟨0,1,_,1,by omega,rfl,rfl,lh (by simp [quoB]),lh HO1.out,lh (by simp [fpo]),lh (Touch.refl _ _)⟩
 case round =>
  obtain ⟨k,m,B,c,hk,rfl,rfl,HM,HO,HF,HT⟩:=hrel
  have hmb:m<=2*k+1:=by
   have h1:=HM.out
   have h2:=quoB_le (t.take k)
   rw [List.length_cons] at h1
   rw [List.length_take] at h2
   omega
  by_cases hlt:k < t.length
  ·have hrr:RdB wr (some ⟨W1.heap.size,0,none⟩) t:=Rd.touch HR.out HT.out (by simp [fpo,HT1.out.2.2])
   obtain ⟨ad,e1,hcell⟩:=hrr.at_ k hlt
   obtain rfl:⟨W1.heap.size,0,none⟩=ad:=by injection e1
   obtain ⟨x,hx⟩:∃ x,x=t[k]:=⟨_,rfl⟩
   have hadd:(⟨W1.heap.size,0,none⟩:Addr).add k=⟨W1.heap.size,k,none⟩:=by unfold Addr.add;split <;> simp_all
   have htk:=List.take_succ_eq_append_getElem hlt
   rw [<- hx] at hcell htk
   rw [hadd] at hcell
   have hxl:=x.toNat_lt
   have hnx:quoB (t.take (k+1))=quoB (t.take k)++(if x=34\/x=92 then [92,x] else [x]):=by rw [htk,quoB_snoc]
   have Hnx:=lh hnx
   clear hnx htk hx e1 hadd
   by_cases hq:x=34\/x=92
   ·have Hn2:=lh (show 34 :: quoB (t.take (k+1))=34 :: quoB (t.take k)++[92]++[x] by rw [Hnx.out,if_pos hq];simp)
    have hq':((x.toNat:Int)==34)=true/\True\/((x.toNat:Int)==34)=false/\((x.toNat:Int)==92)=true:=by
     rcases hq with rfl | rfl
     ·exact .inl ⟨rfl,trivial⟩
     ·exact .inr ⟨rfl,rfl⟩
    clear hq
    rcases hq' with ⟨hq1,hq2⟩ | ⟨hq1,hq2⟩ <;> go_wp2_with (at_builtin;refine stop ?_)
    all_goals
     refine go ?_
     refine wpList_appB rfl (.tmp 20) (.tmp 21) rfl B m c (34 :: quoB (t.take k)) HM.out rfl (HO.out.touch0 ((Touch.refl [] wr).alloc _)) (some ⟨wr.heap.size,0,none⟩) 1 1 [92] rfl rfl (RdB.one' wr 92 rfl) (by omega) ?_
     intro B2 c2 w2 ho2 ht2 hf2
     rw [World.size_alloc] at hf2
     have hl2:(34 :: quoB (t.take k)++[92]).length=m+1:=by rw [List.length_append,HM.out];rfl
     have H2:=lh (And.intro ho2 (And.intro ht2 (And.intro hf2 hl2)))
     clear ho2 ht2 hf2 hl2
     go_wp2_with (at_builtin;refine stop ?_)
     refine go ?_
     refine wpList_appB rfl (.tmp 23) (.tmp 25) rfl B2 (m+1) c2 _ H2.out.2.2.2 rfl (H2.out.1.touch0 ((Touch.refl [] w2).alloc _)) (some ⟨w2.heap.size,0,none⟩) 1 1 [x] rfl rfl (RdB.one' w2 x rfl) (by omega) ?_
     intro B3 c3 w3 ho3 ht3 hf3
     rw [World.size_alloc] at hf3
     have H3:=lh (And.intro ho3 (And.intro ht3 hf3))
     clear ho3 ht3 hf3
     go_wp2_with fail
     go_roundw
     case rel =>
      obtain ⟨ho2,ht2,hf2,hl2⟩:=H2.out
      obtain ⟨ho3,ht3,hf3⟩:=H3.out
      have hsw:=HT.out.size
      have hs2:=ht2.size
      rw [World.size_alloc] at hs2
      refine ⟨k+1,m+1+1,B3,c3,by omega,by go_num,rfl,lh ?_,lh ?_,lh ?_,lh ?_⟩
      ·rw [Hn2.out,List.length_append,hl2];rfl
      ·rw [Hn2.out];exact ho3
      ·intro b hb
       rcases hf3 b hb with q | q
       ·rcases hf2 b q with q | q
        ·exact HF.out b q
        ·right;omega
       ·right;omega
      ·refine ((HT.out.alloc _).trans ht2 (fun b hb => ?_)).alloc _ |>.trans ht3 (fun b hb => ?_)
       ·rcases HF.out b hb with q | q
        ·left;simp [q]
        ·right;exact q
       ·rcases hf2 b hb with q | q
        ·rcases HF.out b q with q | q
         ·left;simp [q]
         ·right;exact q
        ·right;omega
     case measure=>simp [intOf];omega
   ·have Hn2:=lh (show 34 :: quoB (t.take (k+1))=34 :: quoB (t.take k)++[x] by rw [Hnx.out,if_neg hq];simp)
    have hq1:((x.toNat:Int)==34)=false:=by
     rw [beq_eq_false_iff_ne]
     intro h
     exact hq (.inl (UInt8.toNat_inj.1 (by show x.toNat=34;omega)))
    have hq2:((x.toNat:Int)==92)=false:=by
     rw [beq_eq_false_iff_ne]
     intro h
     exact hq (.inr (UInt8.toNat_inj.1 (by show x.toNat=92;omega)))
    clear hq
    go_wp2_with (at_builtin;refine stop ?_)
    refine go ?_
    refine wpList_appB rfl (.tmp 23) (.tmp 25) rfl B m c (34 :: quoB (t.take k)) HM.out rfl (HO.out.touch0 ((Touch.refl [] wr).alloc _)) (some ⟨wr.heap.size,0,none⟩) 1 1 [x] rfl rfl (RdB.one' wr x rfl) (by omega) ?_
    intro B2 c2 w2 ho2 ht2 hf2
    rw [World.size_alloc] at hf2
    have H2:=lh (And.intro ho2 (And.intro ht2 hf2))
    clear ho2 ht2 hf2
    go_wp2_with fail
    go_roundw
    case rel =>
     obtain ⟨ho2,ht2,hf2⟩:=H2.out
     have hsw:=HT.out.size
     refine ⟨k+1,m+1,B2,c2,by omega,by go_num,rfl,lh ?_,lh ?_,lh ?_,lh ?_⟩
     ·rw [Hn2.out,List.length_append,HM.out];rfl
     ·rw [Hn2.out];exact ho2
     ·intro b hb
      rcases hf2 b hb with q | q
      ·exact HF.out b q
      ·right;omega
     ·refine (HT.out.alloc _).trans ht2 (fun b hb => ?_)
      rcases HF.out b hb with q | q
      ·left;simp [q]
      ·right;exact q
    case measure=>simp [intOf];omega
  ·obtain rfl:k=t.length:=by omega
   have hfin:34 :: quoB (t.take t.length)++[34]=quotL t:=by
    rw [List.take_length];rfl
   have Hf:=lh hfin
   clear hfin
   go_wp2_with (at_builtin;refine stop ?_)
   refine go ?_
   refine wpList_appB rfl (.tmp 28) (.tmp 29) rfl B m c (34 :: quoB (t.take t.length)) HM.out rfl (HO.out.touch0 ((Touch.refl [] wr).alloc _)) (some ⟨wr.heap.size,0,none⟩) 1 1 [34] rfl rfl (RdB.one' wr 34 rfl) (by omega) ?_
   intro B2 c2 w2 ho2 ht2 hf2
   have hl2:(34 :: quoB (t.take t.length)++[34]).length=m+1:=by rw [List.length_append,HM.out];rfl
   have hst:=run_str_of c2 hl2 ho2.rd
   rw [Hf.out] at hst
   have H2:=lh ((HT.out.alloc _).trans ht2 (fun b hb=>by
    rcases HF.out b hb with q | q
    ·left;simp [q]
    ·right;exact q))
   clear ho2 ht2 hf2 hl2
   go_wp2_with fail
   go_ret
   exact ⟨rfl,(HT1.out.1.trans0 HT1.out.2.1).trans H2.out (fun b hb=>.inr (by simp at hb;omega))⟩
theorem show_any (v:VD) (hv:v.Ok 140737000000000) (w:World) (hP:PowAt w) :
  Calls Tryz.prog 170 #[v.val] w fun e w'=>e=.returned (.string (S (showL v)))/\Touch [] w w':=by
 obtain ⟨k,n,s⟩:=v
 obtain ⟨-,⟨hn1,hn2⟩,hts⟩:=hv
 dsimp only [VD.val] at *
 have t0:=(Touch.refl [] w).alloc (.cells #[.int .i64 k,.int .i64 n,.string s] 31)
 have hb:=heap_alloc_new w (.cells #[.int .i64 k,.int .i64 n,.string s] 31)
 have Hr:=lh (right_any ⟨k,n,s⟩ hts (w.alloc (.cells #[.int .i64 k,.int .i64 n,.string s] 31)))
 have Hi:=lh fun w' (t:Touch [] w w')=>Tryz.strconv_Itoa n hn1 hn2 w' (hP.touch0 t)
 have HB:=lh (And.intro t0 hb)
 simp only [VD.val] at Hr
 clear t0 hb
 by_cases hr:VD.right ⟨k,n,s⟩=true
 ·rw [hr] at Hr
  by_cases h0:k=0
  ·subst h0
   have Hs:=lh (show showL ⟨0,n,s⟩=[110,117,108,108] by unfold showL;rw [if_neg (by rw [hr];simp),if_pos rfl])
   clear hr
   go_enter Tryz.func170,Tryz.ntmps170
   go_wp2_with fail
   refine Hr.out.mono ?_
   rintro e w1 ⟨rfl,t1⟩
   obtain ⟨z0,z1,z2,_,_,_⟩:=blk3 (t1.blk HB.out.2 (by simp))
   have HT:=lh (HB.out.1.trans0 t1)
   clear t1
   go_wp2_with fail
   go_ret
   exact ⟨by rw [Hs.out];rfl,HT.out⟩
  ·have h0':(k==0)=false:=by rw [beq_eq_false_iff_ne];exact h0
   by_cases h1:k=1
   ·subst h1
    have Hs:=lh (show showL ⟨1,n,s⟩=Lib.itoa n by unfold showL;rw [if_neg (by rw [hr];simp),if_neg h0,if_pos rfl])
    clear hr
    go_enter Tryz.func170,Tryz.ntmps170
    go_wp2_with fail
    refine Hr.out.mono ?_
    rintro e w1 ⟨rfl,t1⟩
    obtain ⟨z0,z1,z2,_,_,_⟩:=blk3 (t1.blk HB.out.2 (by simp))
    have HT:=lh (HB.out.1.trans0 t1)
    clear t1
    go_wp2_with fail
    refine (Hi.out _ HT.out).mono ?_
    rintro e w2 ⟨rfl,kk,os,hw⟩
    have t2:Touch [] w1 w2:=hw ▸ Touch.of_grow kk os
    have HT2:=lh (HT.out.trans0 t2)
    clear hw t2
    go_wp2_with fail
    go_ret
    exact ⟨by rw [Hs.out];rfl,HT2.out⟩
   ·have h1':(k==1)=false:=by rw [beq_eq_false_iff_ne];exact h1
    have hp:s.data.toList.length<=64:=by
     unfold VD.right at hr
     dsimp only at hr
     rw [if_neg h0,if_neg h1] at hr
     split at hr
     ·have:=(Bool.and_eq_true_iff.1 hr).2
      unfold plainV at this
      exact of_decide_eq_true (Bool.and_eq_true_iff.1 this).2
     ·cases hr
    have hq:=fun w'=>quoted_any s.data.toList (by omega) w'
    rw [S_of] at hq
    have Hq:=lh hq
    have Hs:=lh (show showL ⟨k,n,s⟩=quotL s.data.toList by unfold showL;rw [if_neg (by rw [hr];simp),if_neg h0,if_neg h1])
    clear hr hp hq
    go_enter Tryz.func170,Tryz.ntmps170
    go_wp2_with fail
    refine Hr.out.mono ?_
    rintro e w1 ⟨rfl,t1⟩
    obtain ⟨z0,z1,z2,_,_,_⟩:=blk3 (t1.blk HB.out.2 (by simp))
    have HT:=lh (HB.out.1.trans0 t1)
    clear t1
    go_wp2_with fail
    refine (Hq.out _).mono ?_
    rintro e w2 ⟨rfl,t2⟩
    have HT2:=lh (HT.out.trans0 t2)
    clear t2
    go_wp2_with fail
    go_ret
    exact ⟨by rw [Hs.out];rfl,HT2.out⟩
 ·have hr:VD.right ⟨k,n,s⟩=false:=by simpa using hr
  rw [hr] at Hr
  have Hs:=lh (show showL ⟨k,n,s⟩=[] by unfold showL;rw [if_pos hr])
  clear hr
  go_enter Tryz.func170,Tryz.ntmps170
  go_wp2_with fail
  refine Hr.out.mono ?_
  rintro e w1 ⟨rfl,t1⟩
  have HT:=lh (HB.out.1.trans0 t1)
  clear t1
  go_wp2_with fail
  go_ret
  exact ⟨by rw [Hs.out];rfl,HT.out⟩
theorem showAt_any (v:VD) (hv:v.Ok 140737000000000) (w:World) (hP:PowAt w):ShowAt w v:=fun w' t=>show_any v hv w' (hP.touch0 t)
end
end Go.Proofs.YtafoklilkdnepaaGreatDoor
