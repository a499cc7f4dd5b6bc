/- Part 31 of the texts of this proof, one behind the other. No condition beyond those that its theorems state. -/
import Derived.Test.YtafoklilkdnepaaGreatDoorRi30
set_option maxRecDepth 40000
set_option maxHeartbeats 25600000
namespace Go.Proofs.YtafoklilkdnepaaGreatDoor
section
open Go.RowKit
structure GdT (cs:List CD) (rows:List (List VD)):Prop where
 fit:fitV cs rows=0
 c:∀ c∈cs,c.name.size<=1048576/\tW c.typ
 v:∀ r∈rows,∀ v∈r,OkV v
section
variable {cs:List CD} {rows:List (List VD)}
theorem GdT.n0 (h:GdT cs rows):0 < cs.length:=(check_zero (fitV_zero h.fit).1).1
theorem GdT.n (h:GdT cs rows):cs.length<=16:=(check_zero (fitV_zero h.fit).1).2.1
theorem GdT.m (h:GdT cs rows):rows.length<=4096:=(fitV_zero h.fit).2.1
theorem GdT.len (h:GdT cs rows):∀ r∈rows,r.length=cs.length:=fun r hr=>fitR_len (List.all_eq_true.1 (fitV_zero h.fit).2.2 r hr)
theorem GdT.cols (h:GdT cs rows):∀ c∈cs,c.Ok:=fun c hc=>CD.ok_w (h.c c hc).1 (h.c c hc).2
theorem GdT.rok (h:GdT cs rows):RowsOk rows:=fun r hr=>⟨by have:=h.len r hr;have:=h.n;omega,h.v r hr⟩
theorem GdT.rle (h:GdT cs rows):RowsLe rows:=fun r hr=>by have:=h.len r hr;have:=h.n;omega
theorem GdT.good (h:GdT cs rows) {W:World} (hP:PowAt W):GoodR W rows cs.length:=fun r hr=>⟨h.len r hr,fun v hv=>⟨showAt_any v (h.v r hr v hv) W hP,h.v r hr v hv⟩⟩
end
structure BdR (rows:List (List VD)):Prop where
 n:rows.length<=100000
 r:∀ r∈rows,r.length<=100/\∀ v∈r,OkV v
theorem BdR.nil:BdR []:=⟨by simp,by simp⟩
theorem BdR.rok {rows:List (List VD)} (h:BdR rows):RowsOk rows:=fun r hr=>⟨by have:=(h.r r hr).1;omega,(h.r r hr).2⟩
theorem BdR.rle {rows:List (List VD)} (h:BdR rows):RowsLe rows:=fun r hr=>by have:=(h.r r hr).1;omega
theorem GdT.bd {cs:List CD} {rows:List (List VD)} (h:GdT cs rows):BdR rows:=⟨by have:=h.m;omega,fun r hr=>⟨by have:=h.len r hr;have:=h.n;omega,h.v r hr⟩⟩
theorem BdR.sub {rows out:List (List VD)} (h:BdR rows) (hm:∀ r∈out,r∈rows) (hl:out.length<=rows.length):BdR out:=⟨by have:=h.n;omega,fun r hr=>h.r r (hm r hr)⟩
noncomputable def rowsV {m:Nat} (d:PD m) (a:List CD) (ra:List (List VD)) (b:List CD) (rb:List (List VD)):Int × List (List VD) :=
 if d.kind=2 then whereV a d.cond ra else if d.kind=3 then keepRV a d.exprs ra
 else if d.kind=4\/d.kind=5 then joinV (decide (d.kind=5)) b.length ra rb (placesV a (d.on.map (·.1))) (placesV b (d.on.map (·.2)))
 else if d.kind=6 then grpE a d.names d.aggs ra else if d.kind=7 then (0,ra++rb) else if d.kind=8 then (0,cptR ra) else (0,firstL a d.by_ ra d.count.toNat)
theorem okV_sum (l:List VD):OkV (sumV l).2:=by
 unfold sumV
 split
 ·rename_i h;exact okV_of _ h
 ·exact okV_zero
theorem okV_best (up:Bool):∀ (l:List VD),(∀ v∈l,OkV v)->OkV (bestV up l)
 | [],_=>okV_zero
 | a :: r,h=>by
  show OkV (r.foldl (fun m v=>if beats up v m then v else m) a)
  have key:∀ (r:List VD) (a:VD),OkV a->(∀ v∈r,OkV v)->OkV (r.foldl (fun m v=>if beats up v m then v else m) a):=by
   intro r
   induction r with
   | nil=>intro a ha _;exact ha
   | cons x r ih =>
    intro a ha hr
    rw [List.foldl_cons]
    refine ih _ ?_ fun v hv=>hr v (List.mem_cons_of_mem _ hv)
    split
    ·exact hr x List.mem_cons_self
    ·exact ha
  exact key r a (h a List.mem_cons_self) fun v hv=>h v (List.mem_cons_of_mem _ hv)
theorem okV_agg (cs:List CD) (a:AG) (rows:List (List VD)) (hl:rows.length<=100000) (h:∀ r∈rows,∀ v∈r,OkV v):OkV (aggOf cs a rows).2:=by
 have hn:∀ v∈nonN ((placeV cs a.col).getD 0) rows,OkV v:=fun v hv=>by
  obtain ⟨r,hr,rfl⟩:=nonN_mem hv
  by_cases hk:(placeV cs a.col).getD 0 < r.length
  ·have:r.getD ((placeV cs a.col).getD 0) ⟨0,0,⟨#[]⟩⟩=r[(placeV cs a.col).getD 0]:=by simp [List.getD,hk]
   rw [this];exact h r hr _ (List.getElem_mem hk)
  ·have:r.getD ((placeV cs a.col).getD 0) ⟨0,0,⟨#[]⟩⟩=⟨0,0,⟨#[]⟩⟩:=by simp [List.getD,List.getElem?_eq_none (Nat.le_of_not_lt hk)]
   rw [this];exact okV_zero
 have hnl:(nonN ((placeV cs a.col).getD 0) rows).length<=rows.length:=by
  unfold nonN
  refine Nat.le_trans (List.length_filter_le _ _) ?_
  rw [List.length_map];exact Nat.le_refl _
 unfold aggOf
 split
 ·exact okV_of _ (by omega)
 ·unfold aggL
  split
  ·exact okV_of _ (by omega)
  ·split
   ·exact okV_zero
   ·split
    ·exact okV_sum _
    ·exact okV_best _ _ hn
theorem whereV_bd {m:Nat} {a:List CD} {ra:List (List VD)} (e:TX m) (h:BdR ra):BdR (whereV a e ra).2:=h.sub (fun r hr=>whereV_mem hr) (whereV_le e)
theorem keep_bd {m:Nat} {a:List CD} {ra:List (List VD)} (es:List (TX m)) (hl:es.length<=20) (hx:∀ e∈es,allX (fun q=>OkV q.v) m e) (h:BdR ra):BdR (keepRV a es ra).2:=by
 unfold keepRV
 split
 ·refine ⟨by dsimp only;rw [List.length_map];exact h.n,fun r hr => ?_⟩
  obtain ⟨q,hq,rfl⟩:=List.mem_map.1 hr
  refine ⟨by unfold keepRow;rw [List.length_map];omega,fun v hv => ?_⟩
  obtain ⟨e,he,rfl⟩:=List.mem_map.1 hv
  exact okV_top (h.r q hq).2 m e (hx e he)
 ·exact .nil
theorem join_bd {a b:List CD} {ra rb:List (List VD)} (left:Bool) (at_ bt:List Nat) (ha:GdT a ra) (hb:GdT b rb):BdR (joinV left b.length ra rb at_ bt).2:=by
 unfold joinV
 split
 ·exact .nil
 ·rename_i hl
  refine ⟨by dsimp only;omega,fun r hr => ?_⟩
  obtain ⟨p,hp,hr⟩:=List.mem_flatMap.1 hr
  obtain ⟨o,ho,rfl⟩:=List.mem_map.1 hr
  have hbo:o.length<=16/\∀ v∈o,OkV v:=by
   unfold foundR at ho
   split at ho
   ·rw [List.mem_singleton.1 ho]
    refine ⟨by rw [List.length_replicate];exact hb.n,fun v hv => ?_⟩
    rw [List.eq_of_mem_replicate hv];exact okV_zero
   ·obtain ⟨i,hi,rfl⟩:=List.mem_map.1 ho
    by_cases hk:i < rb.length
    ·have:rb.getD i []=rb[i]:=by simp [List.getD,hk]
     rw [this]
     exact ⟨by have:=hb.len _ (List.getElem_mem hk);have:=hb.n;omega,hb.v _ (List.getElem_mem hk)⟩
    ·have:rb.getD i []=[]:=by simp [List.getD,List.getElem?_eq_none (Nat.le_of_not_lt hk)]
     rw [this];simp
  refine ⟨by rw [List.length_append];have:=ha.len p hp;have:=ha.n;omega,fun v hv => ?_⟩
  rcases List.mem_append.1 hv with q | q
  ·exact ha.v p hp v q
  ·exact hbo.2 v q
theorem grp_bd {a:List CD} {ra:List (List VD)} (names:List ByteArray) (aggs:List AG) (hn:names.length<=20) (hg:aggs.length<=20) (ha:GdT a ra):BdR (grpE a names aggs ra).2:=by
 unfold grpE
 split
 ·have hlen:(sortR (ordV names.length ra (placesV a names))).length=(ordV names.length ra (placesV a names)).length:=(sortR_is _).1.length_eq
  have hol:(ordV names.length ra (placesV a names)).length<=ra.length+1:=by
   unfold ordV
   split
   ·simp
   ·have:=ordK_le ra (placesV a names) ra.length;omega
  refine ⟨by dsimp only;rw [List.length_map];have:=ha.m;omega,fun r hr => ?_⟩
  obtain ⟨K,hK,rfl⟩:=List.mem_map.1 hr
  have hk:=ordV_mem (nn:=names.length) (n:=a.length) ha.len (places_lt ha.n0) ((sortR_is _).1.mem_iff.1 hK)
  have hp:(placesV a names).length=names.length:=by unfold placesV;rw [List.length_map]
  refine ⟨by unfold rowR_ aggR;rw [List.length_append,List.length_map,List.length_map];omega,fun v hv => ?_⟩
  rcases List.mem_append.1 hv with q | q
  ·obtain ⟨r,hr,hvr⟩:=hk.2 v q
   exact ha.v r hr v hvr
  ·obtain ⟨x,hx,rfl⟩:=List.mem_map.1 q
   obtain ⟨g,hg,rfl⟩:=List.mem_map.1 hx
   exact okV_agg a g _ (by have:=grpR_le ra (placesV a names) (keyL K);have:=ha.m;omega) fun r hr=>ha.v r (grpR_mem hr)
 ·exact .nil
theorem pickL_mem {rows:List (List VD)} {g:Nat->Nat} {r:List VD} (h:r∈pickL [] rows g):r∈rows\/r=[]:=by
 obtain ⟨k,_,rfl⟩:=List.mem_map.1 h
 by_cases hk:g k < rows.length
 ·have:rows.getD (g k) []=rows[g k]:=by simp [List.getD,hk]
  exact .inl (this ▸ List.getElem_mem hk)
 ·exact .inr (by simp [List.getD,List.getElem?_eq_none (Nat.le_of_not_lt hk)])
theorem first_bd {a:List CD} {ra:List (List VD)} (os:List (ByteArray × Bool)) (count:Nat) (h:BdR ra):BdR (firstL a os ra count):=by
 unfold firstL
 split
 ·refine ⟨by rw [List.length_take,pickL_length];have:=h.n;omega,fun r hr => ?_⟩
  rcases pickL_mem (List.mem_of_mem_take hr) with q | rfl
  ·exact h.r r q
  ·simp
 ·exact .nil
theorem PD.Fine.xo {m:Nat} {d:PD m} (hd:d.Fine):∀ e∈d.exprs,allX (fun q=>OkV q.v) m e:=fun e he=>allX_mono (fun q hq=>hq.v.le' (by omega)) m e (hd.x e he)
theorem rows_bd {m:Nat} (d:PD m) (hd:d.Fine) (a:List CD) (ra:List (List VD)) (b:List CD) (rb:List (List VD)) (ha:GdT a ra) (hb:needI d.kind=2->GdT b rb):BdR (rowsV d a ra b rb).2:=by
 have hs:=hd.sm
 unfold rowsV
 split
 ·exact whereV_bd _ ha.bd
 ·split
  ·exact keep_bd _ hs.e hd.xo ha.bd
  ·split
   ·rename_i h45
    exact join_bd _ _ _ ha (hb (by unfold needI;rw [if_neg (by omega),if_pos (by omega)]))
   ·split
    ·exact grp_bd _ _ hs.n hs.a ha
    ·split
     ·rename_i h7
      have hb':=(hb (by unfold needI;rw [if_neg (by omega),if_pos (by omega)]))
      refine ⟨by dsimp only;rw [List.length_append];have:=ha.m;have:=hb'.m;omega,fun r hr => ?_⟩
      rcases List.mem_append.1 hr with q | q
      ·exact ha.bd.r r q
      ·exact hb'.bd.r r q
     ·split
      ·exact ha.bd.sub (fun r hr=>cptR_mem hr) (cptR_le _)
      ·exact first_bd _ _ ha.bd
theorem PD.Fine.tx {m:Nat} {e:TX m} (h:allX (fun q=>q.Ok 1048576) m e):allX (fun q=>q.v.text.size<=140737000000000) m e:=allX_mono (fun q hq=>by have:=hq.v.t;omega) m e h
theorem rowsC_kind {m:Nat} (d:PD m) (hd:d.Fine) (x:PC) (a:List CD) (ra:List (List VD)) (b:List CD) (rb:List (List VD)) (ha:GdT a ra) (hb:needI d.kind=2->GdT b rb) (h2:2<=d.kind) (h9:d.kind<=9) (h8:d.kind≠8) (hk1:(kindV d a b).1=0) (w:World) (hPw:PowAt w) (h:PlanAt w x d) :
  RowsC w x (if needI d.kind=2 then [(a,ra),(b,rb)] else [(a,ra)]) (rowsV d a ra b rb):=by
 have hk:=h.kind
 have hs:=hd.sm
 have hA:=ha.cols
 have hl:=ha.n
 have hm:=ha.m
 have hr:=ha.rok
 have:d.kind=2\/d.kind=3\/d.kind=4\/d.kind=5\/d.kind=6\/d.kind=7\/d.kind=9:=by omega
 unfold rowsV
 unfold kindV at hk1
 rcases this with q | q | q | q | q | q | q <;> rw [q] at hk hk1 hb ⊢ <;> simp only [needI] at hb ⊢ <;> simp (config:={ decide:=true }) only [if_true,if_false,or_true,true_or] at hk1 hb ⊢
 ·exact rowsC_where x hk d.cond a ra w h.cond hA (by omega) (by omega) hr (by have:=hs.c;omega) (PD.Fine.tx hd.c)
 ·exact rowsC_keep x hk d.exprs a ra w h.en (by have:=hs.e;omega) h.exprs hA (by omega) (by omega) hr (fun e he=>by have:=hs.x e he;omega) (fun e he=>PD.Fine.tx (hd.x e he))
 ·have hb:=hb True.intro
  exact rowsC_join x 4 hk.symm (.inl rfl) d.on h.on' (by have:=hs.o;omega) a b ra rb w h.on (ha.good hPw) (hb.good hPw) ha.n0 hb.n0 hl hb.n hm hb.m
 ·have hb:=hb True.intro
  exact rowsC_join x 5 hk.symm (.inr rfl) d.on h.on' (by have:=hs.o;omega) a b ra rb w h.on (ha.good hPw) (hb.good hPw) ha.n0 hb.n0 hl hb.n hm hb.m
 ·exact rowsC_group x hk d.names d.aggs h.nn h.an (by have:=hs.n;omega) (by have:=hs.a;omega) a ra w h.names h.aggs (ha.good hPw) ha.n0 hl hm
 ·have hb:=hb True.intro
  exact rowsC_union x hk a b ra rb w (by omega) (by have:=hb.m;omega)
 ·have hc:0<=d.count:=by
   unfold byV at hk1
   split at hk1
   ·exact absurd hk1 (by decide)
   ·omega
  rw [<- h.count] at hc ⊢
  refine rowsC_first x hk a d.by_ ra w h.bn h.by_ hc (by omega) (by omega) (by have:=hs.b;omega) fun r hr=>⟨by have:=ha.len r hr;omega,fun o ho => ?_⟩
  rw [ha.len r hr]
  exact places_lt ha.n0 _ (List.mem_map.2 ⟨o.1,List.mem_map.2 ⟨o,ho,rfl⟩,rfl⟩:_∈placesV a (d.by_.map (·.1)))
noncomputable def oneE {m:Nat} (d:PD m) (v:Int × List CD × List (List VD)):Int × List CD × List (List VD):=nodeE [v] (kindV d v.2.1 []).2 (rowsV d v.2.1 v.2.2 [] [])
noncomputable def twoE {m:Nat} (d:PD m) (u v:Int × List CD × List (List VD)):Int × List CD × List (List VD):=nodeE [u,v] (kindV d u.2.1 v.2.1).2 (rowsV d u.2.1 u.2.2 v.2.1 v.2.2)
theorem nodeE_err {vs:List (Int × List CD × List (List VD))} (h:errL (vs.map fun v=>(v.1,v.2.1))≠0) (cs:List CD) (rv:Int × List (List VD)):nodeE vs cs rv=(errL (vs.map fun v=>(v.1,v.2.1)),[],[]):=if_neg h
theorem oneE_err {m:Nat} {d:PD m} {v:Int × List CD × List (List VD)} (h:v.1≠0):oneE d v=(v.1,[],[]):=by
 have he:errL ([v].map fun v=>(v.1,v.2.1))=v.1:=by
  show errL [(v.1,v.2.1)]=v.1
  unfold errL
  exact if_neg h
 unfold oneE
 rw [nodeE_err (by rw [he];exact h),he]
theorem fineK {m:Nat} {d:PD m} (hd:d.Fine) {a b:List CD} (hla:a.length<=16) (hlb:b.length<=16) (ha:∀ c∈a,c.name.size<=1048576/\tW c.typ) (hb:∀ c∈b,c.name.size<=1048576/\tW c.typ):(∀ c∈(kindV d a b).2,c.name.size<=1048576/\tW c.typ)/\(kindV d a b).2.length<=1000 :=
 kind_w d a b hla hlb ha hb hd.x hd.n (fun p hp=>(hd.a p hp).2.2) hd.sm.n hd.sm.a hd.sm.e
theorem EvalC.touch0 {w w':World} {I:Option Addr} {ic n:Nat} {x:PC} {v:Int × List CD × List (List VD)} (h:EvalC w I ic n x v) (ht:Touch [] w w'):EvalC w' I ic n x v:=fun w'' t=>h w'' (ht.trans0 t)
theorem needI1 {k:Int} (h:needI k=1):k=2\/k=3\/k=6\/k=8\/k=9:=by
 unfold needI at h
 split at h
 ·assumption
 ·split at h <;> omega
theorem needI2 {k:Int} (h:needI k=2):k=4\/k=5\/k=7:=by
 unfold needI at h
 split at h
 ·omega
 ·split at h
  ·assumption
  ·omega
theorem evalC_one {m:Nat} (d:PD m) (hd:d.Fine) (x:PC) (hn:needI d.kind=1) (hm:x.args.n=1) (I:Option Addr) (ic n:Nat) (w:World) (hPw:PowAt w) (h:PlanAt w x d) (y:PC) (hX:RdK pcE w x.args.A [y]) (v:Int × List CD × List (List VD)) (hE:EvalC w I ic n y v)
  (hv:v.1=0->GdT v.2.1 v.2.2) (hv':v.1≠0->v.2=([],[])) (hk1:v.1=0->(kindV d v.2.1 []).1=0):EvalC w I ic n x (oneE d v):=by
 have hk:=needI1 hn
 have hkx:=h.kind
 obtain ⟨kk,hkk⟩:=Int.eq_ofNat_of_zero_le (show 0<=d.kind by omega)
 obtain ⟨er,a,ra⟩:=v
 dsimp only at hv hv' hk1
 have hone:∀ i (h1:i < [y].length) (h2:i < [(er,a,ra)].length),EvalC w I ic n [y][i] [(er,a,ra)][i]:=fun i i1 i2=>by
  obtain rfl:i=0:=by simp at i1;omega
  exact hE
 by_cases h0:er=0
 ·subst h0
  have g:=hv rfl
  have hko:=fineK hd (b:=[]) g.n (by simp) g.c (by simp)
  have hbd:=rows_bd d hd a ra [] [] g (fun q=>by rw [hn] at q;exact absurd q (by decide))
  by_cases h8:d.kind=8
  ·have e1:kindV d a []=(0,a):=by unfold kindV;rw [h8];simp (config:={ decide:=true }) only [if_true,if_false]
   have e2:rowsV d a ra [] []=(0,cptR ra):=by unfold rowsV;rw [h8];simp (config:={ decide:=true }) only [if_true,if_false]
   show EvalC w I ic n x (nodeE [(0,a,ra)] (kindV d a []).2 (rowsV d a ra [] []))
   rw [e1,e2]
   intro w' t
   exact eval_distinct x (by rw [hkx,h8]) hm I ic n w' y (RdK.touch0 hX t) (0,a,ra) (hE.touch0 t) g.cols (by have:=g.n;show a.length<=_;omega) g.rok g.rle (by have:=g.m;show ra.length<=_;omega)
  ·refine evalC_node x kk 1 (by rw [hkx,hkk]) (by omega) hm (by omega) I ic n w [y] [(0,a,ra)] rfl rfl hX hone (kindV d a []).1 (kindV d a []).2 (fun _ => ?_) (rowsV d a ra [] []) (fun _ => ?_) (fun c hc=>CD.ok_w (hko.1 c hc).1 (hko.1 c hc).2) (by have:=hko.2;omega) hbd.rok hbd.rle (by have:=hbd.n;omega)
   ·have:=kindC d hd x a [] g.cols g.n (by simp) (by omega) (by omega) w h
    rw [if_neg (by omega)] at this
    exact this
   ·have:=rowsC_kind d hd x a ra [] [] g (fun q=>by rw [hn] at q;exact absurd q (by decide)) (by omega) (by omega) h8 (hk1 rfl) w hPw h
    rw [if_neg (by omega)] at this
    exact this
 ·have hz:=hv' h0
  rw [oneE_err h0]
  obtain ⟨rfl,rfl⟩:a=[]/\ra=[]:=⟨congrArg Prod.fst hz,congrArg Prod.snd hz⟩
  have hel:errL ([((er,[],[]):Int × List CD × List (List VD))].map fun v=>(v.1,v.2.1))=er:=by
   show errL [(er,[])]=er
   unfold errL
   exact if_neg h0
  by_cases h8:d.kind=8
  ·intro w' t
   have:=eval_distinct x (by rw [hkx,h8]) hm I ic n w' y (RdK.touch0 hX t) (er,[],[]) (hE.touch0 t) (by simp) (by simp) (fun r hr=>by simp at hr) (fun r hr=>by simp at hr) (by simp)
   rw [nodeE_err (by rw [hel];exact h0),hel] at this
   exact this
  ·have:=evalC_node x kk 1 (by rw [hkx,hkk]) (by omega) hm (by omega) I ic n w [y] [(er,[],[])] rfl rfl hX hone 0 [] (fun q=>absurd (hel.symm.trans q) h0) (0,[]) (fun q=>absurd (hel.symm.trans q) h0) (by simp) (by simp) (fun r hr=>by simp at hr) (fun r hr=>by simp at hr) (by simp)
   rw [nodeE_err (by rw [hel];exact h0),hel] at this
   exact this
theorem evalC_two {m:Nat} (d:PD m) (hd:d.Fine) (x:PC) (hn:needI d.kind=2) (hm:x.args.n=2) (I:Option Addr) (ic n:Nat) (w:World) (hPw:PowAt w) (h:PlanAt w x d) (y z:PC) (hX:RdK pcE w x.args.A [y,z]) (a:List CD) (ra:List (List VD)) (b:List CD) (rb:List (List VD)) (hE:EvalC w I ic n y (0,a,ra)) (hF:EvalC w I ic n z (0,b,rb))
  (ga:GdT a ra) (gb:GdT b rb) (hk1:(kindV d a b).1=0):EvalC w I ic n x (twoE d (0,a,ra) (0,b,rb)):=by
 have hk:=needI2 hn
 have hkx:=h.kind
 obtain ⟨kk,hkk⟩:=Int.eq_ofNat_of_zero_le (show 0<=d.kind by omega)
 have hko:=fineK hd ga.n gb.n ga.c gb.c
 have hbd:=rows_bd d hd a ra b rb ga (fun _=>gb)
 refine evalC_node x kk 2 (by rw [hkx,hkk]) (by omega) hm (by omega) I ic n w [y,z] [(0,a,ra),(0,b,rb)] rfl rfl hX (fun i i1 i2 => ?_) (kindV d a b).1 (kindV d a b).2 (fun _ => ?_) (rowsV d a ra b rb) (fun _ => ?_) (fun c hc=>CD.ok_w (hko.1 c hc).1 (hko.1 c hc).2) (by have:=hko.2;omega) hbd.rok hbd.rle (by have:=hbd.n;omega)
 ·have:i=0\/i=1:=by simp at i1;omega
  rcases this with rfl | rfl
  ·exact hE
  ·exact hF
 ·have:=kindC d hd x a b ga.cols ga.n gb.n (by omega) (by omega) w h
  rw [if_pos hn] at this
  exact this
 ·have:=rowsC_kind d hd x a ra b rb ga (fun _=>gb) (by omega) (by omega) (by omega) hk1 w hPw h
  rw [if_pos hn] at this
  exact this
theorem nodeE_gd {vs:List (Int × List CD × List (List VD))} {cs:List CD} {rv:Int × List (List VD)} (hc:∀ c∈cs,c.name.size<=1048576/\tW c.typ) (hb:BdR rv.2) (h:(nodeE vs cs rv).1=0):GdT (nodeE vs cs rv).2.1 (nodeE vs cs rv).2.2/\checkT (nodeE vs cs rv).2.1 (nodeE vs cs rv).2.2=0/\(nodeE vs cs rv).2.1=cs:=by
 obtain ⟨h1,h2,h3,h4⟩:=nodeE_zero h
 rw [h4]
 have hp:=sortR_is rv.2
 have hf:fitV cs (sortR rv.2)=0:=fitV_sub h3 (fun r hr=>hp.1.mem_iff.1 hr) (by rw [hp.1.length_eq];exact Nat.le_refl _)
 refine ⟨⟨hf,hc,fun r hr=>(hb.r r (hp.1.mem_iff.1 hr)).2⟩, ?_,rfl⟩
 unfold checkT
 rw [if_pos hf,if_pos]
 unfold sortedV
 rw [List.all_eq_true]
 intro i hi
 have hi:=List.mem_range.1 hi
 dsimp only at hi ⊢
 have e1:(sortR rv.2).getD (i+1) []=(sortR rv.2)[i+1]:=by simp [List.getD,show i+1 < (sortR rv.2).length by omega]
 have e2:(sortR rv.2).getD i []=(sortR rv.2)[i]:=by simp [List.getD,show i < (sortR rv.2).length by omega]
 rw [e1,e2]
 have:=List.pairwise_iff_getElem.1 hp.2 i (i+1) (by omega) (by omega) (by omega)
 have:=cmpRV_neg (sortR rv.2)[i+1] (sortR rv.2)[i]
 exact decide_eq_true (by omega)
theorem nodeE_no {vs:List (Int × List CD × List (List VD))} {cs:List CD} {rv:Int × List (List VD)} (h:(nodeE vs cs rv).1≠0):(nodeE vs cs rv).2=([],[]):=by
 unfold nodeE at h ⊢
 split
 ·rename_i h1
  rw [if_pos h1] at h
  split
  ·rename_i h2
   rw [if_pos h2] at h
   split
   ·rename_i h3;rw [if_pos h3] at h;exact absurd rfl h
   ·rfl
  ·rfl
 ·rfl
end
section
open Go.RowKit
theorem kindV_one {m:Nat} {d:PD m} (h:needI d.kind=1) (a b:List CD):kindV d a b=kindV d a []:=by
 have:=needI1 h
 unfold kindV
 rcases this with q | q | q | q | q <;> rw [q] <;> simp (config:={ decide:=true }) only [if_true,if_false]
theorem TbOk.gd {a:List CD} {ra:List (List VD)} (h:TbOk a ra) (hc:checkT a ra=0):GdT a ra:=⟨(checkT_parts hc).1,h.c,fun r hr v hv=>((h.r r hr).2 v hv).le' (by omega)⟩
noncomputable def progE {m:Nat} (d:PD m) (a:List CD) (ra:List (List VD)) (b:List CD) (rb:List (List VD)):Int × List CD × List (List VD):=if needI d.kind=2 then twoE d (0,a,ra) (0,b,rb) else oneE d (0,a,ra)
theorem progT_zero {m:Nat} {d:PD m} {a:List CD} {ra:List (List VD)} {b:List CD} {rb:List (List VD)} (hk:d.kind≠1) (h:(progT d a ra b rb).1=0) :
  (needI d.kind=1\/needI d.kind=2)/\checkT a ra=0/\(needI d.kind=2->checkT b rb=0)/\(kindV d a b).1=0/\checkV (kindV d a b).2=0/\progT d a ra b rb=(0,(kindV d a b).2):=by
 unfold progT at h ⊢
 by_cases hw:d.kind < 1\/9 < d.kind
 ·rw [if_pos hw] at h;exact absurd h (by decide)
 ·rw [if_neg hw,if_neg hk] at h ⊢
  have hn:needI d.kind=1\/needI d.kind=2:=by
   have:d.kind=2\/d.kind=3\/d.kind=4\/d.kind=5\/d.kind=6\/d.kind=7\/d.kind=8\/d.kind=9:=by omega
   rcases this with q | q | q | q | q | q | q | q <;> rw [q] <;> simp [needI]
  have hsc:∀ (c:List CD) (r:List (List VD)),(scanT c r).1=0->checkT c r=0:=fun c r h=>by
   by_cases q:checkT c r=0
   ·exact q
   ·rw [scanT_no q] at h;exact absurd h (by decide)
  have hcv:∀ vs (v:Int × List CD),(nodeV vs v).1=0->checkV v.2=0:=fun vs v h=>by
   obtain ⟨h1,h2, -⟩:=nodeV_zero h
   unfold nodeV at h
   rw [if_pos h1,if_pos h2] at h
   by_cases q:checkV v.2=0
   ·exact q
   ·rw [if_neg q] at h;exact absurd h q
  by_cases h2:needI d.kind=2
  ·rw [if_pos h2] at h ⊢
   have hc:=hcv _ _ h
   obtain ⟨e1,e2,e3⟩:=nodeV_zero h
   obtain ⟨s1,s2⟩:=errL2 e1
   exact ⟨hn,hsc _ _ s1,fun _=>hsc _ _ s2,e2,hc,e3⟩
  ·rw [if_neg h2] at h ⊢
   have hc:=hcv _ _ h
   obtain ⟨e1,e2,e3⟩:=nodeV_zero h
   exact ⟨hn,hsc _ _ (errL1 e1),fun q=>absurd q h2,e2,hc,e3⟩
structure NsAt {m m':Nat} (W:World) (d:PD m) (o:PD m') (x:PC) (I:Option Addr) (ic:Nat) (a:List CD) (ra:List (List VD)) (b:List CD) (rb:List (List VD)):Prop where
 nd:NeedsAt W
 pw:PowAt W
 px:PlanAt W x d
 fd:d.Fine
 fo:o.Fine
 ta:TbOk a ra
 tb:TbOk b rb
 src:SrcsAt W I (srcs2 a ra b rb)
 hn:(x.args.n:Int)=needI d.kind
 hX:RdK pcE W x.args.A ([scanC ⟨#[120]⟩,scanC ⟨#[121]⟩].take x.args.n)
 k1:d.kind≠1
 on:needI o.kind=1
section
variable {m m':Nat} {W:World} {d:PD m} {o:PD m'} {x:PC} {I:Option Addr} {ic:Nat} {a:List CD} {ra:List (List VD)} {b:List CD} {rb:List (List VD)}
theorem NsAt.touch0 {W':World} (h:NsAt W d o x I ic a ra b rb) (t:Touch [] W W'):NsAt W' d o x I ic a ra b rb:=⟨h.nd.touch0 t,h.pw.touch0 t,h.px.touch0 t,h.fd,h.fo,h.ta,h.tb,h.src.touch0 t,h.hn,RdK.touch0 h.hX t,h.k1,h.on⟩
theorem NsAt.n2 (h:NsAt W d o x I ic a ra b rb):x.args.n<=2:=by
 have:=h.hn
 have h2:needI d.kind<=2:=by unfold needI;split <;> (try split) <;> omega
 omega
theorem NsAt.inT (h:NsAt W d o x I ic a ra b rb) (dp:Int) (hp0:0<=dp) (hp:dp<=15):TypedC W I ic 3 x dp (progT d a ra b rb) :=
 progD dp hp0 hp d h.fd x a ra b rb h.ta h.tb W h.nd h.px I ic h.src h.hn h.hX
theorem NsAt.inE (h:NsAt W d o x I ic a ra b rb) (h0:(progT d a ra b rb).1=0):EvalC W I ic 3 x (progE d a ra b rb):=by
 obtain ⟨hn,hca,hcb,hkz, -, -⟩:=progT_zero h.k1 h0
 have ga:=h.ta.gd hca
 have hsx:EvalC W I ic 3 (scanC ⟨#[120]⟩) (0,a,ra):=evalC_scan (scanC ⟨#[120]⟩) rfl rfl I ic 3 (srcs2 a ra b rb) rfl (by omega) 0 (by simp [srcs2]) (src2_x a ra b rb) (by simp only [srcs2,List.getElem_cons_zero];have:=h.ta.n;omega) (by simp only [srcs2,List.getElem_cons_zero];have:=h.ta.m;omega) h.ta.rle W h.src
 have hXX:=h.hX
 have hnn:=h.hn
 unfold progE
 rcases hn with q | q
 ·rw [if_neg (by omega)]
  have hm:x.args.n=1:=by omega
  rw [hm] at hXX
  exact evalC_one d h.fd x q hm I ic 3 W h.pw h.px (scanC ⟨#[120]⟩) hXX (0,a,ra) hsx (fun _=>ga) (fun z=>absurd rfl z) (fun _=>by rw [<- kindV_one q a b];exact hkz)
 ·rw [if_pos q]
  have hm:x.args.n=2:=by omega
  rw [hm] at hXX
  have hsy:EvalC W I ic 3 (scanC ⟨#[121]⟩) (0,b,rb):=evalC_scan (scanC ⟨#[121]⟩) rfl rfl I ic 3 (srcs2 a ra b rb) rfl (by omega) 1 (by simp [srcs2]) (src2_y a ra b rb) (by simp only [srcs2,List.getElem_cons_succ,List.getElem_cons_zero];have:=h.tb.n;omega) (by simp only [srcs2,List.getElem_cons_succ,List.getElem_cons_zero];have:=h.tb.m;omega) h.tb.rle W h.src
  exact evalC_two d h.fd x q hm I ic 3 W h.pw h.px (scanC ⟨#[120]⟩) (scanC ⟨#[121]⟩) hXX a ra b rb hsx hsy ga (h.tb.gd (hcb q)) hkz
theorem NsAt.inSz (h:NsAt W d o x I ic a ra b rb):SizeC W x (1+x.args.n):=sizeC2 x W h.n2 h.hX
theorem NsAt.bd (h:NsAt W d o x I ic a ra b rb):(progT d a ra b rb).2.length<=16/\∀ c∈(progT d a ra b rb).2,c.name.size<=1048576/\tW c.typ:=by
 by_cases h0:(progT d a ra b rb).1=0
 ·obtain ⟨-, -, -, -,hcv,he⟩:=progT_zero h.k1 h0
  rw [he]
  exact ⟨(check_zero hcv).2.1,(fineK h.fd h.ta.n h.tb.n h.ta.c h.tb.c).1⟩
 ·have:(progT d a ra b rb).2=[]:=by
   unfold progT at h0 ⊢
   by_cases hw:d.kind < 1\/9 < d.kind
   ·rw [if_pos hw]
   ·rw [if_neg hw,if_neg h.k1] at h0 ⊢
    have key:∀ vs (v:Int × List CD),(nodeV vs v).1≠0->(nodeV vs v).2=[]:=fun vs v q=>by
     unfold nodeV at q ⊢
     by_cases h1:errL vs=0
     ·rw [if_pos h1] at q ⊢
      by_cases h2:v.1=0
      ·rw [if_pos h2] at q ⊢
       by_cases h3:checkV v.2=0
       ·rw [if_pos h3] at q;exact absurd rfl q
       ·rw [if_neg h3]
      ·rw [if_neg h2]
     ·rw [if_neg h1]
    by_cases h2:needI d.kind=2
    ·rw [if_pos h2] at h0 ⊢;exact key _ _ h0
    ·rw [if_neg h2] at h0 ⊢;exact key _ _ h0
  rw [this];simp
theorem NsAt.gd (h:NsAt W d o x I ic a ra b rb) (h0:(progT d a ra b rb).1=0) (h1:(progE d a ra b rb).1=0):GdT (progE d a ra b rb).2.1 (progE d a ra b rb).2.2/\checkT (progE d a ra b rb).2.1 (progE d a ra b rb).2.2=0/\(progE d a ra b rb).2.1=(progT d a ra b rb).2:=by
 obtain ⟨hn,hca,hcb,hkz,hcv,he⟩:=progT_zero h.k1 h0
 have ga:=h.ta.gd hca
 rw [he]
 unfold progE at h1 ⊢
 rcases hn with q | q
 ·rw [if_neg (by omega)] at h1 ⊢
  rw [kindV_one q a b]
  exact nodeE_gd (fineK h.fd (b:=[]) ga.n (by simp) ga.c (by simp)).1 (rows_bd d h.fd a ra [] [] ga (fun z=>by omega)) h1
 ·rw [if_pos q] at h1 ⊢
  exact nodeE_gd (fineK h.fd ga.n h.tb.n ga.c h.tb.c).1 (rows_bd d h.fd a ra b rb ga (fun _=>h.tb.gd (hcb q))) h1
end
def outT {m m':Nat} (d:PD m) (o:PD m') (a:List CD) (ra:List (List VD)) (b:List CD) (rb:List (List VD)):Int × List CD:=nodeV [progT d a ra b rb] (kindV o (progT d a ra b rb).2 [])
section
variable {m m':Nat} {W:World} {d:PD m} {o:PD m'} {x:PC} {I:Option Addr} {ic:Nat} {a:List CD} {ra:List (List VD)} {b:List CD} {rb:List (List VD)}
theorem need_kk {k:Int} (h:needI k=1):∃ kk:Nat,k=kk/\2<=kk/\kk<=9/\needV kk=1:=by
 rcases needI1 h with rfl | rfl | rfl | rfl | rfl
 ·exact ⟨2,rfl,by omega,by omega,rfl⟩
 ·exact ⟨3,rfl,by omega,by omega,rfl⟩
 ·exact ⟨6,rfl,by omega,by omega,rfl⟩
 ·exact ⟨8,rfl,by omega,by omega,rfl⟩
 ·exact ⟨9,rfl,by omega,by omega,rfl⟩
theorem outTy {z y:PC} {n:Nat} (hG:NeedsAt W) (fo:o.Fine) (on:needI o.kind=1) (hP:PlanAt W z o) (hm:z.args.n=1) (hX:RdK pcE W z.args.A [y]) (v:Int × List CD) (hl:v.2.length<=16) (hc:∀ c∈v.2,c.name.size<=1048576/\tW c.typ) (hy:TypedC W I ic n y 2 v):TypedC W I ic n z 1 (nodeV [v] (kindV o v.2 [])):=by
 obtain ⟨kk,e1,e2,e3,e4⟩:=need_kk on
 have hko:=fineK fo (b:=[]) hl (by simp) hc (by simp)
 refine typedC_node z kk 1 (by rw [hP.kind,e1]) e2 e3 hm e4 1 (by omega) (by omega) I ic n W hG [y] [v] rfl rfl hX (fun i i1 i2 => ?_) (kindV o v.2 []) (fun _ => ?_) (fun c hc=>CD.ok_w (hko.1 c hc).1 (hko.1 c hc).2) (by have:=hko.2;omega)
 ·obtain rfl:i=0:=by simp at i1;omega
  exact hy
 ·have:=kindC o fo z v.2 [] (fun c h=>CD.ok_w (hc c h).1 (hc c h).2) hl (by simp) (by omega) (by omega) W hP
  rw [if_neg (by omega)] at this
  exact this
theorem NsAt.outTy (h:NsAt W d o x I ic a ra b rb) {z:PC} (hP:PlanAt W z o) (hm:z.args.n=1) (hX:RdK pcE W z.args.A [x]):TypedC W I ic 3 z 1 (outT d o a ra b rb) :=
 _root_.Go.Proofs.YtafoklilkdnepaaGreatDoor.outTy h.nd h.fo h.on hP hm hX _ h.bd.1 h.bd.2 (h.inT 2 (by omega) (by omega))
theorem NsAt.outSz (h:NsAt W d o x I ic a ra b rb) {z:PC} (hm:z.args.n=1) (hX:RdK pcE W z.args.A [x]):SizeC W z (1+(1+x.args.n)):=one_size z hm x hX _ (by have:=h.n2;omega) h.inSz
theorem NsAt.type (h:NsAt W d o x I ic a ra b rb) {z:PC} (hP:PlanAt W z o) (hm:z.args.n=1) (hX:RdK pcE W z.args.A [x]) :
  Calls Tryz.prog 16 #[z.val,.slice I 3 ic] W (TyPost W.heap.size (outT d o a ra b rb) W) :=
 type_any z _ (by have:=h.n2;omega) I ic 3 _ W (h.outSz hm hX) (h.outTy hP hm hX)
end
end
section
open Go.RowKit
def srcV (l:List SrcD) (s:ByteArray):Option (List CD × List (List VD)):=(srcI l s).bind fun k=>(l[k]?).map fun d=>(d.cs,d.rows)
def scF (f:Option (List CD × List (List VD))):Int × List CD:=match f with
 | some t=>if checkT t.1 t.2=0 then (0,t.1) else (12,[])
 | none=>(13,[])
def tbF (f:Option (List CD × List (List VD))):List CD × List (List VD):=f.getD ([],[])
theorem scanV_F (l:List SrcD) (s:ByteArray):scanV l s=scF (srcV l s):=by
 unfold scanV srcV scF
 cases h:srcI l s with
 | none=>rfl
 | some k =>
  have hk:=srcI_lt h
  simp only [Option.bind_some,List.getElem?_eq_getElem hk,Option.map_some]
theorem scF_zero {f:Option (List CD × List (List VD))} (h:(scF f).1=0):∃ t,f=some t/\checkT t.1 t.2=0/\scF f=(0,t.1):=by
 unfold scF at h ⊢
 cases f with
 | none=>exact absurd h (by decide)
 | some t =>
  dsimp only at h ⊢
  by_cases hc:checkT t.1 t.2=0
  ·exact ⟨t,rfl,hc,by rw [if_pos hc]⟩
  ·rw [if_neg hc] at h;exact absurd h (by decide)
def typF {m:Nat} (d:PD m) (f:ByteArray->Option (List CD × List (List VD))) (ns:List ByteArray):Int × List CD :=
 if d.kind < 1\/9 < d.kind then (20,[]) else if d.kind=1 then scF (f d.name)
 else if needI d.kind=2 then nodeV [scF (f (ns.getD 0 ⟨#[]⟩)),scF (f (ns.getD 1 ⟨#[]⟩))] (kindV d (scF (f (ns.getD 0 ⟨#[]⟩))).2 (scF (f (ns.getD 1 ⟨#[]⟩))).2) else nodeV [scF (f (ns.getD 0 ⟨#[]⟩))] (kindV d (scF (f (ns.getD 0 ⟨#[]⟩))).2 [])
noncomputable def evF {m:Nat} (d:PD m) (f:ByteArray->Option (List CD × List (List VD))) (ns:List ByteArray):Int × List CD × List (List VD) :=
 if d.kind=1 then (0,tbF (f d.name)) else if needI d.kind=2 then twoE d (0,tbF (f (ns.getD 0 ⟨#[]⟩))) (0,tbF (f (ns.getD 1 ⟨#[]⟩))) else oneE d (0,tbF (f (ns.getD 0 ⟨#[]⟩)))
theorem typF_congr {m:Nat} {d:PD m} {f g:ByteArray->Option (List CD × List (List VD))} {ns:List ByteArray} (hl:(ns.length:Int)=needI d.kind) (h1:d.kind=1->f d.name=g d.name) (h2:∀ s∈ns,f s=g s):typF d f ns=typF d g ns/\(1<=d.kind->d.kind<=9->evF d f ns=evF d g ns):=by
 unfold typF evF
 by_cases hk1:d.kind=1
 ·rw [h1 hk1]
  constructor
  ·simp [hk1]
  ·intro _ _;simp [hk1]
 ·by_cases hw:d.kind < 1\/9 < d.kind
  ·rw [if_pos hw,if_pos hw]
   exact ⟨rfl,fun _ _=>by omega⟩
  ·rw [if_neg hw,if_neg hw,if_neg hk1,if_neg hk1,if_neg hk1,if_neg hk1]
   have hn:needI d.kind=1\/needI d.kind=2:=by
    have:d.kind=2\/d.kind=3\/d.kind=4\/d.kind=5\/d.kind=6\/d.kind=7\/d.kind=8\/d.kind=9:=by omega
    rcases this with q | q | q | q | q | q | q | q <;> rw [q] <;> simp [needI]
   have e0:f (ns.getD 0 ⟨#[]⟩)=g (ns.getD 0 ⟨#[]⟩):=by
    have hk:0 < ns.length:=by omega
    have:ns.getD 0 ⟨#[]⟩=ns[0]:=by simp [List.getD,hk]
    rw [this];exact h2 _ (List.getElem_mem hk)
   rw [e0]
   rcases hn with q | q
   ·rw [if_neg (by omega),if_neg (by omega),if_neg (by omega),if_neg (by omega)]
    exact ⟨rfl,fun _ _=>rfl⟩
   ·have e1:f (ns.getD 1 ⟨#[]⟩)=g (ns.getD 1 ⟨#[]⟩):=by
     have hk:1 < ns.length:=by omega
     have:ns.getD 1 ⟨#[]⟩=ns[1]:=by simp [List.getD,hk]
     rw [this];exact h2 _ (List.getElem_mem hk)
    rw [e1]
    exact ⟨rfl,fun _ _=>rfl⟩
theorem SrcD.Ok.of {d:SrcD} (h:TbOk d.cs d.rows):d.Ok:=h.src d.name
structure InAt {m:Nat} (W:World) (d:PD m) (x:PC) (I:Option Addr) (l:List SrcD) (ns:List ByteArray):Prop where
 nd:NeedsAt W
 pw:PowAt W
 px:PlanAt W x d
 fd:d.Fine
 ok:∀ s∈l,TbOk s.cs s.rows
 ln:l.length<=1000
 src:SrcsAt W I l
 hn:(ns.length:Int)=needI d.kind
 hx:x.args.n=ns.length
 hX:RdK pcE W x.args.A (ns.map scanC)
section
variable {m:Nat} {W:World} {d:PD m} {x:PC} {I:Option Addr} {l:List SrcD} {ns:List ByteArray}
theorem InAt.touch0 {W':World} (h:InAt W d x I l ns) (t:Touch [] W W'):InAt W' d x I l ns:=⟨h.nd.touch0 t,h.pw.touch0 t,h.px.touch0 t,h.fd,h.ok,h.ln,h.src.touch0 t,h.hn,h.hx,RdK.touch0 h.hX t⟩
theorem InAt.n2 (h:InAt W d x I l ns):ns.length<=2:=by
 have:=h.hn
 have h2:needI d.kind<=2:=by unfold needI;split <;> (try split) <;> omega
 omega
theorem InAt.sz (h:InAt W d x I l ns):SizeC W x (1+ns.length):=by
 have:=sizeC_node x (ns.map scanC) (List.replicate ns.length 1) W (by rw [List.length_map,h.hx]) (by rw [List.length_replicate,h.hx]) h.hX (fun i i1 i2=>by
  rw [List.getElem_replicate,List.getElem_map]
  exact sizeC_leaf _ rfl W) (by have:=h.n2;simp;omega) (by have:=h.n2;rw [h.hx];omega)
 simpa using this
theorem InAt.scT (h:InAt W d x I l ns) (s:ByteArray) (ic:Nat) (dp:Int) (hd:dp<=16):TypedC W I ic l.length (scanC s) dp (scF (srcV l s)):=by
 rw [<- scanV_F]
 exact typedC_scan (scanC s) rfl rfl dp hd I ic l.length l rfl (by have:=h.ln;omega) (fun q hq=>SrcD.Ok.of (h.ok q hq)) W h.nd h.src
theorem InAt.bdF (h:InAt W d x I l ns) (s:ByteArray):(scF (srcV l s)).2.length<=16/\∀ c∈(scF (srcV l s)).2,c.name.size<=1048576/\tW c.typ:=by
 by_cases h0:(scF (srcV l s)).1=0
 ·obtain ⟨t,ht, -,he⟩:=scF_zero h0
  rw [he]
  unfold srcV at ht
  cases hk:srcI l s with
  | none=>rw [hk] at ht;cases ht
  | some k =>
   have hkl:=srcI_lt hk
   rw [hk] at ht
   simp only [Option.bind_some,List.getElem?_eq_getElem hkl,Option.map_some,Option.some.injEq] at ht
   subst ht
   have:=h.ok _ (List.getElem_mem hkl)
   exact ⟨this.n,this.c⟩
 ·have:(scF (srcV l s)).2=[]:=by
   unfold scF at h0 ⊢
   cases hf:srcV l s with
   | none=>rfl
   | some t =>
    rw [hf] at h0
    dsimp only at h0 ⊢
    by_cases hc:checkT t.1 t.2=0
    ·rw [if_pos hc] at h0;exact absurd rfl h0
    ·rw [if_neg hc]
  rw [this];simp
theorem InAt.scE (h:InAt W d x I l ns) (s:ByteArray) (ic:Nat) (h0:(scF (srcV l s)).1=0):EvalC W I ic l.length (scanC s) (0,tbF (srcV l s))/\GdT (tbF (srcV l s)).1 (tbF (srcV l s)).2/\scF (srcV l s)=(0,(tbF (srcV l s)).1):=by
 obtain ⟨t,ht,hc,he⟩:=scF_zero h0
 have ht':=ht
 unfold srcV at ht
 cases hk:srcI l s with
 | none=>rw [hk] at ht;cases ht
 | some k =>
  have hkl:=srcI_lt hk
  rw [hk] at ht
  simp only [Option.bind_some,List.getElem?_eq_getElem hkl,Option.map_some,Option.some.injEq] at ht
  have hok:=h.ok _ (List.getElem_mem hkl)
  have:=evalC_scan (scanC s) rfl rfl I ic l.length l rfl (by have:=h.ln;omega) k hkl hk (by have:=hok.n;omega) (by have:=hok.m;omega) hok.rle W h.src
  rw [he,ht']
  subst ht
  exact ⟨this,hok.gd hc,rfl⟩
theorem InAt.eval (h:InAt W d x I l ns) (ic:Nat):Calls Tryz.prog 12 #[x.val,.slice I l.length ic] W (EvPost (topV (typF d (srcV l) ns) (evF d (srcV l) ns)) W):=by
 have hk:=h.px.kind
 have hl2:=h.n2
 have hx:=h.hx
 have hX:=h.hX
 have hn:=h.hn
 have hall:TypedC W I ic l.length x 1 (typF d (srcV l) ns)/\((typF d (srcV l) ns).1=0->EvalC W I ic l.length x (evF d (srcV l) ns)):=by
  unfold typF evF
  by_cases hw:d.kind < 1\/9 < d.kind
  ·rw [if_pos hw]
   exact ⟨typedC_wrong x (by rw [hk];exact hw) 1 (by omega) I ic l.length W,fun q=>absurd q (by decide)⟩
  ·rw [if_neg hw]
   by_cases h1:d.kind=1
   ·rw [if_pos h1,if_pos h1]
    have hz:needI d.kind=0:=by rw [h1];decide
    have hn0:x.args.n=0:=by omega
    refine ⟨?_,fun q => ?_⟩
    ·rw [<- scanV_F,<- h.px.name]
     exact typedC_scan x (by rw [hk,h1]) hn0 1 (by omega) I ic l.length l rfl (by have:=h.ln;omega) (fun q hq=>SrcD.Ok.of (h.ok q hq)) W h.nd h.src
    ·obtain ⟨t,ht,hc,he⟩:=scF_zero q
     have ht':=ht
     unfold srcV at ht
     cases hs:srcI l d.name with
     | none=>rw [hs] at ht;cases ht
     | some k =>
      have hkl:=srcI_lt hs
      rw [hs] at ht
      simp only [Option.bind_some,List.getElem?_eq_getElem hkl,Option.map_some,Option.some.injEq] at ht
      have hok:=h.ok _ (List.getElem_mem hkl)
      have:=evalC_scan x (by rw [hk,h1]) hn0 I ic l.length l rfl (by have:=h.ln;omega) k hkl (by rw [h.px.name];exact hs) (by have:=hok.n;omega) (by have:=hok.m;omega) hok.rle W h.src
      rw [ht']
      subst ht
      exact this
   ·rw [if_neg h1,if_neg h1]
    have hk2:needI d.kind=1\/needI d.kind=2:=by
     have:d.kind=2\/d.kind=3\/d.kind=4\/d.kind=5\/d.kind=6\/d.kind=7\/d.kind=8\/d.kind=9:=by omega
     rcases this with q | q | q | q | q | q | q | q <;> rw [q] <;> simp [needI]
    obtain ⟨kk,hkk⟩:=Int.eq_ofNat_of_zero_le (show 0<=d.kind by omega)
    have hneed:needI d.kind=(needV kk:Int):=by
     rw [hkk]
     have:kk=2\/kk=3\/kk=4\/kk=5\/kk=6\/kk=7\/kk=8\/kk=9:=by omega
     rcases this with rfl | rfl | rfl | rfl | rfl | rfl | rfl | rfl <;> rfl
    rcases hk2 with q | q
    ·rw [if_neg (by omega),if_neg (by omega)]
     obtain ⟨s,rfl⟩:∃ s,ns=[s]:=by
      match ns,(show ns.length=1 by omega) with
      | [s],_=>exact ⟨s,rfl⟩
     have hm:x.args.n=1:=hx
     have b1:=h.bdF s
     have hko:=fineK h.fd (b:=[]) b1.1 (by simp) b1.2 (by simp)
     refine ⟨?_,fun z => ?_⟩
     ·exact outTy h.nd h.fd q h.px hm hX _ b1.1 b1.2 (h.scT s ic 2 (by omega))
     ·obtain ⟨e1,e2, -⟩:=nodeV_zero z
      obtain ⟨r1,r2,r3⟩:=h.scE s ic (errL1 e1)
      refine evalC_one d h.fd x q hm I ic l.length W h.pw h.px (scanC s) hX (0,tbF (srcV l s)) r1 (fun _=>r2) (fun z=>absurd rfl z) (fun _ => ?_)
      have e2:(kindV d (scF (srcV l s)).2 []).1=0:=e2
      rw [r3] at e2
      exact e2
    ·rw [if_pos q,if_pos q]
     obtain ⟨s,u,rfl⟩:∃ s u,ns=[s,u]:=by
      match ns,(show ns.length=2 by omega) with
      | [s,u],_=>exact ⟨s,u,rfl⟩
     have hm:x.args.n=2:=hx
     have b1:=h.bdF s
     have b2:=h.bdF u
     have hko:=fineK h.fd b1.1 b2.1 b1.2 b2.2
     refine ⟨?_,fun z => ?_⟩
     ·refine typedC_node x kk 2 (by rw [hk,hkk]) (by omega) (by omega) hm (by omega) 1 (by omega) (by omega) I ic l.length W h.nd [scanC s,scanC u] [scF (srcV l s),scF (srcV l u)] rfl rfl hX (fun i i1 i2 => ?_) _ (fun _ => ?_) (fun c hc=>CD.ok_w (hko.1 c hc).1 (hko.1 c hc).2) (Nat.le_trans hko.2 (by omega))
      ·have:i=0\/i=1:=by simp at i1;omega
       rcases this with rfl | rfl
       ·exact h.scT s ic 2 (by omega)
       ·exact h.scT u ic 2 (by omega)
      ·have:=kindC d h.fd x (scF (srcV l s)).2 (scF (srcV l u)).2 (fun c hc=>CD.ok_w (b1.2 c hc).1 (b1.2 c hc).2) b1.1 b2.1 (by omega) (by omega) W h.px
       rw [if_pos q] at this
       exact this
     ·obtain ⟨e1,e2, -⟩:=nodeV_zero z
      obtain ⟨i1,i2⟩:=errL2 e1
      obtain ⟨r1,r2,r3⟩:=h.scE s ic i1
      obtain ⟨p1,p2,p3⟩:=h.scE u ic i2
      have e2:(kindV d (scF (srcV l s)).2 (scF (srcV l u)).2).1=0:=e2
      rw [r3,p3] at e2
      exact evalC_two d h.fd x q hm I ic l.length W h.pw h.px (scanC s) (scanC u) hX _ _ _ _ r1 p1 r2 p2 e2
 exact evalTop x (1+ns.length) (by omega) I ic l.length _ _ W h.sz hall.1 hall.2
end
theorem srcV_filter (l:List SrcD) (p:ByteArray->Bool) (s:ByteArray) (hs:p s=true):srcV (l.filter fun d=>p d.name) s=srcV l s:=by
 have key:∀ l:List SrcD,srcV l s=(l.find? fun d=>decide (d.name=s)).map fun d=>(d.cs,d.rows):=by
  intro l
  unfold srcV srcI
  induction l with
  | nil=>rfl
  | cons a l ih =>
   rw [List.findIdx?_cons,List.find?_cons]
   by_cases h:a.name=s
   ·simp [h]
   ·simp only [h,decide_false,Bool.false_eq_true,if_false]
    rw [<- ih]
    cases hq:List.findIdx? (fun d=>decide (d.name=s)) l with
    | none=>rfl
    | some k=>simp
 rw [key,key]
 congr 1
 induction l with
 | nil=>rfl
 | cons a l ih =>
  rw [List.filter_cons,List.find?_cons]
  by_cases h:a.name=s
  ·rw [h,hs]
   simp [h]
  ·by_cases hp:p a.name=true
   ·rw [if_pos hp,List.find?_cons]
    simp only [h,decide_false]
    exact ih
   ·rw [if_neg hp]
    simp only [h,decide_false]
    exact ih
end
section
open Go.RowKit Go.Sort
theorem mkS_toList (s:ByteArray):mkS s.data.toList=s:=by cases s;rfl
theorem toList_mkS (l:List UInt8):(mkS l).data.toList=l:=rfl
theorem mkS_inj {a b:List UInt8} (h:mkS a=mkS b):a=b:=by rw [<- toList_mkS a,h,toList_mkS]
theorem bytes_lt:∀ (a b:List UInt8),a < b->Lib.compareBytes a b = -1
 | [],[]=>fun h=>absurd h (List.lt_irrefl [])
 | [],_ :: _=>fun _=>rfl
 | _ :: _,[]=>fun h=>by cases h
 | x :: a,y :: b=>fun h=>by
  unfold Lib.compareBytes
  rcases List.cons_lt_cons_iff.1 h with q | ⟨rfl,q⟩
  ·rw [if_pos q]
  ·rw [if_neg (UInt8.lt_irrefl x),if_neg (UInt8.lt_irrefl x)]
   exact bytes_lt a b q
section
variable {d:Array (List UInt8)}
theorem upTo_mem (m:Nat) (hs:∀ i j,i<=j->j < m->d[i]! <= d[j]!):(∀ x,x∈Lib.compactUpTo d m ↔ ∃ i,i < m/\d[i]! = x)/\(Lib.compactUpTo d m).Pairwise (· < ·):=by
 induction m with
 | zero=>exact ⟨fun x=>⟨fun h=>absurd h (by simp [Lib.compactUpTo]),fun ⟨i,hi,_⟩=>absurd hi (by omega)⟩,by simp [Lib.compactUpTo]⟩
 | succ m ih =>
  obtain ⟨i1,i2⟩:=ih (fun i j a b=>hs i j a (by omega))
  rw [Lib.compactUpTo_succ]
  rcases hk:Lib.keeps d m with _ | _
  ·rw [if_neg (by simp),List.append_nil]
   refine ⟨fun x => ?_,i2⟩
   rw [i1]
   constructor
   ·rintro ⟨i,hi,h⟩;exact ⟨i,by omega,h⟩
   ·rintro ⟨i,hi,h⟩
    by_cases him:i=m
    ·subst him
     have hm:i≠0/\d[i]! = d[i-1]! := by simpa [Lib.keeps] using hk
     exact ⟨i-1,by omega,by rw [<- hm.2];exact h⟩
    ·exact ⟨i,by omega,h⟩
  ·rw [if_pos rfl]
   refine ⟨fun x => ?_, ?_⟩
   ·rw [List.mem_append,i1,List.mem_singleton]
    constructor
    ·rintro (⟨i,hi,h⟩ | rfl)
     ·exact ⟨i,by omega,h⟩
     ·exact ⟨m,by omega,rfl⟩
    ·rintro ⟨i,hi,h⟩
     by_cases him:i=m
     ·subst him;exact .inr h.symm
     ·exact .inl ⟨i,by omega,h⟩
   ·refine List.pairwise_append.2 ⟨i2,by simp,fun x hx y hy => ?_⟩
    obtain rfl:=List.mem_singleton.1 hy
    obtain ⟨i,hi,rfl⟩:=(i1 x).1 hx
    have hm:m=0\/d[m]! ≠ d[m-1]! := by simpa [Lib.keeps] using hk
    have h1:=hs i (m-1) (by omega) (by omega)
    have h2:=hs (m-1) m (by omega) (by omega)
    rcases List.le_iff_lt_or_eq.1 h2 with q | q
    ·exact List.lt_of_le_of_lt h1 q
    ·rcases hm with hm | hm
     ·omega
     ·exact absurd q.symm hm
end
theorem sortS_mem (xs:List ByteArray) (l:List UInt8):l∈sortS xs ↔ mkS l∈xs:=by
 unfold sortS
 rw [List.mem_mergeSort,List.mem_map]
 constructor
 ·rintro ⟨s,hs,rfl⟩;rwa [mkS_toList]
 ·intro h;exact ⟨_,h,rfl⟩
theorem compact_props (xs:List ByteArray):(∀ l,l∈Lib.compact (sortS xs) ↔ mkS l∈xs)/\(Lib.compact (sortS xs)).Pairwise (· < ·):=by
 have hp:(sortS xs).Pairwise (·<=·):=by
  have:=List.pairwise_mergeSort (le:=fun x y:List UInt8=>decide (x<=y)) (fun a b c h1 h2=>by simp only [decide_eq_true_eq] at *;exact List.le_trans h1 h2) (fun a b=>by simp only [Bool.or_eq_true,decide_eq_true_eq];exact List.le_total a b) (xs.map (·.data.toList))
  exact this.imp fun h=>by simpa using h
 have hs:∀ i j,i<=j->j < (sortS xs).length->(sortS xs).toArray[i]! <= (sortS xs).toArray[j]! := fun i j hij hj=>by
  rw [getElem!_pos _ i (by simp;omega),getElem!_pos _ j (by simpa using hj)]
  simp only [List.getElem_toArray]
  rcases Nat.lt_or_ge i j with h | h
  ·exact List.pairwise_iff_getElem.1 hp i j (by omega) hj h
  ·obtain rfl:i=j:=by omega
   exact List.le_refl _
 obtain ⟨h1,h2⟩:=upTo_mem _ hs
 refine ⟨fun l => ?_,h2⟩
 unfold Lib.compact
 rw [h1,<- sortS_mem,List.mem_iff_getElem]
 constructor
 ·rintro ⟨i,hi,rfl⟩;exact ⟨i,hi,by rw [getElem!_pos _ i (by simpa using hi)];simp⟩
 ·rintro ⟨i,hi,rfl⟩;exact ⟨i,hi,by rw [getElem!_pos _ i (by simpa using hi)];simp⟩
theorem colsL_mem (xs:List ByteArray) (s:ByteArray):s∈colsL xs ↔ s∈xs:=by
 unfold colsL
 rw [List.mem_map]
 constructor
 ·rintro ⟨l,hl,rfl⟩;exact ((compact_props xs).1 l).1 hl
 ·intro h;exact ⟨s.data.toList,((compact_props xs).1 _).2 (by rwa [mkS_toList]),mkS_toList s⟩
theorem colsL_nodup (xs:List ByteArray):(colsL xs).Nodup:=by
 unfold colsL
 refine List.pairwise_map.2 ((compact_props xs).2.imp fun {a b} h q => ?_)
 obtain rfl:=mkS_inj q
 exact List.lt_irrefl a h
theorem colsL_rise (xs:List ByteArray) (i:Nat) (h:i+1 < (colsL xs).length):Lib.compareBytes ((colsL xs)[i]).data.toList ((colsL xs)[i+1]).data.toList = -1:=by
 have hl:i+1 < (Lib.compact (sortS xs)).length:=by simpa [colsL] using h
 have:=List.pairwise_iff_getElem.1 (compact_props xs).2 i (i+1) (by omega) hl (by omega)
 have e1:(colsL xs)[i]=mkS (Lib.compact (sortS xs))[i]:=by simp [colsL]
 have e2:(colsL xs)[i+1]=mkS (Lib.compact (sortS xs))[i+1]:=by simp [colsL]
 rw [e1,e2]
 exact bytes_lt _ _ this
theorem names_at {w:World} {A:Option Addr} {xs:List ByteArray} (h:RdK btE w A xs) (i:Nat) (hi:i < xs.length) :
  ∃ ad b off,A=some ad/\ad.add i=⟨b,off,none⟩/\w.cell? ⟨b,off,none⟩=some (.string xs[i]):=by
 obtain ⟨ad,b,off,rfl,hadd,_,hc⟩:=h.at_ 1 btE_length (by omega) i hi
 exact ⟨ad,b,off,rfl,by simpa using hadd,by simpa using hc 0 _ rfl⟩
theorem names_at2 {w:World} {A:Option Addr} {xs:List ByteArray} (h:RdK btE w A xs) (i:Nat) (hi:i+1 < xs.length) :
  ∃ ad b off b' off',A=some ad/\ad.add i=⟨b,off,none⟩/\w.cell? ⟨b,off,none⟩=some (.string xs[i])/\ad.add (i+1)=⟨b',off',none⟩/\w.cell? ⟨b',off',none⟩=some (.string xs[i+1]):=by
 obtain ⟨ad,b,off,rfl,hadd,hc⟩:=names_at h i (by omega)
 obtain ⟨ad',b',off',he,hadd',hc'⟩:=names_at h (i+1) hi
 cases he
 exact ⟨ad,b,off,b',off',rfl,hadd,hc,hadd',hc'⟩
def setL (xs:List ByteArray):List (Value × Value):=xs.map fun s=>(.string s,.bool true)
theorem setL_snoc (xs:List ByteArray) (s:ByteArray):setL (xs++[s])=setL xs++[(.string s,.bool true)]:=by simp [setL]
theorem setL_mem {xs:List ByteArray} {s:ByteArray} (h:s∈xs):(Value.string s,Value.bool true)∈setL xs:=List.mem_map.2 ⟨s,h,rfl⟩
theorem setL_miss {xs:List ByteArray} {s:ByteArray} (h:s∉xs):∀ p∈setL xs,p.1≠Value.string s:=fun p hp e=>by
 obtain ⟨d,hd,rfl⟩:=List.mem_map.1 hp
 obtain rfl:d=s:=by simpa using e
 exact h hd
end
end Go.Proofs.YtafoklilkdnepaaGreatDoor
