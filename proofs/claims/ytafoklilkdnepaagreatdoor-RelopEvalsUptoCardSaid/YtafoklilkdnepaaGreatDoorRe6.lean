/- Part 6 of the texts of this proof, one behind the other. No condition beyond those that its theorems state. -/
import Derived.Test.YtafoklilkdnepaaGreatDoorRe5
set_option linter.all false
set_option maxRecDepth 40000
set_option maxHeartbeats 25600000
namespace Go.Proofs.YtafoklilkdnepaaGreatDoor
section
open Go.RowKit
theorem xy{w:World}{g:Nat}{o:Obj}(h:w.heap[g]?=some o):g<w.heap.size:=(cp.1 h).1
def gR(rows:List (List VD)):Prop:=∀r∈rows,r.length<=1000000
theorem zt(A:Option Addr)(c n:Nat)(rows:List (List VD))(hn:rows.length=n)(hl:n<=1000000)(hr:gR rows)(w:World)(h:eW w A rows): Calls Tryz.prog 88 #[.slice A n c] w λe w'=>∃B c',e=.returned (.slice B n c')/\fl 33 w.heap.size w' B c' rows/\Touch [] w w'/\∀b∈ed B,w.heap.size<=b:=by
 subst hn;have HR:=lh h;clear h;go_enter Tryz.func88,Tryz.ntmps88;go_wp2_with fail;go_loopw [3,8] (λo i wr=>∃(k:Nat)(B:Option Addr)(c2:Nat),k<=rows.length/\i=.int .i64 k/\o=.slice B k c2/\Ga (fl 33 w.heap.size wr B c2 (rows.take k))/\Ga (Touch [] w wr)/\Ga (∀b∈ed B,w.heap.size<=b)) (λ_ i _=>rows.length-(intOf i).toNat)
 case atStart=>exact⟨0,none,0,by omega,rfl,rfl,lh (fl.nil _ _ _),lh (Touch.refl _ _),lh (by simp[ed])⟩
 case round =>
 obtain⟨k,B,c2,hk,rfl,rfl,HO,HT,HF⟩:=hrel;by_cases hlt:k<rows.length
 ·obtain⟨bd,A1,c1,rfl,e0,hr1⟩:=(HR.o.touch0 HT.o).at_ k hlt;have hl1:=hr _ (am hlt);have htk:=au hlt;obtain⟨r,hre⟩:∃r,r=rows[k]:=⟨_,rfl⟩;rw[<- hre] at e0 hr1 hl1 htk;have Hc:=lh (oU A1 c1 r.length r rfl hl1 wr hr1);have Htk:=lh htk;have hkn:(k:Int)<(rows.length:Int):=by omega
  clear hre htk hr1;go_wp2_with fail;refine Hc.o.mono ?_;rintro e w1 ⟨A2,c3,rfl,hm⟩;have HM:=lh hm;clear hm Hc;go_wp2_with (at_builtin;refine ez ?_);refine go ?_;have hB:=HO.o.lt;have hsz:=HM.o.t.size;refine gF rfl (.tmp 12) (.tmp 15) 25 rfl 33 gf bp w.heap.size B k c2 (rows.take k) (by rw[aO];omega) rfl (HO.o.touch0 HM.o.t) A2 c3 r HM.o.own.rd
   (λb hb=>⟨λq=>by have:=hB b q;have:=HM.o.f b hb;omega,HM.o.own.lt b hb,by have:=HM.o.f b hb;have:=HT.o.size;omega⟩) 1 rfl (by omega) rfl ?_
  intro B' c' w' hown ht hf;have HX:=Gc hown ht hf;clear hown ht hf;go_wp2_with fail;go_roundw
  case rel =>
   obtain⟨hown,ht,hf⟩:=HX.o;refine⟨k+1,B',c',by omega,by go_num,rfl,lh (by rw[Htk.o];exact hown),lh (((HT.o.trans0 HM.o.t).alloc _).trans ht (λb hb=>.inr (HF.o b hb))),lh (λb hb=> ?_)⟩;rcases hf b hb with q|q
   ·exact HF.o b q
   have:=HT.o.size;omega
  case measure=>simp[intOf];omega
 obtain rfl:k=rows.length:=by omega
 have HO2:Ga (fl 33 w.heap.size wr B c2 rows):=lh (by have:=HO.o;rwa[aH] at this);clear HO;go_wp2;go_ret;exact⟨B,c2,rfl,HO2.o,HT.o,HF.o⟩
structure NewTab (base:Nat) (w:World) (s r:SL) (cs:List CD) (rows:List (List VD)):Prop where
 n:s.n=cs.length
 le:s.n<=s.c
 cols:em w s.A cs
 cf:∀b∈ed s.A,base<=b/\b<w.heap.size
 m:r.n=rows.length
 rws:fl 33 base w r.A r.c rows
 rf:∀b∈ed r.A,base<=b
 apart:∀b∈ed s.A,b∉ed r.A
theorem NewTab.tab{base:Nat}{w:World}{s r:SL}{cs:List CD}{rows:List (List VD)}(h:NewTab base w s r cs rows):TabAt w s r cs rows:=⟨h.n,h.le,h.cols,h.m,h.rws.rowsAt⟩
theorem NewTab.touch0{base:Nat}{w w':World}{s r:SL}{cs:List CD}{rows:List (List VD)}(h:NewTab base w s r cs rows)(ht:Touch [] w w'):NewTab base w' s r cs rows:=
 ⟨h.n,h.le,h.cols.touch0 ht,λb hb=>⟨(h.cf b hb).1,bW (h.cf b hb).2 ht.size⟩,h.m,h.rws.touch0 ht,h.rf,h.apart⟩
theorem fl.base{t base base':Nat}{w:World}{B:Option Addr}{c:Nat}{rows:List (List VD)}(h:fl t base w B c rows)(hb:base'<=base):fl t base' w B c rows:=by obtain⟨sl,h1,h2,h3⟩:=h;exact⟨sl,h1,h2,λs hs b q=>⟨(h3 s hs b q).1,(h3 s hs b q).2.1,bm hb (h3 s hs b q).2.2⟩⟩
theorem NewTab.base{base base':Nat}{w:World}{s r:SL}{cs:List CD}{rows:List (List VD)}(h:NewTab base w s r cs rows)(hb:base'<=base):NewTab base' w s r cs rows:=
 ⟨h.n,h.le,h.cols,λb q=>⟨bm hb (h.cf b q).1,(h.cf b q).2⟩,h.m,h.rws.base hb,λb q=>bm hb (h.rf b q),h.apart⟩
theorem uN(s r:SL)(cs:List CD)(rows:List (List VD))(hn:cs.length<=1000000)(hl:rows.length<=1000000)(hr:gR rows)(w:World)(h:TabAt w s r cs rows): Calls Tryz.prog 63 #[.agg #[.slice s.A s.n s.c,.slice r.A r.n r.c]] w λe w'=>∃s' r':SL,e=.returned (.agg #[.slice s'.A s'.n s'.c,.slice r'.A r'.n r'.c])/\NewTab w.heap.size w' s' r' cs rows/\Touch [] w w':=by
 obtain⟨SA,sn,sc⟩:=s;obtain⟨RA,rn,rc⟩:=r;obtain⟨h1,h2,h3,h4,h5⟩:=h;dsimp only at *;obtain⟨W,hW⟩:∃W,W=((w.alloc (.cells #[.slice SA sn sc,.slice RA rn rc] 27)).alloc (.cells #[.slice none 0 0,.slice none 0 0] 27)):=⟨_,rfl⟩;have t0:Touch [] w W:=hW ▸ ((Touch.refl [] w).alloc (.cells #[.slice SA sn sc,.slice RA rn rc] 27)).alloc (.cells #[.slice none 0 0,.slice none 0 0] 27);have hp0:W.heap[w.heap.size]?=some (.cells #[.slice SA sn sc,.slice RA rn rc] 27 (0,0)):=hW ▸ ((Touch.refl [] (w.alloc (.cells #[.slice SA sn sc,.slice RA rn rc] 27))).alloc (.cells #[.slice none 0 0,.slice none 0 0] 27)).blk (ah w _) (by simp);have hr0:W.heap[w.heap.size+1]?=some (.cells #[.slice none 0 0,.slice none 0 0] 27 (0,0)):=by have:=ah (w.alloc (.cells #[.slice SA sn sc,.slice RA rn rc] 27)) (.cells #[.slice none 0 0,.slice none 0 0] 27);rw[ao] at this;rw[hW];exact this
 have HW:=lh hW;have Hc1:=lh λw'(t:Touch [] W w')=>rN SA sc sn cs h1.symm (by omega) w' (h3.touch0 (t0.trans0 t));have Hc2:=lh λw'(t:Touch [] W w')=>zt RA rc rn rows h4.symm (by omega) hr w' (h5.touch0 (t0.trans0 t));obtain⟨c0,c1,_,_⟩:=eL hp0;have c0d:=((Touch.refl [] W).drew).cell c0 (by simp);have c1d:=((Touch.refl [] W).drew).cell c1 (by simp);have H0:=Gd t0 hr0 c0 c1;have Hn:=Gc h1 h2 h4;clear hW h3 h5 t0 hr0 h1 h2 h4 hn hl hp0 c0 c1;go_enter Tryz.func63,Tryz.ntmps63;go_wp2_with fail;rw[<- HW.o];go_region_held3 (λw'=>w'.cell? ⟨w.heap.size,0,none⟩=some (.slice SA sn sc)/\w'.cell? ⟨w.heap.size,1,none⟩=some (.slice RA rn rc)) (first | exact⟨c0d,c1d⟩ | exact⟨d0,d1⟩ | exact⟨f0,f1⟩ | exact⟨(ik _ _ _ _).cell f0 (by simp),(ik _ _ _ _).cell f1 (by simp)⟩) (first
  |(go_at_call 67;refine(Hc1.o _ (Touch.refl _ _).drew).mono ?_;rintro e w1 ⟨A1,k1,rfl,m1⟩;have M1:=lh m1;have d0:=M1.o.t.cell c0d (by simp);have d1:=M1.o.t.cell c1d (by simp);clear m1)
  |(go_at_call 88;refine(Hc2.o _ ((Touch.refl _ _).drew.trans0 M1.o.t)).mono ?_;rintro e w2 ⟨B2,k2,rfl,o2,t2,f2⟩;have M2:=Gc o2 t2 f2;have f0:=t2.cell d0 (by simp);have f1:=t2.cell d1 (by simp);have hr2:=t2.blk (M1.o.t.blk ((Touch.refl [] W).drew.blk H0.o.2.1 (by simp)) (by simp)) (by simp);obtain⟨z0,z1,y0,y1⟩:=eL hr2;clear o2 t2 f2))
 go_wp2_with fail;obtain⟨o2,t2,f2⟩:=M2.o;obtain⟨ht0,hr0,_,_⟩:=H0.o;obtain⟨h1,h2,h4⟩:=Hn.o;have hWs:W.heap.size=w.heap.size+2:=by rw[HW.o];simp
 have hd:=(Touch.refl [] W).drew;have s1:=M1.o.t.size;have s2:=t2.size;have s0:=hd.size;have hr2:=t2.blk (M1.o.t.blk (hd.blk hr0 (by simp)) (by simp)) (by simp);have tq:=ik w2 (w.heap.size+1) (.slice A1 sn k1) (.slice B2 rn k2);have s3:=tq.size;have hle:=M1.o.own.le;refine aG (ci rfl _ _ (w.heap.size+1) _ _ _ _ rfl (kR hr2 rfl _ _) bV rfl rfl) rfl ⟨⟨A1,sn,k1⟩,⟨B2,rn,k2⟩,rfl,⟨h1,by dsimp only;omega,d9.touch (d9.touch0 M1.o.own.rd t2) tq (λb hb hm=> ?_),λb hb=>⟨?_, ?_⟩,h4, ?_,λb hb=> ?_,λb hb hm=> ?_⟩, ?_⟩
 ·have:=M1.o.f b hb;simp at hm;omega
 ·have:=M1.o.f b hb;omega
 ·have:=M1.o.own.lt b hb;omega
 ·exact(o2.touch tq (λb hb=>by simp at hb;omega) (λb hb=>f2 b hb)).base (by omega)
 ·have:=f2 b hb;omega
 ·have:=M1.o.own.lt b hb;have:=f2 b hm;omega
 exact(((ht0.trans0 hd).trans0 M1.o.t).trans0 t2).trans tq (λb hb=>.inr (by simp at hb;omega))
theorem yj(SA:Option Addr)(cap n:Nat)(cs:List CD)(hn:cs.length=n)(hok:∀ c∈cs,c.Ok)(A:Option Addr)(c m:Nat)(rows:List (List VD))(hm:rows.length=m)(hvk:fe rows)(w:World) (h:em w SA cs) (hv:eW w A rows) (hl:n<=140737000000000) (hl2:m<=140737000000000) (he:e_ cs rows≠0) : Calls Tryz.prog 66 #[.slice SA n cap,.slice A m c] w λe w'=>e=.returned (.tuple #[.agg #[.slice none 0 0,.slice none 0 0],.int .i64 (e_ cs rows)])/\Touch [] w w':=by
 have t0:=(Touch.refl [] w).alloc (.cells #[.slice none 0 0,.slice none 0 0] 27);have hr:=ah w (.cells #[.slice none 0 0,.slice none 0 0] 27);have Hf:=lh (sI SA cap n cs hn hok A c m rows hm hvk _ (h.touch0 t0) (hv.touch0 t0) hl hl2);have HR:=Gb t0 hr;obtain⟨k,hk⟩:∃k,k=e_ cs rows:=⟨_,rfl⟩;rw[<- hk] at Hf he ⊢;have hq:(k==0)=false:=by rw[aw];exact he
 have hq':(k != 0)=true:=by rw[bne,hq];rfl
 clear t0 hr hk h hv;go_enter Tryz.func66,Tryz.ntmps66;go_wp2_with fail;refine Hf.o.mono ?_;rintro e w1 ⟨rfl,t1⟩;have hr1:=t1.blk HR.o.2 (by simp);obtain⟨z0,z1,y0,y1⟩:=eL hr1;have HT:=Gb (HR.o.1.trans0 t1) hr1;clear hr1 t1;go_wp2_with fail;refine aG (eD rfl _ _ w.heap.size _ _ _ _ rfl (kR HT.o.2 rfl _ _) bV rfl rfl) rfl ⟨rfl,HT.o.1.trans (ik _ _ _ _) (λb hb=>.inr (by simp at hb;omega))⟩
theorem jO{cs:List CD}{rows:List (List VD)}(h:e_ cs rows=0):eB cs=0/\rows.length<=4096/\rows.all (fw cs)=true:=by
 unfold e_ at h;by_cases h1:eB cs=0
 ·rw[ae h1] at h;by_cases h2:4096<rows.length
  ·rw[ae h2] at h;cases h
  rw[ab h2] at h;by_cases h3:rows.all (fw cs)=true
  ·exact⟨h1,by omega,h3⟩
  rw[ab h3] at h;cases h
 rw[ab h1] at h;exact absurd h h1
theorem AJ{cs:List CD}(h:eB cs=0):1<=cs.length/\cs.length<=16:=by
 unfold eB at h;by_cases h1:cs.length<1\/16<cs.length
 ·rw[ae h1] at h;cases h
 omega
theorem vO(SA:Option Addr)(cap n:Nat)(cs:List CD)(hn:cs.length=n)(hcap:n<=cap)(hok:∀ c∈cs,c.Ok)(A:Option Addr)(c m:Nat)(rows:List (List VD))(hm:rows.length=m)(hvk:fe rows)(hle:gR rows)(w:World) (h:em w SA cs) (hv:eW w A rows) (hl:n<=140737000000000) (hl2:m<=140737000000000) (he:e_ cs rows=0) : Calls Tryz.prog 66 #[.slice SA n cap,.slice A m c] w λe w'=>∃(s r:SL)(out:List (List VD)),e=.returned (.tuple #[.agg #[.slice s.A s.n s.c,.slice r.A r.n r.c],.int .i64 0])/\NewTab w.heap.size w' s r cs out/\iy rows out/\Touch [] w w':=by
 have t0:=(Touch.refl [] w).alloc (.cells #[.slice none 0 0,.slice none 0 0] 27);have hr:=ah w (.cells #[.slice none 0 0,.slice none 0 0] 27);have hf:=sI SA cap n cs hn hok A c m rows hm hvk _ (h.touch0 t0) (hv.touch0 t0) hl hl2;obtain⟨hc0,h4,_⟩:=jO he;have h16:=AJ hc0;rw[he] at hf;have Hf:=lh hf;have Hcp:=lh λw'(t:Touch [] w w')=>uN ⟨SA,n,cap⟩ ⟨A,m,c⟩ cs rows (by omega) (by omega) hle w' (⟨hn.symm,hcap,h.touch0 t,hm.symm,hv.touch0 t⟩:TabAt w' ⟨SA,n,cap⟩ ⟨A,m,c⟩ cs rows);have HR:=Gb t0 hr;have HV:=Gb hvk h4;clear t0 hr h hv hf hvk hle hc0 h4 h16 hok;go_enter Tryz.func66,Tryz.ntmps66;go_wp2_with fail;refine Hf.o.mono ?_;rintro e w1 ⟨rfl,t1⟩;have HT:=Gb (HR.o.1.trans0 t1) (t1.blk HR.o.2 (by simp));clear t1;go_wp2_with fail;refine(Hcp.o _ HT.o.1).mono ?_;rintro e w2 ⟨s2,r2,rfl,hn2,t2⟩;obtain⟨sA,sn,sc⟩:=s2;obtain⟨rA,rn,rc⟩:=r2;have ta:=(Touch.refl [] w2).alloc (.cells #[.slice sA sn sc,.slice rA rn rc] 27);have hb2:=ah w2 (.cells #[.slice sA sn sc,.slice rA rn rc] 27);have hr2:=ta.blk (t2.blk HT.o.2 (by simp)) (by simp);have hm2:=hn2.m;have hs:=vX rA rc rn rows hm2.symm (by have:=HV.o.2;dsimp only at hm2;omega) HV.o.1 w1.heap.size _ (hn2.rws.touch0 ta);have Hs:=lh hs;have H2:=Ge hn2 t2 ta hb2 hr2;clear hn2 t2 ta hb2 hr2 hm2 hs;go_wp2_with fail;refine Hs.o.mono ?_;rintro e w3 ⟨rfl,out,hsort,hown3,t3⟩;obtain⟨hn2,t2,ta,hb2,hr2⟩:=H2.o;have hw1:=xy HT.o.2;have hnA:w.heap.size∉ed rA:=λq=>by have:=hn2.rf _ q;omega
 have hnB:w2.heap.size∉ed rA:=λq=>by have:=hn2.rws.lt _ q;omega
 have hb3:=t3.blk hb2 hnB;have hr3:=t3.blk hr2 hnA;obtain⟨x0,x1,_,_⟩:=eL hb3;obtain⟨z0,z1,y0,y1⟩:=eL hr3;have H3:=Gd hsort hown3 t3 hr3;clear hsort hown3 t3 hr3 hb3 hnA hnB hn2 t2 ta hb2 hr2;go_wp2_with fail;obtain⟨hsort,hown3,t3,hr3⟩:=H3.o;obtain⟨hn2,t2,ta,hb2,hr2⟩:=H2.o;have tq:=ik w3 w.heap.size (.slice sA sn sc) (.slice rA rn rc);have s2:=t2.size;have s3:=ta.size;have s4:=t3.size;have s5:=tq.size;have hlen:=hsort.1.length_eq;have T3:Touch [] w w3:=((HT.o.1.trans0 t2).trans0 ta).trans t3 (λb hb=>.inr (by have:=hn2.rf b hb;omega));refine aG (eD rfl _ _ w.heap.size _ _ _ _ rfl (kR hr3 rfl _ _) bV rfl rfl) rfl ⟨⟨sA,sn,sc⟩,⟨rA,rn,rc⟩,out,rfl,⟨hn2.n,hn2.le, ?_,λb hb=>⟨?_, ?_⟩, ?_, ?_,λb hb=> ?_,hn2.apart⟩,hsort,T3.trans tq (λb hb=>.inr (by simp at hb;omega))⟩
 ·exact d9.touch (d9.touch (d9.touch0 hn2.cols ta) t3 (λb hb=>hn2.apart b hb)) tq (λb hb hm=>by simp at hm;have:=(hn2.cf b hb).1;omega)
 ·have:=(hn2.cf b hb).1;omega
 ·have:=(hn2.cf b hb).2;omega
 ·have:=hn2.m;omega
 ·exact(hown3.touch tq (λb hb=>by simp at hb;omega) (λb hb=>hn2.rf b hb)).base (by omega)
 have:=hn2.rf b hb;omega
end
section
open Go.RowKit Go.Maps Go.ChangeMaps
structure EN where
 key:List UInt8
 A:Option Addr
 c:Nat
 ix:List Nat
def EN.kv(e:EN):Value × Value:=(.string (S e.key),.slice e.A e.ix.length e.c)
def ig(sl:List SL)(i:Nat):SL:=sl.getD i ⟨none,0,0⟩
structure IdxAt (sl:List SL) (g0:Nat) (w:World) (b:Nat) (es:List EN):Prop where
 mp:im Tryz.prog 193 w b (es.map EN.kv)
 own:∀e∈es,ep 33 1 eT w e.A e.c (e.ix.map (ig sl))
 low:∀e∈es,∀a∈ed e.A,g0<=a/\a≠b
 apart:es.Pairwise λe f=>∀a∈ed e.A,a∉ed f.A
 base:g0<=b
theorem qk:Keyed Tryz.prog 193:=string_keyed Tryz.underlying193
theorem sk(l:List UInt8)(h:l.length<=1000000000):keyOf Tryz.prog 193 (.string (S l))=some (.string (S l).data.toList):=
 Go.WideMaps.keyOf_string_mk Tryz.underlying193 (s:=S l) (by rw[ji];unfold maxLen;omega)
theorem IdxAt.touch0{sl:List SL}{g0:Nat}{w w':World}{b:Nat}{es:List EN}(h:IdxAt sl g0 w b es)(ht:Touch [] w w'):IdxAt sl g0 w' b es:=
 ⟨h.mp.touch ht (by simp),λe he=>(h.own e he).touch0 ht,h.low,h.apart,h.base⟩
theorem IdxAt.made(sl:List SL)(w:World):IdxAt sl w.heap.size (w.alloc (.map #[] 0)) w.heap.size []:=
 ⟨im.made _,by simp,by simp,.nil,aL _⟩
theorem D6{es:List EN}{K:List UInt8}(h:∀ e∈es,e.key≠K):∀p∈es.map EN.kv,p.1≠Value.string (S K):=by intro p hp e;obtain⟨x,hx,rfl⟩:=aJ.1 hp;have e:Value.string (S x.key)=Value.string (S K):=e;exact h x hx (uL (by injection e))
theorem CB(w:World):(zeroValue 25).run Tryz.prog w=.ok (.slice none 0 0) w:=by kernel_rfl
theorem IdxAt.miss{sl:List SL}{g0:Nat}{w:World}{b:Nat}{es:List EN}(h:IdxAt sl g0 w b es)(K:List UInt8)(hK:K.length<=1000000000)(hn:∀ e∈es,e.key≠K)(c:Bool):
  (Instr.lookup 191 (.map (some b)) (.string (S K)) c).run Tryz.prog w=.ok (if c then .tuple #[.slice none 0 0,.bool false] else .slice none 0 0) w:=
 h.mp.miss qk Tryz.underlying191 (sk K hK) (D6 hn) (.slice none 0 0) (CB w) c
theorem IdxAt.hit{sl:List SL}{g0:Nat}{w:World}{b:Nat}{es:List EN}(h:IdxAt sl g0 w b es)(e:EN)(he:e∈es)(hK:e.key.length<=1000000000)(c:Bool):
  (Instr.lookup 191 (.map (some b)) (.string (S e.key)) c).run Tryz.prog w=.ok (if c then .tuple #[.slice e.A e.ix.length e.c,.bool true] else .slice e.A e.ix.length e.c) w:=
 h.mp.hit qk Tryz.underlying191 (sk e.key hK) (aJ.2 ⟨e,he,rfl⟩) c
theorem IdxAt.put_new{sl:List SL}{g0:Nat}{w w':World}{b:Nat}{es:List EN}(h:IdxAt sl g0 w b es)(K:List UInt8)(hK:K.length<=1000000000)(hn:∀ e∈es,e.key≠K)(i:Nat)(A':Option Addr)(c':Nat) (hown:ep 33 1 eT w' A' c' [ig sl i]) (ht:Touch [] w w') (hf:∀a∈ed A',w.heap.size<=a) (hg:g0<=w.heap.size) : ∃w'',(Instr.mapUpdate 191 (.map (some b)) (.string (S K)) (.slice A' 1 c')).run Tryz.prog w'=.ok () w''/\IdxAt sl g0 w'' b (es++[⟨K,A',c',[i]⟩])/\Touch [b] w' w'':=by
 obtain⟨w'',hrun,hm,t2⟩:=(h.mp.touch ht (by simp)).put_new qk Tryz.underlying191 (sk K hK) (D6 hn) (.slice A' 1 c');have hbl:=h.mp.lt;have hnew:∀a∈ed A',a≠b:=λa ha e=>by have:=hf a ha;omega
 refine⟨w'',hrun,⟨by rw[aT];exact hm,λe he=> ?_,λe he a ha=> ?_, ?_,h.base⟩,t2⟩
 ·rcases aZ.1 he with q | q
  ·exact((h.own e q).touch0 ht).touch t2 (λa ha hm=>(h.low e q a ha).2 (by simpa using hm))
  simp only[List.mem_singleton] at q;subst q;exact hown.touch t2 (λa ha hm=>hnew a ha (by simpa using hm))
 ·rcases aZ.1 he with q | q
  ·exact h.low e q a ha
  simp only[List.mem_singleton] at q;subst q;exact⟨by have:=hf a ha;omega,hnew a ha⟩
 rw[c_];refine⟨h.apart,by simp,λe he f hf' a ha hm=> ?_⟩;simp only[List.mem_singleton] at hf';subst hf';have:=(h.own e he).lt a ha;have:=hf a hm;omega
theorem IdxAt.put_old{sl:List SL}{g0:Nat}{w w':World}{b:Nat}{l1 l2:List EN}{e0:EN}(h:IdxAt sl g0 w b (l1++e0:: l2))(hK:e0.key.length<=1000000000)(i:Nat)(A':Option Addr)(c':Nat) (hown:ep 33 1 eT w' A' c' ((e0.ix++[i]).map (ig sl))) (ht:Touch (ed e0.A) w w') (hf:∀a∈ed A',a∈ed e0.A\/w.heap.size<=a) (hg:g0<=w.heap.size) : ∃w'',(Instr.mapUpdate 191 (.map (some b)) (.string (S e0.key)) (.slice A' (e0.ix.length+1) c')).run Tryz.prog w'=.ok () w''/\IdxAt sl g0 w'' b (l1++⟨e0.key,A',c',e0.ix++[i]⟩:: l2)/\Touch [b] w' w'':=by
 have hm0:=h.mp;rw[aT,cx] at hm0;have h0m:e0∈l1++e0:: l2:=by simp
 have hb0:b∉ed e0.A:=λq=>(h.low e0 h0m b q).2 rfl;obtain⟨w'',hrun,hm,t2⟩:=(hm0.touch ht hb0).put_old qk Tryz.underlying191 (sk e0.key hK) (.slice A' (e0.ix.length+1) c');have hbl:=h.mp.lt;have hnew:∀a∈ed A',a≠b:=λa ha e=>by
  rcases hf a ha with q|q
  ·exact hb0 (e ▸ q)
  omega
 have hap:=h.apart;rw[c_,cq] at hap;have hoth:∀e,e∈l1\/e∈l2->∀a∈ed e.A,a∉ed e0.A:=λe he a ha hm=>by
  rcases he with q|q
  ·exact hap.2.2 e q e0 (by simp) a ha hm
  exact hap.2.1.1 e q a hm ha
 have hmem:∀e,e∈l1\/e∈l2->e∈l1++e0:: l2:=λe he=>by rcases he with q | q<;>simp[q]
 have hothn:∀e,e∈l1\/e∈l2->∀a∈ed e.A,a∉ed A':=λe he a ha hm=>by
  rcases hf a hm with q|q
  ·exact hoth e he a ha q
  have:=(h.own e (hmem e he)).lt a ha;omega
 have hsplit:∀e,e∈l1++(⟨e0.key,A',c',e0.ix++[i]⟩:EN):: l2->(e∈l1\/e∈l2)\/e=⟨e0.key,A',c',e0.ix++[i]⟩:=λe he=>by
  rcases aZ.1 he with q|q
  ·exact .inl (.inl q)
  rcases aR.1 q with q | q
  ·exact .inr q
  exact .inl (.inr q)
 refine⟨w'',hrun,⟨?_,λe he=> ?_,λe he a ha=> ?_, ?_,h.base⟩,t2⟩
 ·rw[aT,cx];have e:(EN.kv ⟨e0.key,A',c',e0.ix++[i]⟩)=(Value.string (S e0.key),Value.slice A' (e0.ix.length+1) c'):=by unfold EN.kv;simp
  rw[e];exact hm
 ·rcases hsplit e he with q | rfl
  ·exact((h.own e (hmem e q)).touch ht (hoth e q)).touch t2 (λa ha hm=>(h.low e (hmem e q) a ha).2 (by simpa using hm))
  exact hown.touch t2 (λa ha hm=>hnew a ha (by simpa using hm))
 ·rcases hsplit e he with q | rfl
  ·exact h.low e (hmem e q) a ha
  refine⟨?_,hnew a ha⟩;rcases hf a ha with q|q
  ·exact(h.low e0 h0m a q).1
  omega
 rw[c_,cq];refine⟨hap.1,⟨λf hf' a ha hm=>hothn f (.inr hf') a hm ha,hap.2.1.2⟩,λe he f hf' a ha hm=> ?_⟩;rcases aR.1 hf' with rfl|q
 ·exact hothn e (.inl he) a ha hm
 exact hap.2.2 e he f (aP _ q) a ha hm
def iG(iC:Nat->Bool)(eF:Nat->List UInt8)(k:Nat)(K:List UInt8):List Nat:=(List.range k).filter λi=>iC i&&decide (eF i=K)
theorem k_(iC:Nat->Bool)(eF:Nat->List UInt8)(k:Nat)(K:List UInt8):iG iC eF (k+1) K=iG iC eF k K++if (iC k&&decide (eF k=K))=true then [k] else []:=by
 unfold iG;rw[dg,bZ];congr 1;by_cases h:(iC k&&decide (eF k=K))=true
 ·rw[ae h,cG,ae h];rfl
 rw[ab h,cG,ab h];rfl
structure IdxIs (iC:Nat->Bool) (eF:Nat->List UInt8) (k:Nat) (es:List EN):Prop where
 ix:∀e∈es,e.ix=iG iC eF k e.key
 all:∀i,i<k->iC i=true->∃e∈es,e.key=eF i
 ne:es.Pairwise λe f=>e.key≠f.key
 some:∀e∈es,e.ix≠[]
theorem IdxIs.zero(iC:Nat->Bool)(eF:Nat->List UInt8):IdxIs iC eF 0 []:=⟨by simp,λi h=>absurd h (by omega),.nil,by simp⟩
theorem IdxIs.skip{iC:Nat->Bool}{eF:Nat->List UInt8}{k:Nat}{es:List EN}(h:IdxIs iC eF k es)(hk:iC k=false):IdxIs iC eF (k+1) es:=
 ⟨λe he=>by rw[k_,hk];simpa using h.ix e he,λi hi ho=>by
  by_cases e:i=k
  ·subst e;rw[hk] at ho;cases ho
  exact h.all i (by omega) ho,h.ne,h.some⟩
theorem IdxIs.none_{iC:Nat->Bool}{eF:Nat->List UInt8}{k:Nat}{es:List EN}(h:IdxIs iC eF k es){K:List UInt8}(hn:∀ e∈es,e.key≠K):iG iC eF k K=[]:=by unfold iG;rw[dR];intro i hi hp;rw[d8] at hp;obtain⟨e,he,hk⟩:=h.all i (a_.1 hi) hp.1;exact hn e he (hk.trans (aN hp.2))
theorem IdxIs.put_new{iC:Nat->Bool}{eF:Nat->List UInt8}{k:Nat}{es:List EN}(h:IdxIs iC eF k es)(hk:iC k=true)(hn:∀ e∈es,e.key≠eF k)(A:Option Addr)(c:Nat):IdxIs iC eF (k+1) (es++[⟨eF k,A,c,[k]⟩]):=by
 refine⟨λe he=> ?_,λi hi ho=> ?_, ?_,λe he=>by
  rcases aZ.1 he with q|q
  ·exact h.some e q
  simp only[List.mem_singleton] at q;subst q;simp⟩
 ·rw[k_,hk];rcases aZ.1 he with q|q
  ·have:¬eF k=e.key:=λz=>hn e q z.symm;simp[this,h.ix e q]
  simp only[List.mem_singleton] at q;subst q;dsimp only;rw[h.none_ hn];simp
 ·by_cases e:i=k
  ·subst e;exact⟨⟨eF i,A,c,[i]⟩,by simp,rfl⟩
  obtain⟨x,hx,hy⟩:=h.all i (by omega) ho;exact⟨x,by simp[hx],hy⟩
 rw[c_];refine⟨h.ne,by simp,λe he f hf=> ?_⟩;simp only[List.mem_singleton] at hf;subst hf;exact hn e he
theorem IdxIs.put_old{iC:Nat->Bool}{eF:Nat->List UInt8}{k:Nat}{l1 l2:List EN}{e0:EN}(h:IdxIs iC eF k (l1++e0:: l2))(hk:iC k=true)(he0:e0.key=eF k)(A:Option Addr)(c:Nat):IdxIs iC eF (k+1) (l1++⟨e0.key,A,c,e0.ix++[k]⟩:: l2):=by
 have hne:=h.ne;rw[c_,cq] at hne;have hoth:∀e,e∈l1\/e∈l2->e.key≠e0.key:=λe he=>by
  rcases he with q|q
  ·exact hne.2.2 e q e0 (by simp)
  exact λz=>hne.2.1.1 e q z.symm
 refine⟨λe he=> ?_,λi hi ho=> ?_, ?_,λe he=>by
  rcases aZ.1 he with q|q
  ·exact h.some e (by simp[q])
  rcases aR.1 q with rfl | q
  ·simp
  exact h.some e (by simp[q])⟩
 ·rw[k_,hk];have hcase:(e∈l1\/e∈l2)\/e=⟨e0.key,A,c,e0.ix++[k]⟩:=by
   rcases aZ.1 he with q|q
   ·exact .inl (.inl q)
   rcases aR.1 q with q | q
   ·exact .inr q
   exact .inl (.inr q)
  rcases hcase with q|rfl
  ·have h1:¬eF k=e.key:=λz=>hoth e q (z.symm.trans he0.symm);have h2:e∈l1++e0:: l2:=by rcases q with q | q<;>simp[q]
   simp[h1,h.ix e h2]
  dsimp only;rw[<- h.ix e0 (by simp),he0];simp
 ·by_cases e:i=k
  ·subst e;exact⟨⟨e0.key,A,c,e0.ix++[i]⟩,by simp,he0⟩
  obtain⟨x,hx,hy⟩:=h.all i (by omega) ho;rcases aZ.1 hx with q|q
  ·exact⟨x,by simp[q],hy⟩
  rcases aR.1 q with rfl | q
  ·exact⟨⟨x.key,A,c,x.ix++[k]⟩,by simp,hy⟩
  exact⟨x,by simp[q],hy⟩
 rw[c_,cq];refine⟨hne.1,⟨λf hf=>hne.2.1.1 f hf,hne.2.1.2⟩,λe he f hf=> ?_⟩;rcases aR.1 hf with rfl|q
 ·exact hne.2.2 e he e0 (by simp)
 exact hne.2.2 e he f (aP _ q)
theorem fX.pick{w:World}{sl:List SL}{rows:List (List VD)}(h:fX w sl rows)(ix:List Nat)(hix:∀ i∈ix,i<rows.length):fX w (ix.map (ig sl)) (ix.map λi=>rows.getD i []):=by
 refine⟨by simp,λi a b=> ?_⟩;have hi:i<ix.length:=by simpa using a
 have h2:=hix _ (am hi);have h1:ix[i]<sl.length:=by rw[h.1];exact h2
 have:=h.2 ix[i] h1 h2;simp only[List.getElem_map,ig];simpa [h1,h2] using this
theorem sR{iC:Nat->Bool}{eF:Nat->List UInt8}{k:Nat}{K:List UInt8}:∀i∈iG iC eF k K,i<k:=λ_i hi=>a_.1 (bE.1 hi).1
end
end Go.Proofs.YtafoklilkdnepaaGreatDoor
namespace Go.Proofs
open Go.Shelf
def Tryz.lays125_ren : Go.Shelf.Ren := ⟨fun | 125 => 85 | 128 => 124 | 129 => 125 | n => n, fun | 46 => 149 | 3 => 3 | 51 => 182 | 53 => 184 | 4 => 4 | 5 => 5 | 9 => 9 | n => n, fun | n => n⟩
theorem Tryz.lays125 : Go.Proofs.Lays.n125 Tryz.prog Tryz.lays125_ren := {
 mixed := by kernel_rfl
 f125 := Tryz.func85.trans (congrArg some (by kernel_rfl))
 f128 := Tryz.func124.trans (congrArg some (by kernel_rfl))
 f129 := Tryz.func125.trans (congrArg some (by kernel_rfl))
 t3 := Tryz.underlying3
 a3 := Tryz.isAgg3
 z3 := Tryz.sizeOf3
 v3 := Tryz.zeroValue3
 t4 := Tryz.underlying4
 a4 := Tryz.isAgg4
 z4 := Tryz.sizeOf4
 v4 := Tryz.zeroValue4
 t5 := Tryz.underlying5
 a5 := Tryz.isAgg5
 z5 := Tryz.sizeOf5
 v5 := Tryz.zeroValue5
 t9 := Tryz.underlying9
 a9 := Tryz.isAgg9
 z9 := Tryz.sizeOf9
 v9 := Tryz.zeroValue9
 t46 := Tryz.underlying149
 a46 := Tryz.isAgg149
 z46 := Tryz.sizeOf149
 v46 := Tryz.zeroValue149
 t51 := Tryz.underlying182
 a51 := Tryz.isAgg182
 z51 := Tryz.sizeOf182
 v51 := Tryz.zeroValue182
 t53 := Tryz.underlying184
 a53 := Tryz.isAgg184
 z53 := Tryz.sizeOf184
 v53 := Tryz.zeroValue184 }
theorem Tryz.bits_Len (x : Int) (w : World) (h0 : 0 ≤ x) (h1 : x ≤ 18446744073709551615) :
  Calls Tryz.prog 85 #[.int .u64 x] w fun e w' => e = .returned (.int .i64 (Lib.bitLen x.toNat)) ∧ w' = w := Any.bits_Len Tryz.lays125 x w h0 h1
def Tryz.laysM171_ren : Go.Shelf.Ren := ⟨fun | 171 => 193 | 243 => 207 | 246 => 213 | 283 => 215 | 284 => 216 | 285 => 217 | 286 => 218 | 129 => 125 | 317 => 219 | 318 => 220 | 319 => 221 | 320 => 222 | 337 => 223 | 338 => 224 | n => n, fun | 3 => 3 | 9 => 9 | 2 => 2 | 4 => 4 | 171 => 262 | 0 => 0 | 53 => 184 | 37 => 165 | 5 => 5 | 173 => 264 | 212 => 267 | 51 => 182 | 20 => 20 | 213 => 268 | 46 => 149 | 232 => 269 | 233 => 270 | n => n, fun | 17 => 2 | 18 => 3 | 19 => 4 | n => n⟩
theorem Tryz.laysM171 : Go.Proofs.LaysM.n171 Tryz.prog Tryz.laysM171_ren := {
 mixed := by kernel_rfl
 f129 := Tryz.func125.trans (congrArg some (by kernel_rfl))
 f171 := Tryz.func193.trans (congrArg some (by kernel_rfl))
 f243 := Tryz.func207.trans (congrArg some (by kernel_rfl))
 f246 := Tryz.func213.trans (congrArg some (by kernel_rfl))
 f283 := Tryz.func215.trans (congrArg some (by kernel_rfl))
 f284 := Tryz.func216.trans (congrArg some (by kernel_rfl))
 f285 := Tryz.func217.trans (congrArg some (by kernel_rfl))
 f286 := Tryz.func218.trans (congrArg some (by kernel_rfl))
 f317 := Tryz.func219.trans (congrArg some (by kernel_rfl))
 f318 := Tryz.func220.trans (congrArg some (by kernel_rfl))
 f319 := Tryz.func221.trans (congrArg some (by kernel_rfl))
 f320 := Tryz.func222.trans (congrArg some (by kernel_rfl))
 f337 := Tryz.func223.trans (congrArg some (by kernel_rfl))
 f338 := Tryz.func224.trans (congrArg some (by kernel_rfl))
 t0 := Tryz.underlying0
 a0 := Tryz.isAgg0
 z0 := Tryz.sizeOf0
 v0 := Tryz.zeroValue0
 t2 := Tryz.underlying2
 a2 := Tryz.isAgg2
 z2 := Tryz.sizeOf2
 v2 := Tryz.zeroValue2
 t3 := Tryz.underlying3
 a3 := Tryz.isAgg3
 z3 := Tryz.sizeOf3
 v3 := Tryz.zeroValue3
 t4 := Tryz.underlying4
 a4 := Tryz.isAgg4
 z4 := Tryz.sizeOf4
 v4 := Tryz.zeroValue4
 t5 := Tryz.underlying5
 a5 := Tryz.isAgg5
 z5 := Tryz.sizeOf5
 v5 := Tryz.zeroValue5
 t9 := Tryz.underlying9
 a9 := Tryz.isAgg9
 z9 := Tryz.sizeOf9
 v9 := Tryz.zeroValue9
 t20 := Tryz.underlying20
 a20 := Tryz.isAgg20
 z20 := Tryz.sizeOf20
 v20 := Tryz.zeroValue20
 t37 := Tryz.underlying165
 a37 := Tryz.isAgg165
 z37 := Tryz.sizeOf165
 v37 := Tryz.zeroValue165
 t46 := Tryz.underlying149
 a46 := Tryz.isAgg149
 z46 := Tryz.sizeOf149
 v46 := Tryz.zeroValue149
 t51 := Tryz.underlying182
 a51 := Tryz.isAgg182
 z51 := Tryz.sizeOf182
 v51 := Tryz.zeroValue182
 t53 := Tryz.underlying184
 a53 := Tryz.isAgg184
 z53 := Tryz.sizeOf184
 v53 := Tryz.zeroValue184
 t171 := Tryz.underlying262
 a171 := Tryz.isAgg262
 z171 := Tryz.sizeOf262
 v171 := Tryz.zeroValue262
 t173 := Tryz.underlying264
 a173 := Tryz.isAgg264
 z173 := Tryz.sizeOf264
 v173 := Tryz.zeroValue264
 t212 := Tryz.underlying267
 a212 := Tryz.isAgg267
 z212 := Tryz.sizeOf267
 v212 := Tryz.zeroValue267
 t213 := Tryz.underlying268
 a213 := Tryz.isAgg268
 z213 := Tryz.sizeOf268
 t232 := Tryz.underlying269
 a232 := Tryz.isAgg269
 z232 := Tryz.sizeOf269
 v232 := Tryz.zeroValue269
 t233 := Tryz.underlying270
 a233 := Tryz.isAgg270
 z233 := Tryz.sizeOf270
 v233 := Tryz.zeroValue270
 g17 := by kernel_rfl
 g18 := by kernel_rfl
 g19 := by kernel_rfl
 i0 := by kernel_rfl
 i2 := by kernel_rfl
 i3 := by kernel_rfl
 i4 := by kernel_rfl
 i5 := by kernel_rfl
 i9 := by kernel_rfl
 i20 := by kernel_rfl
 i37 := by kernel_rfl
 i46 := by kernel_rfl
 i51 := by kernel_rfl
 i53 := by kernel_rfl
 i171 := by kernel_rfl
 i173 := by kernel_rfl
 i212 := by kernel_rfl
 i232 := by kernel_rfl
 i233 := by kernel_rfl
 m17 := by kernel_rfl
 m18 := by kernel_rfl
 m19 := by kernel_rfl }
open Go.RowKit Go.Sort Go.Lib in
theorem Tryz.strconv_Itoa (n : Int) (h0 : -9223372036854775808 ≤ n) (h1 : n ≤ 9223372036854775807) (w : World) (htab : Lib.TabIs Tryz.prog w "internal/strconv.uint64pow10" .u64 Lib.pow10Tab) :
  Calls Tryz.prog 193 #[.int .i64 n] w fun e w' => e = .returned (.string ⟨(Lib.itoa n).toArray⟩) ∧ ∃ k os, w' = grow (w.drewN k) os := Any.strconv_Itoa Tryz.laysM171 n h0 h1 w htab
end Go.Proofs
namespace Go.Proofs.YtafoklilkdnepaaGreatDoor
section
open Go.RowKit Go.Maps Go.ChangeMaps
theorem qH{P:Program}{ops:Array Oper}{Q:Exit->Act->World->Prop}{rest:List Oper}{a:Act}{w:World}(h:∀ W,W=w->wpList P ops Q rest a W):wpList P ops Q rest a w:=h w rfl
theorem x_(op col nm:ByteArray)(h5:col.toList.isEmpty=true)(SA:Option Addr)(n c:Nat)(RA:Option Addr)(m rc:Nat)(_hm:m<=1000000)(w:World): Calls Tryz.prog 139 #[.agg #[.string op,.string col,.string nm],.slice SA n c,.slice RA m rc] w λe w'=>e=.returned (.tuple #[.agg #[.int .i64 1,.int .i64 m,.string ⟨#[]⟩],.int .i64 0])/\Touch [] w w':=by have t0:=((Touch.refl [] w).alloc (.cells #[.string op,.string col,.string nm] 79)).alloc (.cells #[.int .i64 0,.int .i64 0,.string ⟨#[]⟩] 31);have hr:=ah (w.alloc (.cells #[.string op,.string col,.string nm] 79)) (.cells #[.int .i64 0,.int .i64 0,.string ⟨#[]⟩] 31);rw[ao] at hr;have HR:=Gb t0 hr;have Hof:=lh λw'=>rS m w';clear t0 hr;go_enter Tryz.func139,Tryz.ntmps139;go_wp2_with fail;refine(Hof.o _).mono ?_;rintro e w1 ⟨rfl,t1⟩;have hr1:=t1.blk HR.o.2 (by simp);obtain⟨z0,z1,z2,y0,y1,y2⟩:=eJ hr1;have HT:=Gb (HR.o.1.trans0 t1) hr1;clear hr1 t1;go_wp2_with fail;refine aG (eD rfl _ _ (w.heap.size+1) _ _ _ _ rfl (kj HT.o.2 rfl _ _ _) bA rfl rfl) rfl ⟨rfl,HT.o.1.trans (gC _ _ _ _ _) (λb hb=>.inr (by simp at hb;omega))⟩
theorem E2(A:Option Addr)(c:Nat)(fv:Value)(w:World):Calls Tryz.prog 177 #[.slice A 1 c,.int .i64 0,.int .i64 1,fv] w λe w'=>e=.returned (.tuple #[])/\w'=w:=by
 go_enter Tryz.func177,Tryz.ntmps177;go_wp2_with fail;go_loop [8] (λy=>y=.int .i64 1) (λ_=>0)
 case atStart=>rfl
 case round =>obtain rfl:=hrel;go_wp2;go_end0;exact⟨rfl,rfl⟩
theorem Dg(A:Option Addr)(c:Nat)(lim:Int)(fv:Value)(w:World):Calls Tryz.prog 172 #[.slice A 1 c,.int .i64 0,.int .i64 1,.int .i64 lim,fv] w λe w'=>e=.returned (.tuple #[])/\w'=w:=by have Hi:=lh (E2 A c fv);go_enter Tryz.func172,Tryz.ntmps172;go_wp2_with fail;refine b8 1 ?_;rw[bx];go_wp2_with fail;refine(Hi.o _).mono ?_;rintro e w1 ⟨rfl,hw⟩;have HW:=lh hw;clear hw;go_wp2_with fail;refine aG (results_none rfl _ _ _) rfl ?_;exact⟨rfl,HW.o⟩
theorem yY(A:Option Addr)(c:Nat)(fv:Value)(w:World):Calls Tryz.prog 138 #[.slice A 1 c,fv] w λe w'=>e=.returned (.tuple #[])/\w'=w:=by have Hi:=lh λlim w'=>Dg A c lim fv w';have Hb:=lh λw'=>Tryz.bits_Len 1 w' (by omega) (by omega);go_enter Tryz.func138,Tryz.ntmps138;go_wp2_with fail;refine(Hb.o _).mono ?_;rintro e w1 ⟨rfl,hw⟩;have HW:=lh hw;clear hw;go_wp2_with fail;refine(Hi.o _ _).mono ?_;rintro e w2 ⟨rfl,hw⟩;have HW2:=lh hw;clear hw;go_wp2_with fail;go_end0;exact⟨rfl,by rw[HW2.o,HW.o]⟩
theorem yo(x:PC)(h1:x.names.n=0)(h2:x.aggs.n=1)(op nm:ByteArray)(sa ra:SL)(cs:List CD)(hsn:sa.n=cs.length)(hl:cs.length<=1000000)(hrn:ra.n=0)(w:World)(hg:d9 lK w x.aggs.A [⟨op,⟨#[]⟩,nm⟩])(hcs:em w sa.A cs): Calls Tryz.prog 97 #[x.val,.agg #[.slice sa.A sa.n sa.c,.slice ra.A ra.n ra.c]] w λe w'=>∃B c,e=.returned (.tuple #[.slice B 1 c,.int .i64 0])/\eW w' B [[⟨1,0,⟨#[]⟩⟩]]/\Touch [] w w':=by
 obtain⟨SA,sn,sc⟩:=sa;obtain⟨RA,rn,rc⟩:=ra;obtain⟨k0,k1,⟨A2,n2,c2'⟩,⟨⟨ck,cn,⟨cvk,cvn,cvt⟩,cop⟩,CA,cnn,cc⟩,⟨NA,nn,nc⟩,⟨EA,en,ec⟩,⟨OA,ol,oc⟩,⟨GA,gn,gc⟩,⟨BA,bn,bc⟩,count⟩:=x;dsimp only at h1 h2 hsn hrn hg hcs ⊢;simp only[PC.val];subst h1 h2 hrn;obtain⟨ad,gb,go_,rfl,hadd,hc⟩:=d9.cells hg 3 kq (by omega) 0 (by simp);rw[bQ] at hadd;have e0:=hc 0 _ rfl;have e1:=hc 1 _ rfl;have e2:=hc 2 _ rfl;simp only[List.getElem_cons_zero,Nat.add_zero] at e0 e1 e2;obtain⟨W,hW⟩:∃W,W=(w.alloc (.cells #[.int .i64 k0,.string k1,.slice A2 n2 c2',.int .i64 ck,.string cn,.int .i64 cvk,.int .i64 cvn,.string cvt,.string cop,.slice CA cnn cc,.slice NA 0 nc,.slice EA en ec,.slice OA ol oc,.slice (some ad) 1 gc,.slice BA bn bc,.int .i64 count] 49)).alloc (.cells #[.slice SA sn sc,.slice RA 0 rc] 27):=⟨_,rfl⟩;have t0:Touch [] w W:=hW ▸ ((Touch.refl [] w).alloc _).alloc _;have hbp:=hW ▸ ((Touch.refl [] (w.alloc (.cells #[.int .i64 k0,.string k1,.slice A2 n2 c2',.int .i64 ck,.string cn,.int .i64 cvk,.int .i64 cvn,.string cvt,.string cop,.slice CA cnn cc,.slice NA 0 nc,.slice EA en ec,.slice OA ol oc,.slice (some ad) 1 gc,.slice BA bn bc,.int .i64 count] 49))).alloc (.cells #[.slice SA sn sc,.slice RA 0 rc] 27)).blk (ah w _) (by simp);have hbt:W.heap[w.heap.size+1]?=some (.cells #[.slice SA sn sc,.slice RA 0 rc] 27 (0,0)):=by
  have:=ah (w.alloc (.cells #[.int .i64 k0,.string k1,.slice A2 n2 c2',.int .i64 ck,.string cn,.int .i64 cvk,.int .i64 cvn,.string cvt,.string cop,.slice CA cnn cc,.slice NA 0 nc,.slice EA en ec,.slice OA ol oc,.slice (some ad) 1 gc,.slice BA bn bc,.int .i64 count] 49)) (.cells #[.slice SA sn sc,.slice RA 0 rc] 27);rw[ao] at this;exact hW ▸ this
 have q10:W.cell? ⟨w.heap.size,10,none⟩=some (.slice NA 0 nc):=d_ hbp rfl;have q13:W.cell? ⟨w.heap.size,13,none⟩=some (.slice (some ad) 1 gc):=d_ hbp rfl;have HW:=lh hW;have HT0:=lh t0;have HB:=Gc hbt q10 q13;have HE:=Gc (t0.cell e0 (by simp)) (t0.cell e1 (by simp)) (t0.cell e2 (by simp));have Hpl:=lh (mH SA sc sn cs hsn.symm (by omega) NA nc 0 [] rfl (by omega) W (hcs.touch0 t0) (d9.nil _ _ _));have hmm:=@run_makeMap Tryz.prog;clear hW t0 hbp hbt e0 e1 e2 hc hg hcs hsn;go_enter Tryz.func97,Tryz.ntmps97;go_wp2_with fail;rw[<- HW.o];refine Hpl.o.mono ?_;rintro e w1 ⟨A1,m1,rfl,M1'⟩;have HT1:=lh M1'.t;have tm:=(HT1.o.alloc (.map #[] 0));obtain⟨b0,b1,_,_⟩:=eL (tm.blk HB.o.1 (by simp));have p10:=tm.cell HB.o.2.1 (by simp);have HMP:=lh (IdxAt.made [] w1);clear M1' Hpl tm q10 q13;go_wp2_with fail;clear hmm;refine b8 1 ?_;rw[bx];go_wp2_with (at_builtin;refine ez ?_);refine go ?_;refine eb (enc:=eT) rfl (.tmp 71) (.tmp 72) 25 rfl 33 _ 1 24 gf bp rfl (by omega) eC ia none 0 0 [] rfl rfl (ep.nil _ _ _ _)
  (some ⟨w1.heap.size+1,0,none⟩) 1 1 [⟨none,0,0⟩] rfl rfl (by have:=d9.one (enc:=eT) (w1.alloc (.map #[] 0)) 33 ⟨none,0,0⟩ #[.slice none 0 0] rfl;rwa[ao] at this) (by omega) (by omega) ?_
 intro Bo co w2 hown ht hf;obtain⟨ad2,ob,oo,rfl,hadd2,hc2⟩:=d9.cells hown.rd 1 eC (by omega) 0 (by simp);rw[bQ] at hadd2;have o0:=hc2 0 _ rfl;simp only[Nat.add_zero] at o0;have o0:w2.cell? ⟨ob,oo,none⟩=some (.slice none 0 0):=o0;have tb:=((Touch.refl [] (w1.alloc (.map #[] 0))).alloc (.cells #[.slice none 0 0] 33)).trans0 ht;have HT2:=lh ((HT1.o.alloc (.map #[] 0)).trans0 tb);have HM2:=lh (HMP.o.touch0 tb);have HBL:=lh (HT2.o.blk HB.o.1 (by simp));have p13:=HT2.o.cell HB.o.2.2 (by simp);have Hsr:=lh (yY (some ad2) co (.func (.func 81) #[] #[]) w2);clear hown ht hf hc2 tb HMP;go_wp2_with fail;refine Hsr.o.mono ?_;rintro e w3 ⟨rfl,rfl⟩;go_wp2_with fail;refine b8 2 ?_;rw[bx];go_wp2_with fail;refine(oU none 0 0 [] rfl (by omega) w3 (d9.nil _ _ _)).mono ?_;rintro e w4 ⟨A4,c4,rfl,m4⟩;have M4:=lh m4;have HT4:=lh (HT2.o.trans0 m4.t);have HM4:=lh (HM2.o.touch0 m4.t);have HBL4:=lh (m4.t.blk HBL.o (by simp));have p13':=m4.t.cell p13 (by simp);have e0:=HT4.o.cell HE.o.1 (by simp);have e1:=HT4.o.cell HE.o.2.1 (by simp);have e2:=HT4.o.cell HE.o.2.2 (by simp);clear m4 p13 HM2;go_wp2_with fail;refine b8 2 ?_;rw[bx];go_wp2_with fail;have ta:=(Touch.refl [] w4).alloc (.cells #[.string op,.string ⟨#[]⟩,.string nm] 79);have hba:=ah w4 (.cells #[.string op,.string ⟨#[]⟩,.string nm] 79);obtain⟨W5,hW5⟩:∃W5,W5=w4.alloc (.cells #[.string op,.string ⟨#[]⟩,.string nm] 79):=⟨_,rfl⟩;rw[<- hW5] at ta hba ⊢
 have HT5:=Gc ta hba (show W5.heap.size=w4.heap.size+1 by rw[hW5,ao]);obtain⟨K,hK⟩:∃K,K=S (fY []):=⟨_,rfl⟩;have Hky:=lh λw'=>pV none 0 0 [] rfl w' (d9.nil _ _ _) (by omega) (by simp) (by simp);rw[<- hK] at Hky;have Hof:=lh λw'=>(x_ op ⟨#[]⟩ nm (by rw[jW];rfl) SA sn sc none 0 0 (by omega) w':Calls _ _ _ _ λe w''=>e=.returned (.tuple #[.agg #[.int .i64 1,.int .i64 0,.string ⟨#[]⟩],.int .i64 0])/\_);have Hlk:=lh λw'(t:Touch [] W5 w')=>hK ▸ (((HM4.o.touch0 ta).touch0 t).miss (fY []) (by simp[fY]) (by simp) false);have td:=(Touch.refl [] W5).drew;obtain⟨a0,a1,a2,_,_,_⟩:=eJ hba;obtain⟨s0,_,_,_⟩:=eL (ta.blk HBL4.o (by simp));have HK:Ga (∀w',Touch [] W5 w'->w'.cell? ⟨w4.heap.size,0,none⟩=some (.string op)/\w'.cell? ⟨w4.heap.size,1,none⟩=some (.string ⟨#[]⟩)/\w'.cell? ⟨w4.heap.size,2,none⟩=some (.string nm)/\w'.cell? ⟨w.heap.size+1,0,none⟩=some (.slice SA sn sc)/\(Instr.lookup 191 (.map (some w1.heap.size)) (.string K) false).run Tryz.prog w'=.ok (.slice none 0 0) w'):=lh λw' t=>⟨t.cell a0 (by simp),t.cell a1 (by simp),t.cell a2 (by simp),t.cell s0 (by simp),Hlk.o _ t⟩;have HTd:=lh td;have HTe:Ga (Touch [] W5 (W5.alloc (.cells #[.int .i64 0,.int .i64 0,.string ⟨#[]⟩] 31)).drew):=lh ((Touch.refl [] W5).alloc _).drew;have HBe:=lh ((Touch.refl [] (W5.alloc (.cells #[.int .i64 0,.int .i64 0,.string ⟨#[]⟩] 31))).drew.blk (ah W5 (.cells #[.int .i64 0,.int .i64 0,.string ⟨#[]⟩] 31)) (by simp));clear hW5 ta hba hK td a0 a1 a2 s0 e0 e1 e2
 go_region_held3 (λw'=>w'.cell? ⟨w4.heap.size,0,none⟩=some (.string op)/\w'.cell? ⟨w4.heap.size,1,none⟩=some (.string ⟨#[]⟩)/\w'.cell? ⟨w4.heap.size,2,none⟩=some (.string nm)/\w'.cell? ⟨w.heap.size+1,0,none⟩=some (.slice SA sn sc)/\(Instr.lookup 191 (.map (some w1.heap.size)) (.string K) false).run Tryz.prog w'=.ok (.slice none 0 0) w')
  (first
   |with_reducible exact HK.o _ HTd.o
   |with_reducible exact HK.o _ HTe.o
   |with_reducible exact HK.o _ T6
   |with_reducible exact HK.o _ (T6.alloc _)
   |with_reducible exact HK.o _ T7
   |with_reducible exact HK.o _ (T7.alloc _)
   |exact HK.o _ (T7.trans (gC _ _ _ _ _) (λb hb=>.inr (by simp at hb;omega))))
  (first
   |(go_at_call 136;refine(Hky.o _).mono ?_;rintro e w6 ⟨rfl,t6⟩;have h6:Touch [] (W5.alloc (.cells #[.int .i64 0,.int .i64 0,.string ⟨#[]⟩] 31)).drew w6:=(by with_reducible exact t6);have hbv6:=h6.blk HBe.o (by simp);have T6:Touch [] W5 w6:=HTe.o.trans0 h6;have s6:=T6.size)
   |(go_at_call 136;refine(Hky.o _).mono ?_;rintro e w6 ⟨rfl,t6⟩;have h6:Touch [] W5.drew w6:=(by with_reducible exact t6);have T6:Touch [] W5 w6:=HTd.o.trans0 h6;have s6:=T6.size)
   |(go_at_call 139;refine(Hof.o _).mono ?_;rintro e w7 ⟨rfl,t7⟩;have h7:Touch [] (w6.alloc (.cells #[.int .i64 0,.int .i64 0,.string ⟨#[]⟩] 31)) w7:=(by with_reducible exact t7);have T7:Touch [] W5 w7:=(T6.alloc _).trans0 h7;have hbv:=h7.blk (ah w6 (.cells #[.int .i64 0,.int .i64 0,.string ⟨#[]⟩] 31)) (by simp);obtain⟨z0,z1,z2,y0,y1,y2⟩:=eJ hbv)
   |(go_at_call 139;refine(Hof.o _).mono ?_;rintro e w7 ⟨rfl,t7⟩;have h7:Touch [] w6 w7:=(by with_reducible exact t7);have T7:Touch [] W5 w7:=T6.trans0 h7;have hbv:=h7.blk hbv6 (by simp);obtain⟨z0,z1,z2,y0,y1,y2⟩:=eJ hbv)
   |(go_at_call 139;refine(Hof.o _).mono ?_;rintro e w7 ⟨rfl,t7⟩;have h7:Touch [] w6 w7:=(by with_reducible exact t7);have T7:Touch [] W5 w7:=T6.trans0 h7))
 all_goals (go_wp2_with (at_builtin;refine ez ?_))
 all_goals
 refine go ?_;refine qH ?_;intro W8 hW8;have T8:Touch [] W5 W8:=by
  rw[hW8];first
   |with_reducible exact(T7.alloc _).alloc _
   |exact(T7.trans (gC _ _ _ _ _) (λb hb=>.inr (by simp at hb;omega))).alloc _
 have hrd:∀g,g+1=W8.heap.size->d9 ff W8 (some ⟨g,0,none⟩) [⟨1,0,⟨#[]⟩⟩]:=by
  obtain⟨X,hX⟩:∃X:World,W8=X.alloc (.cells #[.int .i64 1,.int .i64 0,.string ⟨#[]⟩] 31):=⟨_,hW8⟩;intro g hg;rw[hX] at hg ⊢;rw[ao] at hg;obtain rfl:g=X.heap.size:=by omega
  exact d9.one (enc:=ff) X 31 ⟨1,0,⟨#[]⟩⟩ _ rfl
 have hA:∀g,g=W8.heap.size->g=W8.heap.size:=λ_ h=>h;refine eb (enc:=ff) rfl (.tmp 105) (.tmp 107) 33 rfl 31 _ 3 32 jI cj rfl (by omega) eO f8 A4 0 c4 [] rfl rfl (M4.o.own.touch0 (HT5.o.1.trans0 T8))
  _ 1 _ [⟨1,0,⟨#[]⟩⟩] rfl rfl (hrd _ (by rw[hW8];simp)) (by omega) (by omega) ?_
 intro A9 c9 w9 hown ht hf;have hTT:Touch [] w w9:=(((HT0.o.trans0 HT4.o).trans0 HT5.o.1).trans0 T8).trans ht (λb hb=>.inr (by have:=M4.o.f b hb;have:=(HT0.o.trans0 HT2.o).size;omega));rw[cw] at hown;have HX:=Gb hown hTT;clear hown ht hf hTT hrd hA T8 hW8;go_wp2_with fail;rw[bx];go_wp2_with (at_builtin;refine ez ?_);refine go ?_;refine gF rfl (.tmp 110) (.tmp 112) 25 rfl 33 gf bp 0 none 0 0 [] rfl rfl (fl.nil _ _ _) A9 c9 [⟨1,0,⟨#[]⟩⟩] HX.o.1.rd
  (λb hb=>⟨by simp[ed],HX.o.1.lt b hb,aY _⟩) 1 rfl (by omega) rfl ?_
 intro B' c' w' hown2 ht2 hf2;have HY:=Gb hown2 ((HX.o.2.alloc _).trans0 ht2);clear hown2 ht2 hf2;go_wp2_with fail;rw[bx];go_wp2_with fail;go_ret2;exact⟨B',c',rfl,HY.o.1.rowsAt,HY.o.2⟩
end
end Go.Proofs.YtafoklilkdnepaaGreatDoor
