/- Part 3 of the texts of this proof, one behind the other. No condition beyond those that its theorems state. -/
import Derived.Test.YtafoklilkdnepaaGreatDoorRe2
set_option linter.all false
set_option maxRecDepth 40000
set_option maxHeartbeats 25600000
namespace Go.Proofs.YtafoklilkdnepaaGreatDoor
section
open Go.RowKit
def fe(rows:List (List VD)):Prop:=∀r∈rows,r.length<=140737000000000/\∀v∈r,v.Ok 140737000000000
theorem vu(B:Nat)(SA:Option Addr)(cap n:Nat)(cs:List CD)(hn:cs.length=n)(hok:∀ c∈cs,c.Ok)(hc0:eB cs=0)(A:Option Addr)(c m:Nat)(rows:List (List VD))(hm:rows.length=m)(hvk:fe rows)(w:World) (hB:w.cell? ⟨B,0,none⟩=some (.slice SA n cap)) (h:em w SA cs) (hv:eW w A rows) (hl:n<=140737000000000) (hl2:m<=140737000000000) : Calls Tryz.prog 109 #[.slice A m c,.func (.func 110) #[] #[.pointer (some ⟨B,0,none⟩)]] w λe w'=>e=.returned (.bool (!rows.all (fw cs)))/\Touch [] w w':=by have hi:=ux B SA cap n cs hn hok hc0 A c m rows hm hvk w hB h hv hl hl2;have Hi:=lh hi;clear hi;go_enter Tryz.func109,Tryz.ntmps109;go_wp2_with fail;refine Hi.o.mono ?_;rintro e w1 ⟨⟨i,rfl,i1,i2,i3⟩,t1⟩;have I3:=lh i3;clear i3;go_wp2;go_ret;exact⟨eo (by rw[<- I3.o]),t1⟩
theorem sI(SA:Option Addr)(cap n:Nat)(cs:List CD)(hn:cs.length=n)(hok:∀ c∈cs,c.Ok)(A:Option Addr)(c m:Nat)(rows:List (List VD))(hm:rows.length=m)(hvk:fe rows)(w:World) (h:em w SA cs) (hv:eW w A rows) (hl:n<=140737000000000) (hl2:m<=140737000000000) : Calls Tryz.prog 79 #[.slice SA n cap,.slice A m c] w λe w'=>e=.returned (.int .i64 (e_ cs rows))/\Touch [] w w':=by
 have t0:=(Touch.refl [] w).alloc (.cells #[.slice SA n cap] 24);have hb0:=ah w (.cells #[.slice SA n cap] 24);have hck:=lZ SA cap n cs hn hok _ (h.touch0 t0) (by omega);by_cases hc:eB cs=0
 ·rw[hc] at hck;have Hck:=lh hck;have Hcf:=lh λw'(t:Touch [] (w.alloc (.cells #[.slice SA n cap] 24)) w')=>vu w.heap.size SA cap n cs hn hok hc A c m rows hm hvk w' (t.cell (d_ hb0 (i:=0) rfl) (by simp)) (h.touch0 (t0.trans0 t)) (hv.touch0 (t0.trans0 t)) hl hl2;have Hfv:=lh (show e_ cs rows=if 4096<rows.length then 31 else if rows.all (fw cs)=true then 0 else 12 by unfold e_;rw[ae hc]);have Hm:=lh hm;clear hck hc hm hvk hok;by_cases h4:4096<m
  ·have Hq:=lh (show e_ cs rows=31 by rw[Hfv.o,Hm.o,ae h4]);go_enter Tryz.func79,Tryz.ntmps79;go_wp2_with fail;refine Hck.o.mono ?_;rintro e w1 ⟨rfl,t1⟩;go_wp2;go_ret;exact⟨ew Hq.o.symm,t0.trans0 t1⟩
  rcases ha:rows.all (fw cs) with _ | _
  ·have Hq:=lh (show e_ cs rows=12 by rw[Hfv.o,Hm.o,ab h4,ha];rfl);rw[ha] at Hcf;clear ha;go_enter Tryz.func79,Tryz.ntmps79;go_wp2_with fail;refine Hck.o.mono ?_;rintro e w1 ⟨rfl,t1⟩;go_wp2_with fail;refine(Hcf.o _ t1).mono ?_;rintro e w2 ⟨rfl,t2⟩;go_wp2;go_ret;exact⟨ew Hq.o.symm,(t0.trans0 t1).trans0 t2⟩
  have Hq:=lh (show e_ cs rows=0 by rw[Hfv.o,Hm.o,ab h4,ha];rfl);rw[ha] at Hcf;clear ha;go_enter Tryz.func79,Tryz.ntmps79;go_wp2_with fail;refine Hck.o.mono ?_;rintro e w1 ⟨rfl,t1⟩;go_wp2_with fail;refine(Hcf.o _ t1).mono ?_;rintro e w2 ⟨rfl,t2⟩;go_wp2;go_ret;exact⟨ew Hq.o.symm,(t0.trans0 t1).trans0 t2⟩
 have Hck:=lh hck;have hfv:e_ cs rows=eB cs:=by unfold e_;rw[ab hc]
 rw[hfv];obtain⟨k,hk⟩:∃k,k=eB cs:=⟨_,rfl⟩;rw[<- hk];rw[<- hk] at Hck hc;have hq:(k==0)=false:=by rw[aw];exact hc
 have hq':(k != 0)=true:=by rw[bne,hq];rfl
 clear hck hfv hk;go_enter Tryz.func79,Tryz.ntmps79;go_wp2_with fail;refine Hck.o.mono ?_;rintro e w1 ⟨rfl,t1⟩;go_wp2;go_ret;exact⟨rfl,t0.trans0 t1⟩
theorem tG{rows:List (List VD)}{p:Nat}(h:p+1<rows.length)(hb:ej (rows[p+1]) (rows[p])<0):gH rows=false:=by unfold gH;rw[List.all_eq_false];refine⟨p,a_.2 (by omega), ?_⟩;rw[bG,bG,aX h,aX (by omega:p<rows.length)];simpa using hb
theorem sr{rows:List (List VD)}(h:∀ p (hp:p+1<rows.length),0<=ej (rows[p+1]) (rows[p])):gH rows=true:=by
 unfold gH;rw[bU];intro p hp;have hp':p+1<rows.length:=by have:=a_.1 hp;omega
 rw[bG,bG,aX hp',aX (by omega:p<rows.length)];simpa using h p hp'
theorem vR(A:Option Addr)(c m:Nat)(rows:List (List VD))(hm:rows.length=m)(hvk:fe rows)(w:World)(hv:eW w A rows)(hl2:m<=140737000000000): Calls Tryz.prog 80 #[.slice A m c,.func (.func 81) #[] #[]] w λe w'=>e=.returned (.bool (gH rows))/\Touch [] w w':=by
 subst hm;have hn1:IntKind.i64.wrap ((rows.length:Int)-1)=(rows.length:Int)-1:=cU _ (by omega);go_enter Tryz.func80,Tryz.ntmps80;go_wp2;clear hn1;go_loopw [5] (λi wr=>∃j:Nat,j<=rows.length/\i=.int .i64 ((j:Int)-1)/\Ga (∀p(hp:p+1<rows.length),j<=p+1->0<=ej (rows[p+1]) (rows[p]))/\Touch [] w wr) (λi _=>(intOf i+1).toNat)
 case atStart=>exact⟨rows.length,aL _,rfl,lh (λp hp h=>by omega),Touch.refl _ _⟩
 case round =>
 obtain⟨j,hj,rfl,Hs,ht⟩:=hrel;by_cases h2:2<=j
 ·obtain⟨p,rfl⟩:∃p,j=p+2:=⟨j-2,by omega⟩;have hp1:p+1<rows.length:=by omega
  have hp0:p<rows.length:=by omega
  obtain⟨bd,A1,c1,rfl,e1,hr1⟩:=(hv.touch0 ht).at_ (p+1) hp1;obtain⟨bd2,A2,c2,hbd,e2,hr2⟩:=(hv.touch0 ht).at_ p hp0;obtain rfl:bd=bd2:=by injection hbd
  have hv1:=hvk _ (am hp1);have hv2:=hvk _ (am hp0);have hno:=λh=>tG (rows:=rows) hp1 h;obtain⟨r1,hr1e⟩:∃r,r=rows[p+1]:=⟨_,rfl⟩;obtain⟨r2,hr2e⟩:∃r,r=rows[p]:=⟨_,rfl⟩;rw[<- hr1e] at e1 hr1 hv1 hno;rw[<- hr2e] at e2 hr2 hv2 hno;have hcv:=λw'(t:Touch [] wr w')=>qO A1 A2 c1 c2 r1.length r2.length r1 r2 rfl rfl w' (hr1.touch0 t) (hr2.touch0 t) hv1.1 hv2.1;have hcb:=s_ r1 r2;obtain⟨x,hx⟩:∃x,x=ej r1 r2:=⟨_,rfl⟩;rw[<- hx] at hcv hno hcb;have Hcv:=lh hcv;have Hno:=lh hno;have Hx:=lh hx;have Hr1:=lh hr1e;have Hr2:=lh hr2e;obtain⟨q,hq⟩:∃q,q=p+1:=⟨_,rfl⟩;have hi:(((p+2:Nat):Int)-1)=(q:Int):=by omega
  rw[hi];rw[<- hq] at e1;have hw:IntKind.i64.wrap ((q:Int)-1)=(p:Int):=by rw[cU _ (by omega)];omega
  have hq0:(0:Int)<(q:Int):=by omega
  have hq00:(0:Int)<=(q:Int):=by omega
  have hqn:(q:Int)<(rows.length:Int):=by omega
  have hpp:(0:Int)<=(p:Int):=by omega
  have hpn:(p:Int)<(rows.length:Int):=by omega
  have g1:=TW.cell e1;have g2:=TW.cell e2;have Hq:=lh hq;clear hcv hno hx hr1e hr2e hi hq e1 e2 hr1 hr2 hv1 hv2 hbd;by_cases hx0:x<0
  ·have Hf:=lh (Hno.o hx0);go_wp2;refine eh wr (Touch.refl _ _) (by kernel_rfl) (by kernel_rfl) ?_;repeat (go_big_quiet_step (((go_at_call 81;exact Calls.tw _ (Hcv.o _ (TW.t _))))))
   refine aS ?_;rintro _ ⟨x2,rfl⟩;go_wp2;go_ret;exact⟨eo (by rw[Hf.o]),ht.trans0 x2.t⟩
  have Hg:=lh (show ∀p'(hp:p'+1<rows.length),q<=p'+1->0<=ej (rows[p'+1]) (rows[p']) from λp' hp h=>by
   by_cases he:p+2<=p'+1
   ·exact Hs.o p' hp he
   obtain rfl:p'=p:=by have:=Hq.o;omega
   rw[<- Hr1.o,<- Hr2.o,<- Hx.o];omega)
  go_wp2;refine eh wr (Touch.refl _ _) (by kernel_rfl) (by kernel_rfl) ?_;repeat (go_big_quiet_step (((go_at_call 81;exact Calls.tw _ (Hcv.o _ (TW.t _))))))
  refine aS ?_;rintro _ ⟨x2,rfl⟩;go_wp2;go_roundw
  case rel=>exact⟨q,by omega,by have:=Hq.o;first | omega | (congr 1;omega),Hg,ht.trans0 x2.t⟩
  case measure=>simp[intOf];have:=Hq.o;omega
 have Hf:=lh (show gH rows=true from sr λp hp=>Hs.o p hp (by omega));have hle:¬(0:Int)<(j:Int)-1:=by omega
 go_wp2;go_ret;exact⟨eo (by rw[Hf.o]),ht⟩
theorem rK(SA:Option Addr)(cap n:Nat)(cs:List CD)(hn:cs.length=n)(hok:∀ c∈cs,c.Ok)(A:Option Addr)(c m:Nat)(rows:List (List VD))(hm:rows.length=m)(hvk:fe rows)(w:World) (h:em w SA cs) (hv:eW w A rows) (hl:n<=140737000000000) (hl2:m<=140737000000000) : Calls Tryz.prog 50 #[.agg #[.slice SA n cap,.slice A m c]] w λe w'=>e=.returned (.int .i64 (ft cs rows))/\Touch [] w w':=by
 have t0:=(Touch.refl [] w).alloc (.cells #[.slice SA n cap,.slice A m c] 27);have hb0:=ah w (.cells #[.slice SA n cap,.slice A m c] 27);have Hf:=lh (sI SA cap n cs hn hok A c m rows hm hvk _ (h.touch0 t0) (hv.touch0 t0) hl hl2);have Hs:=lh λw'(t:Touch [] w w')=>vR A c m rows hm hvk w' (hv.touch0 t) hl2;have Hct:=lh (show ft cs rows=if e_ cs rows=0 then (if gH rows=true then 0 else 20) else e_ cs rows from rfl);obtain⟨k,hk⟩:∃k,k=e_ cs rows:=⟨_,rfl⟩;rw[<- hk] at Hf Hct;have Hb0:=lh hb0;clear hb0 hk;by_cases h0:k=0
 ·subst h0;obtain⟨b,hb⟩:∃b,b=gH rows:=⟨_,rfl⟩;rw[<- hb] at Hs Hct;clear hb;cases b
  ·have Hq:=lh (show ft cs rows=20 from Hct.o);go_enter Tryz.func50,Tryz.ntmps50;go_wp2_with fail;refine Hf.o.mono ?_;rintro e w1 ⟨rfl,t1⟩;have e1:=t1.cell (d_ Hb0.o (i:=1) rfl) (by simp);go_wp2_with fail;refine(Hs.o _ (t0.trans0 t1)).mono ?_;rintro e w2 ⟨rfl,t2⟩;go_wp2;go_ret;exact⟨ew Hq.o.symm,(t0.trans0 t1).trans0 t2⟩
  have Hq:=lh (show ft cs rows=0 from Hct.o);go_enter Tryz.func50,Tryz.ntmps50;go_wp2_with fail;refine Hf.o.mono ?_;rintro e w1 ⟨rfl,t1⟩;have e1:=t1.cell (d_ Hb0.o (i:=1) rfl) (by simp);go_wp2_with fail;refine(Hs.o _ (t0.trans0 t1)).mono ?_;rintro e w2 ⟨rfl,t2⟩;go_wp2;go_ret;exact⟨ew Hq.o.symm,(t0.trans0 t1).trans0 t2⟩
 have Hq:=lh (show ft cs rows=k by rw[Hct.o,ab h0]);have hq:(k==0)=false:=by rw[aw];exact h0
 have hq':(k != 0)=true:=by rw[bne,hq];rfl
 go_enter Tryz.func50,Tryz.ntmps50;go_wp2_with fail;refine Hf.o.mono ?_;rintro e w1 ⟨rfl,t1⟩;go_wp2;go_ret;exact⟨ew Hq.o.symm,t0.trans0 t1⟩
end
section
open Go.RowKit
theorem d9.cells{α:Type}{enc:α->List Value}{w:World}{A:Option Addr}{xs:List α}(h:d9 enc w A xs)(k:Nat)(hk:∀ x,(enc x).length=k)(h0:0<k)(i:Nat)(hi:i<xs.length): ∃ad b off,A=some ad/\ad.add (i*k)=⟨b,off,none⟩/\∀j u,(enc xs[i])[j]?=some u->w.cell? ⟨b,off+j,none⟩=some u:=by obtain⟨ad,b,off,e1,e2,_,e3⟩:=d9.at_ h k hk h0 i hi;exact⟨ad,b,off,e1,e2,e3⟩
structure TabAt (w:World) (s r:SL) (cs:List CD) (rows:List (List VD)):Prop where
 n:s.n=cs.length
 le:s.n<=s.c
 cols:em w s.A cs
 m:r.n=rows.length
 rws:eW w r.A rows
theorem TabAt.touch0{w w':World}{s r:SL}{cs:List CD}{rows:List (List VD)}(h:TabAt w s r cs rows)(ht:Touch [] w w'):TabAt w' s r cs rows:=⟨h.n,h.le,h.cols.touch0 ht,h.m,h.rws.touch0 ht⟩
structure SrcD where
 name:ByteArray
 cs:List CD
 rows:List (List VD)
structure SrcC where
 name:ByteArray
 s:SL
 r:SL
def st(x:SrcC):List Value:=[.string x.name,.slice x.s.A x.s.n x.s.c,.slice x.r.A x.r.n x.r.c]
theorem zo(x:SrcC):(st x).length=3:=rfl
def FI(w:World)(x:SrcC)(d:SrcD):Prop:=x.name=d.name/\TabAt w x.s x.r d.cs d.rows
def iK(w:World)(I:Option Addr)(l:List SrcD):Prop:=∃xs:List SrcC,xs.length=l.length/\d9 st w I xs/\∀i(h1:i<xs.length)(h2:i<l.length),FI w xs[i] l[i]
theorem iK.touch0{w w':World}{I:Option Addr}{l:List SrcD}(h:iK w I l)(ht:Touch [] w w'):iK w' I l:=by obtain⟨xs,h1,h2,h3⟩:=h;exact⟨xs,h1,d9.touch0 h2 ht,λi a b=>⟨(h3 i a b).1,(h3 i a b).2.touch0 ht⟩⟩
theorem iK.at_{w:World}{I:Option Addr}{l:List SrcD}(h:iK w I l)(i:Nat)(hi:i<l.length): ∃ad b off s r,I=some ad/\ad.add (i*3)=⟨b,off,none⟩/\w.cell? ⟨b,off,none⟩=some (.string l[i].name)/\w.cell? ⟨b,off+1,none⟩=some (.slice s.A s.n s.c)/\w.cell? ⟨b,off+2,none⟩=some (.slice r.A r.n r.c)/\TabAt w s r l[i].cs l[i].rows:=by obtain⟨xs,h1,h2,h3⟩:=h;obtain⟨ad,b,off,e1,e2,e3⟩:=d9.cells h2 3 zo (by omega) i (by omega);have:=h3 i (by omega) hi;exact⟨ad,b,off,xs[i].s,xs[i].r,e1,e2,by rw[<- this.1];exact e3 0 _ rfl,e3 1 _ rfl,e3 2 _ rfl,this.2⟩
structure SrcD.Ok (d:SrcD):Prop where
 cols:∀c∈d.cs,c.Ok
 n:d.cs.length<=1000000
 rows:fe d.rows
 m:d.rows.length<=1000000
def j8(l:List SrcD)(s:ByteArray):Option Nat:=l.findIdx? λd=>decide (d.name=s)
def rJ(l:List SrcD)(s:ByteArray):Int:=match j8 l s with | some k=>(k:Int) | none => -1
theorem k8{l:List SrcD}{s:ByteArray}{k:Nat}(h:k<l.length)(hk:l[k].name=s)(hno:∀ j (hj:j<k),l[j].name≠s):j8 l s=some k:=by unfold j8;rw[bw];exact⟨h,by simpa using hk,λj hj=>by simpa using hno j hj⟩
theorem tN{l:List SrcD}{s:ByteArray}(hno:∀ j (hj:j<l.length),l[j].name≠s):j8 l s=none:=by unfold j8;rw[cW];intro c hc;obtain⟨j,hj,rfl⟩:=aU.1 hc;simpa using hno j hj
theorem ES{l:List SrcD}{s:ByteArray}{k:Nat}(h:j8 l s=some k):k<l.length:=by unfold j8 at h;rw[bw] at h;exact h.1
def gD(s:ByteArray):List Value:=[.string s]
theorem iR(s:ByteArray):(gD s).length=1:=rfl
theorem xN(s:ByteArray):∀u∈gD s,u.oneCell'=true:=by intro u hu;simp only[gD,List.mem_cons,List.not_mem_nil,or_false] at hu;subst hu;rfl
def nz(p:ByteArray × ByteArray):List Value:=[.string p.1,.string p.2]
theorem lH(p:ByteArray × ByteArray):(nz p).length=2:=rfl
structure AG where
 op:ByteArray
 col:ByteArray
 name:ByteArray
def lK(a:AG):List Value:=[.string a.op,.string a.col,.string a.name]
theorem kq(a:AG):(lK a).length=3:=rfl
def pg(p:ByteArray × Bool):List Value:=[.string p.1,.bool p.2]
theorem mJ(p:ByteArray × Bool):(pg p).length=2:=rfl
structure PC where
 kind:Int
 name:ByteArray
 args:SL
 cond:XC
 names:SL
 exprs:SL
 on:SL
 aggs:SL
 by_:SL
 count:Int
def ir(x:PC):List Value:=[.int .i64 x.kind,.string x.name,.slice x.args.A x.args.n x.args.c,.int .i64 x.cond.nd.kind,.string x.cond.nd.name,.int .i64 x.cond.nd.v.kind,.int .i64 x.cond.nd.v.num,.string x.cond.nd.v.text,.string x.cond.nd.op,.slice x.cond.A x.cond.n x.cond.c,
 .slice x.names.A x.names.n x.names.c,.slice x.exprs.A x.exprs.n x.exprs.c,.slice x.on.A x.on.n x.on.c,.slice x.aggs.A x.aggs.n x.aggs.c,.slice x.by_.A x.by_.n x.by_.c,.int .i64 x.count]
theorem lC(x:PC):(ir x).length=16:=rfl
theorem EK(x:PC):∀u∈ir x,u.oneCell'=true:=by intro u hu;simp only[ir,List.mem_cons,List.not_mem_nil,or_false] at hu;rcases hu with rfl|rfl|rfl|rfl|rfl|rfl|rfl|rfl|rfl|rfl|rfl|rfl|rfl|rfl|rfl|rfl<;>rfl
def PC.val(x:PC):Value:=.agg #[.int .i64 x.kind,.string x.name,.slice x.args.A x.args.n x.args.c,.int .i64 x.cond.nd.kind,.string x.cond.nd.name,.int .i64 x.cond.nd.v.kind,.int .i64 x.cond.nd.v.num,.string x.cond.nd.v.text,.string x.cond.nd.op,.slice x.cond.A x.cond.n x.cond.c,
 .slice x.names.A x.names.n x.names.c,.slice x.exprs.A x.exprs.n x.exprs.c,.slice x.on.A x.on.n x.on.c,.slice x.aggs.A x.aggs.n x.aggs.c,.slice x.by_.A x.by_.n x.by_.c,.int .i64 x.count]
structure PD (m:Nat) where
 kind:Int
 name:ByteArray
 cond:TX m
 names:List ByteArray
 exprs:List (TX m)
 on:List (ByteArray × ByteArray)
 aggs:List AG
 by_:List (ByteArray × Bool)
 count:Int
structure PlanAt {m:Nat} (w:World) (x:PC) (d:PD m):Prop where
 kind:x.kind=d.kind
 name:x.name=d.name
 cond:iJ iX jf m w x.cond d.cond
 nn:x.names.n=d.names.length
 names:d9 gD w x.names.A d.names
 en:x.exprs.n=d.exprs.length
 exprs:ki iX jf m w x.exprs.A d.exprs
 on':x.on.n=d.on.length
 on:d9 nz w x.on.A d.on
 an:x.aggs.n=d.aggs.length
 aggs:d9 lK w x.aggs.A d.aggs
 bn:x.by_.n=d.by_.length
 by_:d9 pg w x.by_.A d.by_
 count:x.count=d.count
theorem PlanAt.touch0{m:Nat}{w w':World}{x:PC}{d:PD m}(h:PlanAt w x d)(ht:Touch [] w w'):PlanAt w' x d:=
 ⟨h.kind,h.name,h.cond.touch0 ht,h.nn,h.names.touch0 ht,h.en,h.exprs.touch0 ht,h.on',h.on.touch0 ht,h.an,h.aggs.touch0 ht,h.bn,h.by_.touch0 ht,h.count⟩
end
section
open Go.RowKit
theorem kS{w:World}{g:Nat}{cs:Array Value}{t:TypeId}(h:w.heap[g]?=some (.cells cs t (0,0)))(i:Nat):w.frozen? ⟨g,i,none⟩=false:=by simp[World.frozen?,h]
theorem eD{P:Program}{fn:Func}{p u:Tmp}{ty:TypeId}(h:fn.results=#[.cell p ty,.tmp u])(tmps:Array Value)(w:World)(g:Nat)(t:TypeId)(cs:Array Value)(fr:Nat × Nat)(d:TypeDesc) (hp:tmps.getD p undef=.pointer (some ⟨g,0,none⟩)) (hg:w.heap[g]?=some (.cells cs t fr)) (hu:P.underlying ty=some d) (hd:(match d with | .struct _ | .array _ _=>true | _=>false)=true) (hi:(P.info? ty).map (·.size)=some cs.size) : (results fn tmps).run P w=.ok (.tuple #[.agg cs,tmps.getD u undef]) w:=by
 have hp':tmps[p]?.getD undef=.pointer (some ⟨g,0,none⟩):=by simpa using hp
 simp[results,h,hp',asAddr,run_loadVar_row w g t ty cs fr d hg hu hd hi]
theorem kR{w:World}{g:Nat}{cs:Array Value}{t:TypeId}(h:w.heap[g]?=some (.cells cs t (0,0)))(hs:cs.size=2)(a b:Value): ((w.setCell ⟨g,0,none⟩ a).setCell ⟨g,1,none⟩ b).heap[g]?=some (.cells #[a,b] t (0,0)):=by
 rw[fD (fD h 0 a) 1 b];obtain⟨l⟩:=cs;match l,hs with
 | [x0,x1],_=>rfl
theorem kj{w:World}{g:Nat}{cs:Array Value}{t:TypeId}(h:w.heap[g]?=some (.cells cs t (0,0)))(hs:cs.size=3)(a b c:Value): (((w.setCell ⟨g,0,none⟩ a).setCell ⟨g,1,none⟩ b).setCell ⟨g,2,none⟩ c).heap[g]?=some (.cells #[a,b,c] t (0,0)):=by
 rw[fD (fD (fD h 0 a) 1 b) 2 c];obtain⟨l⟩:=cs;match l,hs with
 | [x0,x1,x2],_=>rfl
theorem ik(w:World)(g:Nat)(a b:Value):Touch [g] w ((w.setCell ⟨g,0,none⟩ a).setCell ⟨g,1,none⟩ b):=
 ((Touch.refl [g] w).setCell (p:=⟨g,0,none⟩) (.inl (by simp)) a).setCell (p:=⟨g,1,none⟩) (.inl (by simp)) b
theorem gC(w:World)(g:Nat)(a b c:Value):Touch [g] w (((w.setCell ⟨g,0,none⟩ a).setCell ⟨g,1,none⟩ b).setCell ⟨g,2,none⟩ c):=
 (ik w g a b).setCell (p:=⟨g,2,none⟩) (.inl (by simp)) c
theorem eL{w:World}{g:Nat}{a b:Value}{t:TypeId}(h:w.heap[g]?=some (.cells #[a,b] t (0,0))):w.cell? ⟨g,0,none⟩=some a/\w.cell? ⟨g,1,none⟩=some b/\w.frozen? ⟨g,0,none⟩=false/\w.frozen? ⟨g,1,none⟩=false:=
 ⟨d_ h rfl,d_ h rfl,kS h 0,kS h 1⟩
theorem eJ{w:World}{g:Nat}{a b c:Value}{t:TypeId}(h:w.heap[g]?=some (.cells #[a,b,c] t (0,0))):w.cell? ⟨g,0,none⟩=some a/\w.cell? ⟨g,1,none⟩=some b/\w.cell? ⟨g,2,none⟩=some c/\w.frozen? ⟨g,0,none⟩=false/\w.frozen? ⟨g,1,none⟩=false/\w.frozen? ⟨g,2,none⟩=false:=
 ⟨d_ h rfl,d_ h rfl,d_ h rfl,kS h 0,kS h 1,kS h 2⟩
theorem fg{w:World}{g:Nat}{v0 v1 v2 v3 v4 v5 v6 v7 v8 v9 v10 v11 v12 v13 v14 v15:Value}{t:TypeId}(h:w.heap[g]?=some (.cells #[v0,v1,v2,v3,v4,v5,v6,v7,v8,v9,v10,v11,v12,v13,v14,v15] t (0,0))):w.cell? ⟨g,0,none⟩=some v0/\w.cell? ⟨g,1,none⟩=some v1/\w.cell? ⟨g,2,none⟩=some v2/\w.cell? ⟨g,3,none⟩=some v3/\w.cell? ⟨g,4,none⟩=some v4/\w.cell? ⟨g,5,none⟩=some v5/\w.cell? ⟨g,6,none⟩=some v6/\w.cell? ⟨g,7,none⟩=some v7/\w.cell? ⟨g,8,none⟩=some v8/\w.cell? ⟨g,9,none⟩=some v9/\w.cell? ⟨g,10,none⟩=some v10/\w.cell? ⟨g,11,none⟩=some v11/\w.cell? ⟨g,12,none⟩=some v12/\w.cell? ⟨g,13,none⟩=some v13/\w.cell? ⟨g,14,none⟩=some v14/\w.cell? ⟨g,15,none⟩=some v15:=
 ⟨d_ h rfl,d_ h rfl,d_ h rfl,d_ h rfl,d_ h rfl,d_ h rfl,d_ h rfl,d_ h rfl,d_ h rfl,d_ h rfl,d_ h rfl,d_ h rfl,d_ h rfl,d_ h rfl,d_ h rfl,d_ h rfl⟩
end
section
open Go.RowKit
theorem Ch(nm:ByteArray)(s1 r1:SL)(B:Nat)(s:ByteArray)(w:World)(hB:w.cell? ⟨B,0,none⟩=some (.string s)): Calls Tryz.prog 87 #[.agg #[.string nm,.slice s1.A s1.n s1.c,.slice r1.A r1.n r1.c],.pointer (some ⟨B,0,none⟩)] w λe w'=>e=.returned (.bool (decide (nm=s)))/\Touch [] w w':=by have hbq:=jZ nm s;have t0:=(Touch.refl [] w).alloc (.cells #[.string nm,.slice s1.A s1.n s1.c,.slice r1.A r1.n r1.c] 36);have hlt:B<w.heap.size:=dr w _ hB;go_enter Tryz.func87,Tryz.ntmps87;go_wp2;all_goals go_ret;exact⟨rfl,t0⟩
theorem sB(I:Option Addr)(cap n:Nat)(l:List SrcD)(hn:l.length=n)(B:Nat)(s:ByteArray)(w:World)(h:iK w I l)(hB:w.cell? ⟨B,0,none⟩=some (.string s))(hl:n<=140737000000000): Calls Tryz.prog 86 #[.slice I n cap,.func (.func 87) #[] #[.pointer (some ⟨B,0,none⟩)]] w λe w'=> e=.returned (.int .i64 (rJ l s))/\Touch [] w w':=by
 subst hn;go_enter Tryz.func86,Tryz.ntmps86;go_wp2;go_loopw [8] (λi wr=>∃k:Nat,k<=l.length/\i=.int .i64 k/\Ga (∀j(hj:j<k)(hl:j<l.length),l[j].name≠s)/\Touch [] w wr) (λi _=>l.length-(intOf i).toNat)
 case atStart=>exact⟨0,by omega,rfl,lh (λj hj=>absurd hj (by omega)),Touch.refl _ _⟩
 case round =>
 obtain⟨k,hk,rfl,Hno,ht⟩:=hrel;by_cases hlt:k<l.length
 ·obtain⟨ad,b,off,s1,r1,rfl,hadd,c0,c1,c2,_⟩:=(h.touch0 ht).at_ k hlt;have hyes:=k8 (s:=s) hlt;obtain⟨c,hce⟩:∃c,c=l[k]:=⟨_,rfl⟩;rw[<- hce] at c0 hyes;have Hce:=lh hce;have Hyes:=lh hyes;clear hce hyes;have hf:=Ch c.name s1 r1 B s wr (ht.cell hB (by simp));by_cases hcs:c.name=s
  ·rw[aF hcs] at hf;have Hf:=lh hf;have Hp:=lh (Hyes.o hcs (λj hj=>Hno.o j hj (by omega)));clear hf hcs;go_wp2_with (go_at_call 87;refine Hf.o.mono ?_;rintro e w1 ⟨rfl,t1⟩);go_ret;exact⟨ew (by unfold rJ;rw[Hp.o]),ht.trans0 t1⟩
  rw[aC hcs] at hf;have Hf:=lh hf;have Hcs:=lh hcs;clear hf hcs;go_wp2_with (go_at_call 87;refine Hf.o.mono ?_;rintro e w1 ⟨rfl,t1⟩);go_roundw
  case rel=>exact⟨k+1,by omega,by go_num,lh (λj hj hl=>by
   by_cases hjk:j=k
   ·subst hjk;rw[<- Hce.o];exact Hcs.o
   exact Hno.o j (by omega) hl),ht.trans0 t1⟩
  case measure=>simp[intOf];omega
 obtain rfl:k=l.length:=by omega
 have Hp:=lh (tN (l:=l) (s:=s) (λj hj=>Hno.o j hj hj));go_wp2;go_ret;exact⟨ew (by unfold rJ;rw[Hp.o]),ht⟩
theorem BY(I:Option Addr)(cap n:Nat)(l:List SrcD)(hn:l.length=n)(s:ByteArray)(w:World)(h:iK w I l)(hl:n<=140737000000000)(hp:j8 l s=none): Calls Tryz.prog 62 #[.slice I n cap,.string s] w λe w'=>e=.returned (.tuple #[.agg #[.slice none 0 0,.slice none 0 0],.bool false])/\Touch [] w w':=by have t0:=((Touch.refl [] w).alloc (.cells #[.string s] 9)).alloc (.cells #[.slice none 0 0,.slice none 0 0] 27);have hb:=(((Touch.refl [] (w.alloc (.cells #[.string s] 9))).alloc (.cells #[.slice none 0 0,.slice none 0 0] 27)).blk (ah w (.cells #[.string s] 9)) (by simp));have hr:=ah (w.alloc (.cells #[.string s] 9)) (.cells #[.slice none 0 0,.slice none 0 0] 27);rw[ao] at hr;have hi:=sB I cap n l hn w.heap.size s _ (h.touch0 t0) (d_ hb (i:=0) rfl) hl;rw[show rJ l s = -1 by unfold rJ;rw[hp]] at hi;have Hi:=lh hi;have HR:=Gb t0 hr;clear hi hp hb hr t0;go_enter Tryz.func62,Tryz.ntmps62;go_wp2_with fail;refine Hi.o.mono ?_;rintro e w1 ⟨rfl,t1⟩;have hr1:=t1.blk HR.o.2 (by simp);obtain⟨z0,z1,y0,y1⟩:=eL hr1;have HT:=Gb (HR.o.1.trans0 t1) hr1;clear hr1 t1;go_wp2_with fail;refine aG (eD rfl _ _ (w.heap.size+1) _ _ _ _ rfl (kR HT.o.2 rfl _ _) bV rfl rfl) rfl ⟨rfl,HT.o.1.trans (ik _ _ _ _) (λb hb=>.inr (by simp at hb;omega))⟩
theorem rP(I:Option Addr)(cap n:Nat)(l:List SrcD)(hn:l.length=n)(s:ByteArray)(w:World)(h:iK w I l)(hl:n<=140737000000000)(k:Nat)(hk:k<l.length)(hp:j8 l s=some k): Calls Tryz.prog 62 #[.slice I n cap,.string s] w λe w'=>∃s1 r1:SL,e=.returned (.tuple #[.agg #[.slice s1.A s1.n s1.c,.slice r1.A r1.n r1.c],.bool true])/\TabAt w' s1 r1 l[k].cs l[k].rows/\Touch [] w w':=by
 have t0:=((Touch.refl [] w).alloc (.cells #[.string s] 9)).alloc (.cells #[.slice none 0 0,.slice none 0 0] 27);have hb:=(((Touch.refl [] (w.alloc (.cells #[.string s] 9))).alloc (.cells #[.slice none 0 0,.slice none 0 0] 27)).blk (ah w (.cells #[.string s] 9)) (by simp));have hr:=ah (w.alloc (.cells #[.string s] 9)) (.cells #[.slice none 0 0,.slice none 0 0] 27);rw[ao] at hr;have hi:=sB I cap n l hn w.heap.size s _ (h.touch0 t0) (d_ hb (i:=0) rfl) hl;rw[show rJ l s=(k:Int) by unfold rJ;rw[hp]] at hi;obtain⟨ad,b,off,s1,r1,rfl,hadd,c0,c1,c2,hT⟩:=h.at_ k hk;have hkn:(k:Int)<(n:Int):=by omega
 have hk0:((k:Int)<0)=False:=by simp
 have Hi:=lh hi;have HR:=Ge t0 hr hT c1 c2;clear hi hp hb hr t0 hT c0 c1 c2;go_enter Tryz.func62,Tryz.ntmps62;go_wp2_with fail;refine Hi.o.mono ?_;rintro e w1 ⟨rfl,t1⟩;have hr1:=t1.blk HR.o.2.1 (by simp);obtain⟨z0,z1,y0,y1⟩:=eL hr1;have T1:=HR.o.1.trans0 t1;have d1:=T1.cell HR.o.2.2.2.1 (by simp);have d2:=T1.cell HR.o.2.2.2.2 (by simp);have HT:=Gb T1 hr1;clear hr1 t1 T1;go_wp2_with fail;refine aG (eD rfl _ _ (w.heap.size+1) _ _ _ _ rfl (kR HT.o.2 rfl _ _) bV rfl rfl) rfl ⟨s1,r1,rfl, ?_, ?_⟩
 ·exact HR.o.2.2.1.touch0 (HT.o.1.trans (ik _ _ _ _) (λb hb=>.inr (by simp at hb;omega)))
 exact HT.o.1.trans (ik _ _ _ _) (λb hb=>.inr (by simp at hb;omega))
end
section
open Go.RowKit
def ef(cs:List CD)(s:ByteArray):Option Nat:=cs.findIdx? λc=>decide (c.name=s)
def eM(cs:List CD)(s:ByteArray):Int:=match ef cs s with | some k=>(k:Int) | none => -1
theorem qV{cs:List CD}{s:ByteArray}{k:Nat}(h:k<cs.length)(hk:cs[k].name=s)(hno:∀ j (hj:j<k),cs[j].name≠s):ef cs s=some k:=by unfold ef;rw[bw];exact⟨h,by simpa using hk,λj hj=>by simpa using hno j hj⟩
theorem qJ{cs:List CD}{s:ByteArray}(hno:∀ j (hj:j<cs.length),cs[j].name≠s):ef cs s=none:=by unfold ef;rw[cW];intro c hc;obtain⟨j,hj,rfl⟩:=aU.1 hc;simpa using hno j hj
theorem eS{cs:List CD}{s:ByteArray}{k:Nat}(h:ef cs s=some k):k<cs.length:=by unfold ef at h;rw[bw] at h;exact h.1
theorem B9(c:CD)(B:Nat)(s:ByteArray)(w:World)(hB:w.cell? ⟨B,0,none⟩=some (.string s)): Calls Tryz.prog 166 #[.agg #[.string c.name,.int .i64 c.typ],.pointer (some ⟨B,0,none⟩)] w λe w'=>e=.returned (.bool (decide (c.name=s)))/\Touch [] w w':=by have hbq:=jZ c.name s;have t0:=(Touch.refl [] w).alloc (.cells #[.string c.name,.int .i64 c.typ] 29);have hlt:B<w.heap.size:=dr w _ hB;go_enter Tryz.func166,Tryz.ntmps166;go_wp2;all_goals go_ret;exact⟨rfl,t0⟩
theorem uE(A:Option Addr)(cap n:Nat)(cs:List CD)(hn:cs.length=n)(B:Nat)(s:ByteArray)(w:World)(h:em w A cs)(hB:w.cell? ⟨B,0,none⟩=some (.string s))(hl:n<=140737000000000): Calls Tryz.prog 165 #[.slice A n cap,.func (.func 166) #[] #[.pointer (some ⟨B,0,none⟩)]] w λe w'=> e=.returned (.int .i64 (eM cs s))/\Touch [] w w':=by
 subst hn;go_enter Tryz.func165,Tryz.ntmps165;go_wp2;go_loopw [8] (λi wr=>∃k:Nat,k<=cs.length/\i=.int .i64 k/\Ga (∀j(hj:j<k)(hl:j<cs.length),cs[j].name≠s)/\Touch [] w wr) (λi _=>cs.length-(intOf i).toNat)
 case atStart=>exact⟨0,by omega,rfl,lh (λj hj=>absurd hj (by omega)),Touch.refl _ _⟩
 case round =>
 obtain⟨k,hk,rfl,Hno,ht⟩:=hrel;by_cases hlt:k<cs.length
 ·obtain⟨ad,b,off,rfl,hadd,c0,c1⟩:=(h.touch0 ht).at_ k hlt;have hyes:=qV (s:=s) hlt;obtain⟨c,hce⟩:∃c,c=cs[k]:=⟨_,rfl⟩;rw[<- hce] at c0 c1 hyes;have Hce:=lh hce;have Hyes:=lh hyes;clear hce hyes;have hf:=B9 c B s wr (ht.cell hB (by simp));by_cases hcs:c.name=s
  ·rw[aF hcs] at hf;have Hf:=lh hf;have Hp:=lh (Hyes.o hcs (λj hj=>Hno.o j hj (by omega)));clear hf hcs;go_wp2_with (go_at_call 166;refine Hf.o.mono ?_;rintro e w1 ⟨rfl,t1⟩);go_ret;exact⟨ew (by unfold eM;rw[Hp.o]),ht.trans0 t1⟩
  rw[aC hcs] at hf;have Hf:=lh hf;have Hcs:=lh hcs;clear hf hcs;go_wp2_with (go_at_call 166;refine Hf.o.mono ?_;rintro e w1 ⟨rfl,t1⟩);go_roundw
  case rel=>exact⟨k+1,by omega,by go_num,lh (λj hj hl=>by
   by_cases hjk:j=k
   ·subst hjk;rw[<- Hce.o];exact Hcs.o
   exact Hno.o j (by omega) hl),ht.trans0 t1⟩
  case measure=>simp[intOf];omega
 obtain rfl:k=cs.length:=by omega
 have Hp:=lh (qJ (cs:=cs) (s:=s) (λj hj=>Hno.o j hj hj));go_wp2;go_ret;exact⟨ew (by unfold eM;rw[Hp.o]),ht⟩
theorem fS(A:Option Addr)(cap n:Nat)(cs:List CD)(hn:cs.length=n)(s:ByteArray)(w:World)(h:em w A cs)(hl:n<=140737000000000): Calls Tryz.prog 130 #[.slice A n cap,.string s] w λe w'=> e=.returned (.tuple #[.int .i64 (((ef cs s).getD 0:Nat):Int),.bool (ef cs s).isSome])/\Touch [] w w':=by
 subst hn;have t0:=(Touch.refl [] w).alloc (.cells #[.string s] 9);have hb:=ah w (.cells #[.string s] 9);have hi:=uE A cap cs.length cs rfl w.heap.size s _ (h.touch0 t0) (d_ hb (i:=0) rfl) hl;rcases hp:ef cs s with _|k
 ·rw[show eM cs s = -1 by unfold eM;rw[hp]] at hi;have Hi:=lh hi;clear hi hp hb;go_enter Tryz.func130,Tryz.ntmps130;go_wp2_with (go_at_call 165;refine Hi.o.mono ?_;rintro e w1 ⟨rfl,t1⟩);go_ret2;exact⟨rfl,t0.trans0 t1⟩
 rw[show eM cs s=(k:Int) by unfold eM;rw[hp]] at hi;have hkl:=eS hp;have Hi:=lh hi;clear hi hp hb;have hmx:max (k:Int) 0=k:=by omega
 have hk0:(0:Int)<=k:=by omega
 go_enter Tryz.func130,Tryz.ntmps130;go_wp2_with (go_at_call 165;refine Hi.o.mono ?_;rintro e w1 ⟨rfl,t1⟩);go_ret2;exact⟨rfl,t0.trans0 t1⟩
end
section
open Go.RowKit
def nH(l:List ByteArray)(s:ByteArray):Option Nat:=l.findIdx? λx=>decide (s=x)
def nL(l:List ByteArray)(s:ByteArray):Int:=match nH l s with | some k=>(k:Int) | none => -1
theorem BX{l:List ByteArray}{s:ByteArray}{k:Nat}(h:k<l.length)(hk:s=l[k])(hno:∀ j (hj:j<k),s≠l[j]):nH l s=some k:=by unfold nH;rw[bw];exact⟨h,by simpa using hk,λj hj=>by simpa using hno j hj⟩
theorem tR{l:List ByteArray}{s:ByteArray}(hno:∀ j (hj:j<l.length),s≠l[j]):nH l s=none:=by unfold nH;rw[cW];intro c hc;obtain⟨j,hj,rfl⟩:=aU.1 hc;simpa using hno j hj
def iz(l:List ByteArray)(s:ByteArray):Bool:=l.any λx=>decide (s=x)
theorem Cj(l:List ByteArray)(s:ByteArray):decide (0<=nL l s)=iz l s:=by
 by_cases h:s∈l
 ·have h2:iz l s=true:=cO.2 ⟨s,h,aF rfl⟩;have:nH l s≠none:=by unfold nH;rw[Ne,cW];intro hn;have:=hn s h;simp at this
  unfold nL;rw[h2];rcases hs:nH l s with _|k
  ·exact absurd hs this
  simp
 have:nH l s=none:=tR λj hj e=>h (e ▸ am hj);have h2:iz l s=false:=List.any_eq_false.2 λx hx=>by have:s≠x:=λe=>h (e ▸ hx);simpa using this
 unfold nL;rw[this,h2];simp
theorem Fu(l:List ByteArray)(s:ByteArray): -1<=nL l s/\nL l s<=l.length:=by
 unfold nL;rcases hs:nH l s with _|k
 ·dsimp only;omega
 have:=(bw.1 hs).1;dsimp only;omega
theorem yG(A:Option Addr)(c n:Nat)(l:List ByteArray)(hn:l.length=n)(s:ByteArray)(w:World)(h:d9 gD w A l)(hl:n<=140737000000000): Calls Tryz.prog 184 #[.slice A n c,.string s] w λe w'=>e=.returned (.int .i64 (nL l s))/\Touch [] w w':=by
 subst hn;go_enter Tryz.func184,Tryz.ntmps184;go_wp2;go_loopw [8] (λi wr=>∃k:Nat,k<=l.length/\i=.int .i64 k/\Ga (∀j(hj:j<k)(hl:j<l.length),s≠l[j])/\Touch [] w wr) (λi _=>l.length-(intOf i).toNat)
 case atStart=>exact⟨0,by omega,rfl,lh (λj hj=>absurd hj (by omega)),Touch.refl _ _⟩
 case round =>
 obtain⟨k,hk,rfl,Hno,ht⟩:=hrel;by_cases hlt:k<l.length
 ·obtain⟨ad,b,off,rfl,hadd,hc⟩:=d9.cells (h.touch0 ht) 1 iR (by omega) k hlt;rw[bO] at hadd;have c0:=hc 0 _ rfl;rw[aM] at c0;have hyes:=BX (s:=s) hlt;obtain⟨x,hx⟩:∃x,x=l[k]:=⟨_,rfl⟩;rw[<- hx] at c0 hyes;have Hx:=lh hx;have Hyes:=lh hyes;clear hx hyes hc;by_cases hcs:s=x
  ·have Hp:=lh (Hyes.o hcs (λj hj=>Hno.o j hj (by omega)));have hb:(s.toList==x.toList)=true:=by rw[jZ];exact aF hcs
   clear hcs;go_wp2;go_ret;exact⟨ew (by unfold nL;rw[Hp.o]),ht⟩
  have hb:(s.toList==x.toList)=false:=by rw[jZ];exact aC hcs
  have Hcs:=lh hcs;clear hcs;go_wp2;go_roundw
  case rel=>exact⟨k+1,by omega,by go_num,lh (λj hj hl=>by
   by_cases hjk:j=k
   ·subst hjk;rw[<- Hx.o];exact Hcs.o
   exact Hno.o j (by omega) hl),ht⟩
  case measure=>simp[intOf];omega
 obtain rfl:k=l.length:=by omega
 have Hp:=lh (tR (l:=l) (s:=s) (λj hj=>Hno.o j hj hj));go_wp2;go_ret;exact⟨ew (by unfold nL;rw[Hp.o]),ht⟩
theorem gU(A:Option Addr)(c n:Nat)(l:List ByteArray)(hn:l.length=n)(s:ByteArray)(w:World)(h:d9 gD w A l)(hl:n<=140737000000000): Calls Tryz.prog 167 #[.slice A n c,.string s] w λe w'=>e=.returned (.bool (iz l s))/\Touch [] w w':=by have hi:=yG A c n l hn s w h hl;have hm:=Cj l s;have hb:=Fu l s;obtain⟨i,hie⟩:∃i,i=nL l s:=⟨_,rfl⟩;rw[<- hie] at hi hm hb;have Hi:=lh hi;have Hm:=lh hm;clear hi hm hie;go_enter Tryz.func167,Tryz.ntmps167;go_wp2_with fail;refine Hi.o.mono ?_;rintro e w1 ⟨rfl,t1⟩;go_wp2;go_ret;exact⟨eo (by rw[<- Hm.o]),t1⟩
theorem rS(n:Int)(w:World):Calls Tryz.prog 11 #[.int .i64 n] w λe w'=>e=.returned (.agg #[.int .i64 1,.int .i64 n,.string ⟨#[]⟩])/\Touch [] w w':=by go_enter Tryz.func11,Tryz.ntmps11;go_wp2_with fail;refine aG (ci rfl _ _ w.heap.size _ _ _ _ rfl (ah w _) bA rfl rfl) rfl ⟨rfl,(Touch.refl _ _).alloc _⟩
end
section
open Go.RowKit
def fl(t:TypeId)(base:Nat)(w:World)(B:Option Addr)(c:Nat)(rows:List (List VD)):Prop:=
 ∃sl,fX w sl rows/\ep t 1 eT w B c sl/\∀s∈sl,∀b∈ed s.A,b∉ed B/\b<w.heap.size/\base<=b
theorem fl.nil(t:TypeId)(base:Nat)(w:World):fl t base w none 0 []:=⟨[],⟨rfl,λi h=>absurd h (by simp)⟩,ep.nil _ _ _ _,by simp⟩
theorem fl.rowsAt{t base:Nat}{w:World}{B:Option Addr}{c:Nat}{rows:List (List VD)}(h:fl t base w B c rows):eW w B rows:=by obtain⟨sl,h1,h2,_⟩:=h;exact⟨sl,h1,h2.rd⟩
theorem fl.lt{t base:Nat}{w:World}{B:Option Addr}{c:Nat}{rows:List (List VD)}(h:fl t base w B c rows):∀b∈ed B,b<w.heap.size:=by obtain⟨sl,h1,h2,_⟩:=h;exact h2.lt
theorem fX.touch{w w':World}{sl:List SL}{rows:List (List VD)}{fp:List Nat}(h:fX w sl rows)(ht:Touch fp w w')(hn:∀ s∈sl,∀ b∈ed s.A,b∉fp):fX w' sl rows:=
 ⟨h.1,λi a b=>⟨(h.2 i a b).1,d9.touch (h.2 i a b).2 ht (hn _ (am a))⟩⟩
theorem fl.touch{t base:Nat}{w w':World}{B:Option Addr}{c:Nat}{rows:List (List VD)}{fp:List Nat}(h:fl t base w B c rows)(ht:Touch fp w w')(hfp:∀ b∈fp,b<base)(hB:∀ b∈ed B,base<=b):fl t base w' B c rows:=by obtain⟨sl,h1,h2,h3⟩:=h;exact⟨sl,h1.touch ht (λs hs b hb hm=>by have:=hfp b hm;have:=(h3 s hs b hb).2.2;omega),h2.touch ht (λb hb hm=>by have:=hfp b hm;have:=hB b hb;omega),λs hs b hb=>⟨(h3 s hs b hb).1,bW (h3 s hs b hb).2.1 ht.size,(h3 s hs b hb).2.2⟩⟩
theorem fl.touch0{t base:Nat}{w w':World}{B:Option Addr}{c:Nat}{rows:List (List VD)}(h:fl t base w B c rows)(ht:Touch [] w w'):fl t base w' B c rows:=by obtain⟨sl,h1,h2,h3⟩:=h;exact⟨sl,h1.touch ht (λ_ _ _ _=>by simp),h2.touch0 ht,λs hs b hb=>⟨(h3 s hs b hb).1,bW (h3 s hs b hb).2.1 ht.size,(h3 s hs b hb).2.2⟩⟩
theorem gF{w:World}{ops:Array Oper}{rest:List Oper}{o:Oper}{a:Act}{Q:Exit->Act->World->Prop}(hgd:o.guard=none)(s x:Operand)(t:TypeId)
  (ho:o.op=.call { callee:=.builtin .append,args:=#[s,x],argTypes:=#[t,t] })
  (e:TypeId) (hinfo:(Tryz.prog.info? e).map (λi=>(i.zero,i.size,i.bytes))=some (some (.slice none 0 0),1,24)) (ht:Tryz.prog.underlying t=some (.slice e))
  (base:Nat) (B:Option Addr) (m c:Nat) (rows:List (List VD)) (hm:rows.length=m) (hs:a.eval s=.slice B m c) (hown:fl e base w B c rows)
  (A:Option Addr) (ca:Nat) (r:List VD) (hr:eu w A r) (hA:∀b∈ed A,b∉ed B/\b<w.heap.size/\base<=b)
  (g:Nat) (hx:a.eval x=.slice (some ⟨w.heap.size,0,none⟩) 1 g) (h63:m+1<=1000000000) {cs:Array Value} (hcs:cs.toList=[.slice A r.length ca])
  (h:∀B' c' w',fl e base w' B' c' (rows++[r])->Touch (ed B) (w.alloc (.cells cs e)) w'->(∀b∈ed B',b∈ed B\/b=w.heap.size+1)->wpList Tryz.prog ops Q rest (a.put o.dst (.slice B' (m+1) c')) w') :
  wpList Tryz.prog ops Q (o:: rest) a (w.alloc (.cells cs e)):=by
 obtain⟨sl,h1,h2,h3⟩:=hown
 have ta:=(Touch.refl [] w).alloc (.cells cs e)
 refine eb (enc:=eT) hgd s x t ho e (.slice none 0 0) 1 24 hinfo ht rfl (by omega) eC ia B m c sl (by rw[h1.1,hm]) hs (h2.touch0 ta)
  (some ⟨w.heap.size,0,none⟩) 1 g [⟨A,r.length,ca⟩] rfl hx (d9.one (enc:=eT) w e ⟨A,r.length,ca⟩ cs hcs) h63 (by omega) ?_
 intro B' c' w' hown' t' hf'
 rw[ao] at hf'
 have hw:=ta.size
 refine h B' c' w' ⟨sl++[⟨A,r.length,ca⟩],⟨by rw[az,az,h1.1];rfl,λi a1 b1=> ?_⟩,hown',λs' hs' b hb=> ?_⟩ t' hf'
 ·by_cases hi:i<sl.length
  ·have hi2:i<rows.length:=by rw[<- h1.1];exact hi
   rw[bH hi,bH hi2]
   have:=h1.2 i hi hi2
   exact⟨this.1,d9.touch (d9.touch0 this.2 ta) t' (λb hb=>(h3 _ (am hi) b hb).1)⟩
  ·have hi':i=sl.length:=by rw[az] at a1;simp at a1;omega
   subst hi'
   have e1:(sl++[(⟨A,r.length,ca⟩:SL)])[sl.length]=⟨A,r.length,ca⟩:=by rw[bM (aL _)];simp
   have e2:(rows++[r])[sl.length]=r:=by rw[bM (by rw[h1.1];exact aL _)];simp[h1.1]
   rw[e1,e2]
   exact⟨rfl,d9.touch (d9.touch0 hr ta) t' (λb hb=>(hA b hb).1)⟩
 ·have key:b∉ed B/\b<w.heap.size/\base<=b:=by
   rcases aZ.1 hs' with q|q
   ·exact h3 s' q b hb
   ·simp only[List.mem_singleton] at q
    subst q
    exact hA b hb
  refine⟨λhm'=> ?_,bW key.2.1 (bm hw t'.size),key.2.2⟩
  rcases hf' b hm' with q|q
  ·exact key.1 q
  ·have:=key.2.1;omega
end
section
open Go.RowKit
theorem k7(g j:Nat):(⟨g,0,none⟩:Addr).add j=⟨g,j,none⟩:=by unfold Addr.add;split<;>simp_all
theorem ep.free_{α:Type}{t k:Nat}{enc:α->List Value}{w:World}{G c:Nat}{xs:List α}(h:ep t k enc w (some ⟨G,0,none⟩) c xs)(i:Nat):w.frozen? ⟨G,i,none⟩=false:=by
 rcases h.2 with ⟨hv,_⟩|⟨g,cap,cur,hv,_,hg,_,_,_,_⟩
 ·injection hv with hA;cases hA
 have hA:(some ⟨G,0,none⟩:Option Addr)=some ⟨g,0,none⟩:=by injection hv
 injection hA with hA;injection hA with hG;subst hG;simp[World.frozen?,hg]
theorem vM{α β:Type}(enc:α->List β)(k:Nat)(hk:∀ x,(enc x).length=k)(v:β)(o:Nat)(ho:o<k):∀(xs:List α)(i:Nat)(hi:i<xs.length)(y:α),enc y=(enc xs[i]).set o v->(xs.set i y).flatMap enc=(xs.flatMap enc).set (i*k+o) v
 | [],i=>λhi=>absurd hi (by simp)
 |x:: xs,0=>λ_ y hy=>by rw[aD,bB,bB,hy,aQ,bQ,Nat.zero_add,List.set_append_left _ _ (by rw[hk];exact ho)]
 |x:: xs,i+1=>λhi y hy=>by
  have ih:=vM enc k hk v o ho xs i (by simpa using hi) y (by simpa using hy);have e1:(i+1)*k+o=k+(i*k+o):=by rw[dD];omega
  rw[aE,bB,bB,ih,List.set_append_right _ _ (by rw[hk,e1];omega),hk,e1,Nat.add_sub_cancel_left]
theorem ep.set{α:Type}{t k:Nat}{enc:α->List Value}{w:World}{G c:Nat}{xs:List α}(h:ep t k enc w (some ⟨G,0,none⟩) c xs)(hk:∀ x,(enc x).length=k)(i:Nat)(hi:i<xs.length)(o:Nat)(ho:o<k)(v:Value)(y:α) (hy:enc y=(enc xs[i]).set o v):ep t k enc (w.setCell ⟨G,i*k+o,none⟩ v) (some ⟨G,0,none⟩) c (xs.set i y):=by have:=(World.ownsRow.stored h (i*k+o) v).1;unfold ep;rw[List.length_set,vM enc k hk v o ho xs i hi y hy];exact this
theorem ep.set1{α:Type}{t:Nat}{val:α->Value}{w:World}{G c:Nat}{xs:List α}(h:ep t 1 (fun x=>[val x]) w (some ⟨G,0,none⟩) c xs)(i:Nat)(hi:i<xs.length)(y:α):ep t 1 (λx=>[val x]) (w.setCell ⟨G,i,none⟩ (val y)) (some ⟨G,0,none⟩) c (xs.set i y):=by have:=h.set (λ_=>rfl) i hi 0 (by omega) (val y) y rfl;rwa[bO] at this
theorem oD{α:Type}{val:α->Value}(xs:List α):(xs.flatMap λx=>[val x])=xs.map val:=by
 induction xs with
 |nil=>rfl
 |cons x xs ih=>rw[bB,ih];rfl
theorem ep.cell1{α:Type}{t:Nat}{val:α->Value}{w:World}{G c:Nat}{xs:List α}(h:ep t 1 (fun x=>[val x]) w (some ⟨G,0,none⟩) c xs)(i:Nat)(hi:i<xs.length):w.cell? ⟨G,i,none⟩=some (val xs[i]):=by have:=World.ownsRow.cells h (g:=G) rfl i (val xs[i]) (by rw[oD];simp[hi]);rwa[k7] at this
theorem ep.made{α:Type}(t:Nat)(val:α->Value)(w:World)(n:Nat)(z:α)(hn:n<=maxLen):ep t 1 (λx=>[val x]) (w.alloc (.cells (madeCells #[val z] n) t)) (some ⟨w.heap.size,0,none⟩) n (List.replicate n z):=by
 refine⟨by simp,.inr ⟨w.heap.size,n,madeCells #[val z] n,by simp,aY _,ah w _,by simp,hn, ?_, ?_⟩⟩
 ·rw[pj];simp
 rw[pj,oD];simp
theorem ep.mono{α:Type}{t k:Nat}{enc:α->List Value}{w:World}{A:Option Addr}{c:Nat}{xs:List α}(h:ep t k enc w A c xs){w':World}(hb:∀ b∈ed A,w'.heap[b]?=w.heap[b]?):ep t k enc w' A c xs:=by
 refine⟨h.1, ?_⟩;rcases h.2 with hv|⟨g,cap,cur,hv,hb',hg,rest⟩
 ·exact .inl hv
 have hA:A=some ⟨g,0,none⟩:=by injection hv
 subst hA;exact .inr ⟨g,cap,cur,hv,hb',by rw[hb g (by simp[ed])];exact hg,rest⟩
end
section
open Go.RowKit
theorem jI:(Tryz.prog.info? 31).map (λi=>(i.zero,i.size,i.bytes))=some (some (.agg #[.int .i64 0,.int .i64 0,.string ⟨#[]⟩]),3,32):=by kernel_rfl
theorem gN:(Tryz.prog.info? 29).map (λi=>(i.zero,i.size,i.bytes))=some (some (.agg #[.string ⟨#[]⟩,.int .i64 0]),2,24):=by kernel_rfl
theorem gf:(Tryz.prog.info? 33).map (λi=>(i.zero,i.size,i.bytes))=some (some (.slice none 0 0),1,24):=by kernel_rfl
theorem d9.none_nil{α:Type}{enc:α->List Value}(k:Nat)(hk:∀ x,(enc x).length=k)(h0:0<k){w:World}{l:List α}(h:d9 enc w none l):l=[]:=by
 rcases l with _|⟨x,l⟩
 ·rfl
 obtain⟨ad,b,off,e,_⟩:=d9.at_ h k hk h0 0 (by simp);cases e
theorem oU(A:Option Addr)(c n:Nat)(l:List VD)(hn:l.length=n)(hl:n<=1000000)(w:World)(h:d9 ff w A l): Calls Tryz.prog 126 #[.slice A n c] w λe w'=>∃A' c',e=.returned (.slice A' n c')/\Made 31 3 ff l A' c' w w':=by
 rcases A with _|ad
 ·have hl0:=d9.none_nil 3 eO (by omega) h;subst hl0;obtain rfl:n=0:=by simpa using hn.symm
  go_enter Tryz.func126,Tryz.ntmps126;have hnil:=d6 (P:=Tryz.prog) w 33 31 none 0 c cj;go_wp2;go_ret;exact⟨none,0,rfl,Made.nil _ _ _ _⟩
 subst hn;have ho:=ep.empty_new 31 3 ff w;have tb:=(Touch.refl [] w).alloc (.cells #[] 31);have HO:=Gc ho (d9.touch0 h tb) tb;clear ho tb;go_enter Tryz.func126,Tryz.ntmps126;have hnil:=d6 (P:=Tryz.prog) w 33 31 (some ad) l.length c cj;go_wp2_with (at_builtin;refine ez ?_);refine go ?_;refine eb (enc:=ff) rfl (.tmp 5) (.tmp 6) 33 rfl 31 (.agg #[.int .i64 0,.int .i64 0,.string ⟨#[]⟩]) 3 32 jI cj rfl (by omega) eO f8 (some ⟨w.heap.size,0,none⟩) 0 0 [] rfl rfl HO.o.1 (some ad) l.length c l rfl rfl HO.o.2.1 (by omega) (by omega) ?_;intro A3 c3 w3 hown3 ht3 hf3;have H3:=Gc hown3 ht3 hf3;clear hown3 ht3 hf3;go_wp2;go_ret;obtain⟨hown3,ht3,hf3⟩:=H3.o;refine⟨A3,c3,by first | rfl | (simp;rfl) | simp,by simpa using hown3,HO.o.2.2.trans ht3 (λb hb=>by simp[ed] at hb;subst hb;exact .inr (aL _)),λb hb=> ?_⟩;rcases hf3 b hb with e|e
 ·simp[ed] at e;omega
 rw[ao] at e;omega
theorem rN(A:Option Addr)(c n:Nat)(l:List CD)(hn:l.length=n)(hl:n<=1000000)(w:World)(h:d9 fQ w A l): Calls Tryz.prog 67 #[.slice A n c] w λe w'=>∃A' c',e=.returned (.slice A' n c')/\Made 29 2 fQ l A' c' w w':=by
 rcases A with _|ad
 ·have hl0:=d9.none_nil 2 eZ (by omega) h;subst hl0;obtain rfl:n=0:=by simpa using hn.symm
  go_enter Tryz.func67,Tryz.ntmps67;have hnil:=d6 (P:=Tryz.prog) w 24 29 none 0 c bC;go_wp2;go_ret;exact⟨none,0,rfl,Made.nil _ _ _ _⟩
 subst hn;have ho:=ep.empty_new 29 2 fQ w;have tb:=(Touch.refl [] w).alloc (.cells #[] 29);have HO:=Gc ho (d9.touch0 h tb) tb;clear ho tb;go_enter Tryz.func67,Tryz.ntmps67;have hnil:=d6 (P:=Tryz.prog) w 24 29 (some ad) l.length c bC;go_wp2_with (at_builtin;refine ez ?_);refine go ?_;refine eb (enc:=fQ) rfl (.tmp 5) (.tmp 6) 24 rfl 29 (.agg #[.string ⟨#[]⟩,.int .i64 0]) 2 24 gN bC rfl (by omega) eZ gq (some ⟨w.heap.size,0,none⟩) 0 0 [] rfl rfl HO.o.1 (some ad) l.length c l rfl rfl HO.o.2.1 (by omega) (by omega) ?_;intro A3 c3 w3 hown3 ht3 hf3;have H3:=Gc hown3 ht3 hf3;clear hown3 ht3 hf3;go_wp2;go_ret;obtain⟨hown3,ht3,hf3⟩:=H3.o;refine⟨A3,c3,by first | rfl | (simp;rfl) | simp,by simpa using hown3,HO.o.2.2.trans ht3 (λb hb=>by simp[ed] at hb;subst hb;exact .inr (aL _)),λb hb=> ?_⟩;rcases hf3 b hb with e|e
 ·simp[ed] at e;omega
 rw[ao] at e;omega
theorem zH(A:Option Addr)(c n:Nat)(l:List SL)(hn:l.length=n)(hl:n<=1000000)(w:World)(h:d9 eT w A l): Calls Tryz.prog 141 #[.slice A n c] w λe w'=>∃A' c',e=.returned (.slice A' n c')/\Made 33 1 eT l A' c' w w':=by
 rcases A with _|ad
 ·have hl0:=d9.none_nil 1 eC (by omega) h;subst hl0;obtain rfl:n=0:=by simpa using hn.symm
  go_enter Tryz.func141,Tryz.ntmps141;have hnil:=d6 (P:=Tryz.prog) w 25 33 none 0 c bp;go_wp2;go_ret;exact⟨none,0,rfl,Made.nil _ _ _ _⟩
 subst hn;have ho:=ep.empty_new 33 1 eT w;have tb:=(Touch.refl [] w).alloc (.cells #[] 33);have HO:=Gc ho (d9.touch0 h tb) tb;clear ho tb;go_enter Tryz.func141,Tryz.ntmps141;have hnil:=d6 (P:=Tryz.prog) w 25 33 (some ad) l.length c bp;go_wp2_with (at_builtin;refine ez ?_);refine go ?_;refine eb (enc:=eT) rfl (.tmp 5) (.tmp 6) 25 rfl 33 (.slice none 0 0) 1 24 gf bp rfl (by omega) eC ia (some ⟨w.heap.size,0,none⟩) 0 0 [] rfl rfl HO.o.1 (some ad) l.length c l rfl rfl HO.o.2.1 (by omega) (by omega) ?_;intro A3 c3 w3 hown3 ht3 hf3;have H3:=Gc hown3 ht3 hf3;clear hown3 ht3 hf3;go_wp2;go_ret;obtain⟨hown3,ht3,hf3⟩:=H3.o;refine⟨A3,c3,by first | rfl | (simp;rfl) | simp,by simpa using hown3,HO.o.2.2.trans ht3 (λb hb=>by simp[ed] at hb;subst hb;exact .inr (aL _)),λb hb=> ?_⟩;rcases hf3 b hb with e|e
 ·simp[ed] at e;omega
 rw[ao] at e;omega
end
end Go.Proofs.YtafoklilkdnepaaGreatDoor
