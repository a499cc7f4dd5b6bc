/- Part 2 of the texts of this proof, one behind the other. No condition beyond those that its theorems state. -/
import Derived.Test.YtafoklilkdnepaaGreatDoorRe1
set_option linter.all false
set_option maxRecDepth 40000
set_option maxHeartbeats 25600000
namespace Go.Proofs.YtafoklilkdnepaaGreatDoor
section
structure CD where
 name:ByteArray
 typ:Int
def kc(c:UInt8):Bool:=decide (97<=c.toNat)&&decide (c.toNat<=122)
def km(c:UInt8):Bool:=kc c||(decide (c.toNat=95)||(decide (48<=c.toNat)&&decide (c.toNat<=57)))
def jE(s:List UInt8):Bool:=match s with
 | []=>false
 |c:: _=>decide (s.length<=16)&&(kc c&&s.all km)
def iV(pre:List CD)(c:CD):Int:=
 if jE c.name.data.toList=false then 13 else if c.typ≠1/\c.typ≠2 then 12 else if (pre.any λd=>decide (d.name=c.name))=true then 14 else 0
def nh(pre:List CD):List CD->Int
 | []=>0
 |c:: r=>if iV pre c=0 then nh (pre++[c]) r else iV pre c
def eB(cs:List CD):Int:=if cs.length<1\/16<cs.length then 31 else nh [] cs
theorem rh{cs:List CD}{k:Nat}(h:k<cs.length):nh (cs.take k) (cs.drop k)=if iV (cs.take k) cs[k]=0 then nh (cs.take (k+1)) (cs.drop (k+1)) else iV (cs.take k) cs[k]:=by rw[bj h];show (if _ then _ else _)=_;rw[au h]
theorem uP{cs:List CD}{k:Nat}(h:nh (cs.take k) (cs.drop k)=0)(j:Nat)(h1:k<=j)(h2:j<cs.length):iV (cs.take j) cs[j]=0:=by
 have hk:k<cs.length:=by omega
 rw[rh hk] at h;by_cases he:iV (cs.take k) cs[k]=0
 ·rw[ae he] at h;by_cases hj:j=k
  ·subst hj;exact he
  exact uP h j (by omega) h2
 rw[ab he] at h;exact absurd h he
termination_by cs.length-k
theorem zT{pre:List CD}{c:CD}(h:iV pre c=0):jE c.name.data.toList=true/\(c.typ=1\/c.typ=2)/\∀d∈pre,d.name≠c.name:=by
 unfold iV at h;split at h
 ·cases h
 rename_i h1;split at h
 ·cases h
 rename_i h2;split at h
 ·cases h
 rename_i h3;refine⟨by simpa using h1,by omega,λd hd he=>h3 ?_⟩;rw[cO];exact⟨d,hd,by simpa using he⟩
theorem mE{cs:List CD}(h:eB cs=0):1<=cs.length/\cs.length<=16/\∀j(hj:j<cs.length),jE cs[j].name.data.toList=true/\(cs[j].typ=1\/cs[j].typ=2):=by
 unfold eB at h;split at h
 ·cases h
 refine⟨by omega,by omega,λj hj=> ?_⟩;have:=zT (uP (cs:=cs) (k:=0) (by simpa using h) j (by omega) hj);exact⟨this.1,this.2.1⟩
end
section
open Go.RowKit
theorem rZ(t:List UInt8)(k:Nat)(h:k<(S t).size):(S t)[k]=t[k]'(by rwa[ji] at h):=rfl
theorem oR(x:UInt8)(w:World):Calls Tryz.prog 104 #[.int .u8 x.toNat] w λe w'=>e=.returned (.bool (kc x))/\w=w':=by have hx:=x.toNat_lt;go_enter Tryz.func104,Tryz.ntmps104;go_wp2;all_goals go_ret;exact⟨eo (by rw[cD];simp[kc];omega),rfl⟩
theorem BL(x:UInt8)(w:World):Calls Tryz.prog 105 #[.int .u8 x.toNat] w λe w'=>e=.returned (.bool (km x))/\w=w':=by
 have hx:=x.toNat_lt;rcases hl:kc x with _|_
 ·have hc:=oR x w;rw[hl] at hc;have Hc:=lh hc;have Hl:=lh hl;clear hc hl;go_enter Tryz.func105,Tryz.ntmps105;go_wp2_with (go_at_call 104;refine Hc.o.mono ?_;rintro e w' ⟨rfl,rfl⟩);all_goals go_ret;exact⟨eo (by rw[cD];simp[km,Hl.o];omega),rfl⟩
 have hc:=oR x w;rw[hl] at hc;have Hc:=lh hc;have Hl:=lh hl;clear hc hl;go_enter Tryz.func105,Tryz.ntmps105;go_wp2_with (go_at_call 104;refine Hc.o.mono ?_;rintro e w' ⟨rfl,rfl⟩);all_goals go_ret;exact⟨eo (by rw[cD];simp[km,Hl.o]),rfl⟩
theorem kz(c:UInt8)(r:List UInt8):jE (c:: r)=(decide ((c:: r).length<=16)&&(kc c&&(c:: r).all km)):=rfl
theorem Cu(x:UInt8):kc x=(decide (97<=(x.toNat:Int))&&decide ((x.toNat:Int)<=122)):=by unfold kc;congr 1<;>exact decide_eq_decide.2 (by omega)
theorem CX(x:UInt8):km x=(kc x||(decide ((x.toNat:Int)=95)||(decide (48<=(x.toNat:Int))&&decide ((x.toNat:Int)<=57)))):=by
 unfold km;congr 1;congr 1
 ·exact decide_eq_decide.2 (by omega)
 congr 1<;>exact decide_eq_decide.2 (by omega)
theorem uf{t:List UInt8}{k:Nat}(h:k<t.length)(hb:km t[k]=false):jE t=false:=by
 cases t with
 |nil=>rfl
 |cons c r =>
  have:(c:: r).all km=false:=by rw[List.all_eq_false];exact⟨_,am h,by rw[hb];simp⟩
  rw[kz,this,dq,dq]
theorem Cq(t:List UInt8)(hs:t.length<=140737000000000)(w:World): Calls Tryz.prog 71 #[.string (S t)] w λe w'=>e=.returned (.bool (jE t))/\Touch [] w w':=by
 have hsz:=ji t;by_cases h0:t=[]
 ·subst h0;go_enter Tryz.func71,Tryz.ntmps71;have h1:(S []).toList=[]:=by rw[pp]
  go_wp2;go_ret;exact⟨rfl,Touch.refl _ _⟩
 have hl0:0<t.length:=List.length_pos_iff.2 h0;have hq:(S t).toList.isEmpty=false:=by rw[pp];cases t;exact absurd rfl h0;rfl
 have hq2:((S t).toList==[])=false:=by rw[pp];cases t;exact absurd rfl h0;rfl
 have hq3:((S t).toList=[])=False:=bi (by rw[pp];exact h0);by_cases h16:16<t.length
 ·have hn:jE t=false:=by
   cases t with
   |nil=>rfl
   |cons c r=>rw[kz,aC (by omega)];rfl
  have Hn:=lh hn;clear hn h0;go_enter Tryz.func71,Tryz.ntmps71;go_wp2;go_ret;exact⟨eo Hn.o.symm,Touch.refl _ _⟩
 have hg0:=rZ t 0 (by rw[hsz];exact hl0);obtain⟨x,hx⟩:∃x,x=t[0]:=⟨_,rfl⟩;rw[<- hx] at hg0;have Hx:=lh hx;clear hx;have hc:=oR x w;rcases hl:kc x with _|_
 ·have hn:jE t=false:=by
   cases t with
   |nil=>rfl
   |cons c r =>
    have:x=c:=Hx.o
    rw[kz,<- this,hl,cL,dq]
  rw[hl] at hc;have Hn:=lh hn;have Hc:=lh hc;clear hn h0 hl hc;go_enter Tryz.func71,Tryz.ntmps71;go_wp2_with (go_at_call 104;refine Hc.o.mono ?_;rintro e w' ⟨rfl,rfl⟩);go_ret;exact⟨eo Hn.o.symm,Touch.refl _ _⟩
 rw[hl] at hc;have Hc:=lh hc;have Hl:=lh hl;clear hl hc h0;go_enter Tryz.func71,Tryz.ntmps71;have hconv:=mP t w;have hr:=rr w t;have ht:=nP w t;obtain⟨W,hW⟩:∃W,W=Lib.bytesWorld w 5 (S t):=⟨_,rfl⟩;rw[<- hW] at hconv hr ht;clear hW;go_wp2_with (go_at_call 104;refine Hc.o.mono ?_;rintro e w' ⟨rfl,rfl⟩);clear hconv Hc hg0 hq hq2 hq3;go_loop [21] (λi=>∃k:Nat,k<=t.length/\i=.int .i64 k/\Ga ((t.take k).all km=true)) (λi=>t.length-(intOf i).toNat)
 case atStart=>exact⟨0,by omega,rfl,lh rfl⟩
 case round =>
 obtain⟨k,hk,rfl,hall⟩:=hrel;by_cases hlt:k<t.length
 ·obtain⟨ad,e1,hcell⟩:=hr.at_ k hlt;obtain rfl:⟨w.heap.size,0,none⟩=ad:=by injection e1
  obtain⟨y,hy⟩:∃y,y=t[k]:=⟨_,rfl⟩;have hadd:(⟨w.heap.size,0,none⟩:Addr).add k=⟨w.heap.size,k,none⟩:=by unfold Addr.add;split<;>simp_all
  rw[<- hy,hadd] at hcell;have Hy:=lh hy;clear hy e1 hadd;have hc:=BL y W;rcases hl:km y with _|_
  ·rw[hl] at hc;have Hc:=lh hc;clear hc;have Hn:=lh (uf hlt (by rw[<- Hy.o];exact hl));clear hl;go_wp2_with (go_at_call 105;refine Hc.o.mono ?_;rintro e w' ⟨rfl,rfl⟩);go_ret;exact⟨eo Hn.o.symm,ht⟩
  rw[hl] at hc;have Hc:=lh hc;have Hl2:=lh hl;clear hc hl;go_wp2_with (go_at_call 105;refine Hc.o.mono ?_;rintro e w' ⟨rfl,rfl⟩);go_round
  case rel=>exact⟨k+1,by omega,by go_num,lh (by rw[au hlt,List.all_append,hall.o,<- Hy.o];simp[Hl2.o])⟩
  case measure=>simp[intOf];omega
 obtain rfl:k=t.length:=by omega
 go_wp2;go_ret;refine⟨eo (Eq.symm ?_),ht⟩;have h:=hall.o;rw[aH] at h;cases t with
 |nil=>simp at hl0
 |cons c r =>
  have e:x=c:=Hx.o
  subst e
  rw[kz,h,Hl.o,aF (by omega)];rfl
end
section
open Go.RowKit Go.Maps Go.ChangeMaps
def im(P:Program)(k:TypeId)(w:World)(b:Nat)(kvs:List (Value × Value)):Prop:=
 ∃es clock,w.heap[b]?=some (.map es clock)/\es.toList.map (λe=>(e.key,e.val))=kvs/\(∀e∈es.toList,∃l,keyOf P k e.key=some l)/\kvs.Pairwise (λp q=>p.1≠q.1)
variable {P:Program} {k:TypeId}
theorem im.made(w:World):im P k (w.alloc (.map #[] 0)) w.heap.size []:=⟨#[],0,ah w _,rfl,by simp,.nil⟩
theorem im.touch{w w':World}{b:Nat}{kvs:List (Value × Value)}{fp:List Nat}(h:im P k w b kvs)(ht:Touch fp w w')(hb:b∉fp):im P k w' b kvs:=by obtain⟨es,clock,h1,h2⟩:=h;exact⟨es,clock,ht.blk h1 hb,h2⟩
theorem im.lt{w:World}{b:Nat}{kvs:List (Value × Value)}(h:im P k w b kvs):b<w.heap.size:=by obtain⟨es,clock,h1,_⟩:=h;exact(cp.1 h1).1
theorem Touch.setBlock{w:World}{b:Nat}{es:Array MapEntry}{clock:Nat}(hb:w.heap[b]?=some (.map es clock))(o:Obj):Touch [b] w (setBlock w b o):=
 ⟨rfl,rfl,rfl,by simp[ChangeMaps.setBlock],λj _ hn=>heap_setBlock_other hb o (λe=>hn (by simp[e]))⟩
theorem im.miss{w:World}{b:Nat}{kvs:List (Value × Value)}{t e:TypeId}(h:im P k w b kvs)(K:Keyed P k)(ht:P.underlying t=some (.map k e)){key:Value}{kl:Lit}(hkey:keyOf P k key=some kl) (hm:∀p∈kvs,p.1≠key) (z:Value) (hz:(zeroValue e).run P w=.ok z w) (c:Bool) : (Instr.lookup t (.map (some b)) key c).run P w=.ok (if c then .tuple #[z,.bool false] else z) w:=by
 obtain⟨es,clock,hb,rfl,hk,_⟩:=h;rcases K.find w hkey es.toList hk with ⟨h1,h2⟩|⟨j,e0,h1,h2,h3⟩
 ·simp[Instr.lookup,run_underlying ht,MapKept.run_getObj_map hb,K.check w _ hkey,h1,hz,Result.andThen]
 exact absurd h3 (hm (e0.key,e0.val) (aJ.2 ⟨e0,cV h2,rfl⟩))
theorem sh{es:List MapEntry}{j:Nat}{e0:MapEntry}{key:Value}{l1 l2:List (Value × Value)}{v0:Value}(h2:es[j]?=some e0)(h3:e0.key=key)(he:es.map (fun e=>(e.key,e.val))=l1++(key,v0):: l2) (hp:(l1++(key,v0):: l2).Pairwise (λp q=>p.1≠q.1)):j=l1.length/\e0.val=v0:=by
 have hj:(l1++(key,v0):: l2)[j]?=some (key,e0.val):=by rw[<- he,List.getElem?_map,h2,<- h3];rfl
 have hjl:j<(l1++(key,v0):: l2).length:=(bS.1 hj).1;have hl:(l1++(key,v0):: l2)[l1.length]?=some (key,v0):=by simp
 have hll:l1.length<(l1++(key,v0):: l2).length:=(bS.1 hl).1;have e1:(l1++(key,v0):: l2)[j]=(key,e0.val):=by rw[aX hjl] at hj;exact bJ hj
 have e2:(l1++(key,v0):: l2)[l1.length]=(key,v0):=by rw[aX hll] at hl;exact bJ hl
 have hpw:=cI.1 hp;rcases Nat.lt_trichotomy j l1.length with h|h|h
 ·exact absurd (by rw[e1,e2]) (hpw j l1.length hjl hll h)
 ·subst h;rw[e1] at e2;exact⟨rfl,(Prod.mk.inj e2).2⟩
 exact absurd (by rw[e1,e2]) (hpw l1.length j hll hjl h)
theorem im.hit{w:World}{b:Nat}{kvs:List (Value × Value)}{t e:TypeId}(h:im P k w b kvs)(K:Keyed P k)(ht:P.underlying t=some (.map k e)){key v:Value}{kl:Lit}(hkey:keyOf P k key=some kl) (hm:(key,v)∈kvs) (c:Bool) : (Instr.lookup t (.map (some b)) key c).run P w=.ok (if c then .tuple #[v,.bool true] else v) w:=by
 obtain⟨es,clock,hb,rfl,hk,hp⟩:=h;obtain⟨e1,he1,e2⟩:=aJ.1 hm;rcases K.find w hkey es.toList hk with ⟨h1,h2⟩|⟨j,e0,h1,h2,h3⟩
 ·exact absurd (by simpa using bf Prod.fst e2) (h2 e1 he1)
 have hv:e0.val=v:=by obtain⟨l1,l2,hl⟩:=List.append_of_mem hm;exact(sh h2 h3 hl (hl ▸ hp)).2
 simp[Instr.lookup,run_underlying ht,MapKept.run_getObj_map hb,K.check w _ hkey,h1,hv,Result.andThen]
theorem im.put_new{w:World}{b:Nat}{kvs:List (Value × Value)}{t e:TypeId}(h:im P k w b kvs)(K:Keyed P k)(ht:P.underlying t=some (.map k e)){key:Value}{kl:Lit}(hkey:keyOf P k key=some kl) (hm:∀p∈kvs,p.1≠key) (v:Value) : ∃w',(Instr.mapUpdate t (.map (some b)) key v).run P w=.ok () w'/\im P k w' b (kvs++[(key,v)])/\Touch [b] w w':=by
 obtain⟨es,clock,hb,rfl,hk,hp⟩:=h;rcases K.find w hkey es.toList hk with ⟨h1,h2⟩|⟨j,e0,h1,h2,h3⟩
 ·refine⟨ChangeMaps.setBlock w b (.map (es.push ⟨key,v,clock⟩) (clock+1)), ?_,⟨es.push ⟨key,v,clock⟩,clock+1,heap_setBlock_same hb _,by simp, ?_, ?_⟩,Touch.setBlock hb _⟩
  ·simp[Instr.mapUpdate,run_underlying ht,MapKept.run_getObj_map hb,K.check w false hkey,h1,MapKept.run_setObj_map _ hb,Result.andThen,ChangeMaps.setBlock]
  ·intro x hx;simp only[Array.toList_push,List.mem_append,List.mem_singleton] at hx;rcases hx with hx|rfl
   ·exact hk x hx
   exact⟨kl,hkey⟩
  rw[c_];refine⟨hp,by simp,λp hp2 q hq=> ?_⟩;obtain rfl:q=(key,v):=by simpa using hq
  exact hm p hp2
 exact absurd h3 (hm (e0.key,e0.val) (aJ.2 ⟨e0,cV h2,rfl⟩))
theorem im.put_old{w:World}{b:Nat}{l1 l2:List (Value × Value)}{t e:TypeId}{key v0:Value}(h:im P k w b (l1++(key,v0):: l2))(K:Keyed P k)(ht:P.underlying t=some (.map k e)){kl:Lit}(hkey:keyOf P k key=some kl)(v:Value): ∃w',(Instr.mapUpdate t (.map (some b)) key v).run P w=.ok () w'/\im P k w' b (l1++(key,v):: l2)/\Touch [b] w w':=by
 obtain⟨es,clock,hb,he,hk,hp⟩:=h;rcases K.find w hkey es.toList hk with ⟨h1,h2⟩|⟨j,e0,h1,h2,h3⟩
 ·have:(key,v0)∈es.toList.map (λe=>(e.key,e.val)):=by rw[he];simp
  obtain⟨e1,he1,e2⟩:=aJ.1 this;exact absurd (by simpa using bf Prod.fst e2) (h2 e1 he1)
 obtain⟨rfl,hv⟩:=sh h2 h3 he hp;have hjs:l1.length<es.size:=by have:=(bS.1 h2).1;simpa using this
 have hget:es[l1.length]?=some e0:=by rw[<- Array.getElem?_toList];exact h2
 have hst:=K.stays w hkey;refine⟨ChangeMaps.setBlock w b (.map (es.modify l1.length λe=>{ e with key:=key,val:=v }) clock), ?_,⟨es.modify l1.length λe=>{ e with key:=key,val:=v },clock,heap_setBlock_same hb _, ?_, ?_, ?_⟩,Touch.setBlock hb _⟩
 ·simp[Instr.mapUpdate,run_underlying ht,MapKept.run_getObj_map hb,K.check w false hkey,h1,hget,h3,hst,MapKept.run_setObj_map _ hb,Result.andThen,ChangeMaps.setBlock]
 ·apply List.ext_getElem?;intro i;have hi:(es.toList.map (λe=>(e.key,e.val)))[i]?=(l1++(key,v0):: l2)[i]?:=by rw[he]
  simp only[List.getElem?_map,Array.getElem?_toList,Array.getElem?_modify] at hi ⊢;by_cases hil:l1.length=i
  ·subst hil;simp[hget]
  rw[ab hil,hi];rcases Nat.lt_or_gt_of_ne hil with h|h
  ·rw[List.getElem?_append_right (by omega),List.getElem?_append_right (by omega)];obtain⟨m,hm⟩:∃m,i-l1.length=m+1:=⟨i-l1.length-1,by omega⟩;rw[hm];rfl
  rw[List.getElem?_append_left h,List.getElem?_append_left h]
 ·intro x hx;obtain⟨i,hi⟩:=List.mem_iff_getElem?.1 hx;rw[Array.getElem?_toList,Array.getElem?_modify] at hi;by_cases hil:l1.length=i
  ·subst hil;rw[ae rfl,hget] at hi;obtain rfl:=bJ hi;exact⟨kl,hkey⟩
  rw[ab hil] at hi;exact hk x (List.mem_iff_getElem?.2 ⟨i,by rw[Array.getElem?_toList];exact hi⟩)
 rw[c_,cq] at hp ⊢;exact⟨hp.1,⟨hp.2.1.1,hp.2.1.2⟩,λp hp1 q hq=>by
 rcases aR.1 hq with rfl|hq
 ·exact hp.2.2 p hp1 (key,v0) (by simp)
 exact hp.2.2 p hp1 q (aR.2 (.inr hq))⟩
theorem im.len{w:World}{b:Nat}{kvs:List (Value × Value)}{t e:TypeId}(h:im P k w b kvs)(ht:P.underlying t=some (.map k e))(ty:TypeId): (Builtin.len_ #[t] ty #[.map (some b)]).run P w=.ok (.int .i64 kvs.length) w:=by obtain⟨es,clock,hb,rfl,_,_⟩:=h;simp[Builtin.len_,run_underlying ht,MapKept.run_getObj_map hb,Result.andThen,goInt]
section
variable {ops:Array Oper} {rest:List Oper} {o:Oper} {a:Act} {Q:Exit->Act->World->Prop}
theorem fG{w:World}(hg:o.guard=none)(m x:Operand)(t:TypeId)(c:Bool)(hop:o.op=Op.lookup t m x c)(mv key v:Value)(hm:a.eval m=mv)(hx:a.eval x=key) (hrun:(Instr.lookup t mv key c).run P w=.ok v w) (hK:wpList P ops Q rest (a.put o.dst v) w):wpList P ops Q (o:: rest) a w:=by refine wpList_plain hg λK' hK'=> ?_;unfold Oper.wp;simp[execOp,hop,hm,hx,hrun,Result.andThen];exact hK' _ _ hK
theorem jb{w w':World}(hg:o.guard=none)(m x v:Operand)(t:TypeId)(hop:o.op=Op.mapUpdate t m x v)(mv key val:Value)(hm:a.eval m=mv)(hx:a.eval x=key)(hv:a.eval v=val) (hrun:(Instr.mapUpdate t mv key val).run P w=.ok () w') (hK:wpList P ops Q rest (a.put o.dst undef) w'):wpList P ops Q (o:: rest) a w:=by refine wpList_plain hg λK' hK'=> ?_;unfold Oper.wp;simp[execOp,hop,hm,hx,hv,hrun,Result.andThen];exact hK' _ _ hK
end
end
section
open Go.RowKit Go.Maps
def fQ(c:CD):List Value:=[.string c.name,.int .i64 c.typ]
theorem eZ(c:CD):(fQ c).length=2:=rfl
theorem gq(c:CD):∀u∈fQ c,u.oneCell'=true:=by intro u hu;simp only[fQ,List.mem_cons,List.not_mem_nil,or_false] at hu;rcases hu with rfl|rfl<;>rfl
structure CD.Ok (c:CD):Prop where
 n:c.name.size<=140737000000000
 t : -9223372036854775808<=c.typ/\c.typ<=9223372036854775807
def em(w:World)(A:Option Addr)(cs:List CD):Prop:=d9 fQ w A cs
theorem em.at_{w:World}{A:Option Addr}{cs:List CD}(h:em w A cs)(i:Nat)(hi:i<cs.length): ∃ad b off,A=some ad/\ad.add (i*2)=⟨b,off,none⟩/\w.cell? ⟨b,off,none⟩=some (.string cs[i].name)/\w.cell? ⟨b,off+1,none⟩=some (.int .i64 cs[i].typ):=by obtain⟨ad,b,off,h1,h2,_,h3⟩:=d9.at_ h 2 eZ (by omega) i hi;exact⟨ad,b,off,h1,h2,h3 0 _ rfl,h3 1 _ rfl⟩
theorem em.touch0{w w':World}{A:Option Addr}{cs:List CD}(h:em w A cs)(ht:Touch [] w w'):em w' A cs:=d9.touch0 h ht
theorem BN(s:ByteArray)(hs:s.size<=140737000000000)(w:World): Calls Tryz.prog 71 #[.string s] w λe w'=>e=.returned (.bool (jE s.data.toList))/\Touch [] w w':=by have:=Cq s.data.toList (by rw[j3];exact hs) w;rwa[m9] at this
theorem CW(w:World):(zeroValue 4).run Tryz.prog w=.ok (.bool false) w:=by kernel_rfl
def qu(cs:List CD):List (Value × Value):=cs.map λc=>(.string c.name,.bool true)
theorem lZ(A:Option Addr)(cap n:Nat)(cs:List CD)(hn:cs.length=n)(hok:∀ c∈cs,c.Ok)(w:World)(h:em w A cs)(hl:n<=9223372036854775807): Calls Tryz.prog 33 #[.slice A n cap] w λe w'=>e=.returned (.int .i64 (eB cs))/\Touch [] w w':=by
 subst hn;have hmm:=@run_makeMap Tryz.prog;by_cases h0:cs.length<1\/16<cs.length
 ·have hc:eB cs=31:=by unfold eB;rw[ae h0]
  have Hc:=lh hc;clear hc;rcases h0 with h0|h0
  ·have hz:cs.length=0:=by omega
   have hzb:((cs.length:Int)==0)=true:=by rw[hz];rfl
   clear hz;go_enter Tryz.func33,Tryz.ntmps33;go_wp2;go_ret;exact⟨ew Hc.o.symm,Touch.refl _ _⟩
  have hzb:((cs.length:Int)==0)=false:=by rw[aw];omega
  go_enter Tryz.func33,Tryz.ntmps33;go_wp2;go_ret;exact⟨ew Hc.o.symm,Touch.refl _ _⟩
 have h1:1<=cs.length:=by omega
 have h16:cs.length<=16:=by omega
 have hzb:((cs.length:Int)==0)=false:=by rw[aw];omega
 have hc:eB cs=nh (cs.take 0) (cs.drop 0):=by unfold eB;rw[ab h0];rfl
 have Hc:=lh hc;clear hc h0;go_enter Tryz.func33,Tryz.ntmps33;go_wp2;clear hzb;go_loopw [17] (λi wr=>∃k:Nat,k<=cs.length/\i=.int .i64 k/\Ga (eB cs=nh (cs.take k) (cs.drop k))/\im Tryz.prog 9 wr w.heap.size (qu (cs.take k))/\Touch [] w wr) (λi _=>cs.length-(intOf i).toNat)
 case atStart=>exact⟨0,by omega,rfl,Hc,im.made _,(Touch.refl _ _).alloc _⟩
 case round =>
 clear Hc hmm;obtain⟨k,hk,rfl,Hc,hmap,ht⟩:=hrel;by_cases hlt:k<cs.length
 ·obtain⟨ad,b,off,rfl,hadd,c0,c1⟩:=(h.touch0 ht).at_ k hlt;have hcok:=hok _ (am hlt);have hst:=rh hlt;obtain⟨c,hce⟩:∃c,c=cs[k]:=⟨_,rfl⟩;rw[<- hce] at c0 c1 hst hcok;have hsn:qu (cs.take (k+1))=qu (cs.take k)++[(.string c.name,.bool true)]:=by unfold qu;rw[au hlt,aT,<- hce];rfl
  have Hst:=lh (Hc.o.trans hst);have Hsn:=lh hsn;clear hst Hc hce hsn;obtain⟨hcn,hct1,hct2⟩:=hcok;have tb:=(Touch.refl [] wr).alloc (.cells #[.string c.name,.int .i64 c.typ] 29);have hb:=ah wr (.cells #[.string c.name,.int .i64 c.typ] 29);have hname:=BN c.name hcn (wr.alloc (.cells #[.string c.name,.int .i64 c.typ] 29));have Hkey:=lh (Go.WideMaps.keyOf_string_mk cg (s:=c.name) (by unfold maxLen;omega));have Hmap:=lh (hmap.touch tb (by simp));clear hmap;rcases hnv:jE c.name.data.toList with _|_
  ·rw[hnv] at hname;have Hname:=lh hname;clear hname;have he:iV (cs.take k) c=13:=by unfold iV;rw[ae hnv]
   have He:=lh (show eB cs=13 by rw[Hst.o,he];rfl);clear he hnv;go_wp2_with (go_at_call 71;refine Hname.o.mono ?_;rintro e w1 ⟨rfl,t1⟩);go_ret;exact⟨ew He.o.symm,(ht.trans0 tb).trans0 t1⟩
  rw[hnv] at hname;have Hname:=lh hname;clear hname;by_cases hty:c.typ≠1/\c.typ≠2
  ·have he:iV (cs.take k) c=12:=by unfold iV;rw[ab (by rw[hnv];simp),ae hty]
   have He:=lh (show eB cs=12 by rw[Hst.o,he];rfl);clear he hnv;obtain⟨q1,q2⟩:=hty;have q1b:(c.typ==1)=false:=by rw[aw];exact q1
   have q2b:(c.typ==2)=false:=by rw[aw];exact q2
   have q1n:(c.typ != 1)=true:=by rw[bne,q1b];rfl
   have q2n:(c.typ != 2)=true:=by rw[bne,q2b];rfl
   go_wp2_with fail;refine Hname.o.mono ?_;rintro e w1 ⟨rfl,t1⟩;have hb1:=t1.blk hb (by simp);have d0:=d_ hb1 (i:=0) rfl;have d1:=d_ hb1 (i:=1) rfl;go_wp2;go_ret;exact⟨ew He.o.symm,(ht.trans0 tb).trans0 t1⟩
  have hty2:c.typ=1\/c.typ=2:=by omega
  go_wp2_with fail;refine Hname.o.mono ?_;rintro e w1 ⟨rfl,t1⟩;have hb1:=t1.blk hb (by simp);have d0:=d_ hb1 (i:=0) rfl;have d1:=d_ hb1 (i:=1) rfl;have Hmap1:=lh (Hmap.o.touch t1 (by simp));by_cases hany:((cs.take k).any λd=>decide (d.name=c.name))=true
  ·have he:iV (cs.take k) c=14:=by unfold iV;rw[ab (by rw[hnv];simp),ab hty,ae hany]
   have He:=lh (show eB cs=14 by rw[Hst.o,he];rfl);clear he hnv;have hmem:(Value.string c.name,Value.bool true)∈qu (cs.take k):=by obtain⟨d,hd,hde⟩:=cO.1 hany;exact aJ.2 ⟨d,hd,by rw[show d.name=c.name by simpa using hde]⟩
   clear hany;rcases hty2 with q|q;all_goals have q1b:(c.typ==1)=decide (c.typ=1):=rfl;rw[q] at d1;clear q1b hty q;go_wp2_with (at_lookup;refine ez ?_);refine go ?_;refine fG rfl (.tmp 36) (.tmp 38) 75 false rfl _ _ _ rfl rfl (Hmap1.o.hit (string_keyed cg) Tryz.underlying75 Hkey.o hmem false) ?_;go_wp2;go_ret;exact⟨ew He.o.symm,(ht.trans0 tb).trans0 t1⟩
  have he:iV (cs.take k) c=0:=by unfold iV;rw[ab (by rw[hnv];simp),ab hty,ab hany]
  have He:=lh (show eB cs=nh (cs.take (k+1)) (cs.drop (k+1)) by rw[Hst.o,he];rfl);clear he hnv;have hmiss:∀p∈qu (cs.take k),p.1≠Value.string c.name:=by intro p hp e;obtain⟨d,hd,rfl⟩:=aJ.1 hp;exact hany (cO.2 ⟨d,hd,by simpa using e⟩)
  clear hany;obtain⟨w2,hrun,hmap2,t2⟩:=Hmap1.o.put_new (string_keyed cg) Tryz.underlying75 Hkey.o hmiss (.bool true);have Hrun:=lh hrun;clear hrun;rcases hty2 with q|q;all_goals
  rw[q] at d1;clear hty q;go_wp2_with (at_lookup;refine ez ?_);refine go ?_;refine fG rfl (.tmp 36) (.tmp 38) 75 false rfl _ _ _ rfl rfl (Hmap1.o.miss (string_keyed cg) Tryz.underlying75 Hkey.o hmiss _ (CW _) false) ?_;go_wp2_with (at_mapUpdate;refine ez ?_);refine go ?_;refine jb rfl (.tmp 40) (.tmp 42) (.const (.bool true)) 75 rfl _ _ _ rfl rfl rfl Hrun.o ?_;go_wp2;go_roundw
  case rel=>exact⟨k+1,by omega,by go_num,He,by rw[Hsn.o];exact hmap2,((ht.trans0 tb).trans0 t1).trans t2 (λb hb=>.inr (by simp at hb;omega))⟩
  case measure=>simp[intOf];omega
 obtain rfl:k=cs.length:=by omega
 have He:=lh (show eB cs=0 by rw[Hc.o,bY];rfl);go_wp2;go_ret;exact⟨ew He.o.symm,ht⟩
end
section
open Go.RowKit
def ff(v:VD):List Value:=[.int .i64 v.kind,.int .i64 v.num,.string v.text]
theorem eO(v:VD):(ff v).length=3:=rfl
theorem f8(v:VD):∀u∈ff v,u.oneCell'=true:=by intro u hu;simp only[ff,List.mem_cons,List.not_mem_nil,or_false] at hu;rcases hu with rfl|rfl|rfl<;>rfl
def eu(w:World)(A:Option Addr)(vs:List VD):Prop:=d9 ff w A vs
theorem eu.at_{w:World}{A:Option Addr}{vs:List VD}(h:eu w A vs)(i:Nat)(hi:i<vs.length): ∃ad b off,A=some ad/\ad.add (i*3)=⟨b,off,none⟩/\w.cell? ⟨b,off,none⟩=some (.int .i64 vs[i].kind)/\w.cell? ⟨b,off+1,none⟩=some (.int .i64 vs[i].num)/\w.cell? ⟨b,off+2,none⟩=some (.string vs[i].text):=by obtain⟨ad,b,off,h1,h2,_,h3⟩:=d9.at_ h 3 eO (by omega) i hi;exact⟨ad,b,off,h1,h2,h3 0 _ rfl,h3 1 _ rfl,h3 2 _ rfl⟩
theorem eu.touch0{w w':World}{A:Option Addr}{vs:List VD}(h:eu w A vs)(ht:Touch [] w w'):eu w' A vs:=d9.touch0 h ht
theorem lu{α:Type}{p:α->Bool}{l:List α}{k:Nat}(h:k<l.length)(hb:p l[k]=false):l.all p=false:=by rw[List.all_eq_false];exact⟨_,am h,by rw[hb];simp⟩
theorem jt{α:Type}{p:α->Bool}{l:List α}{k:Nat}(h:k<l.length)(h1:(l.take k).all p=true)(h2:p l[k]=true):(l.take (k+1)).all p=true:=by rw[au h,List.all_append,h1];simp[h2]
structure Made {α:Type} (t k:Nat) (enc:α->List Value) (xs:List α) (A:Option Addr) (c:Nat) (w w':World):Prop where
 own:ep t k enc w' A c xs
 t:Touch [] w w'
 f:∀b∈ed A,w.heap.size<=b
theorem Made.step{α:Type}{t k:Nat}{enc:α->List Value}{xs ys:List α}{A A':Option Addr}{c c':Nat}{w w1 w2:World}(h:Made t k enc xs A c w w1)(h2:ep t k enc w2 A' c' ys)(t2:Touch (ed A) w1 w2)(f2:∀ b∈ed A',b∈ed A\/b=w1.heap.size):Made t k enc ys A' c' w w2:=
 ⟨h2,h.t.trans t2 (λb hb=>.inr (h.f b hb)),λb hb=>by
  rcases f2 b hb with e|e
  ·exact h.f b e
  have:=h.t.size;omega⟩
theorem Made.touch0{α:Type}{t k:Nat}{enc:α->List Value}{xs:List α}{A:Option Addr}{c:Nat}{w w1 w2:World}(h:Made t k enc xs A c w w1)(ht:Touch [] w1 w2):Made t k enc xs A c w w2:=⟨h.own.touch0 ht,h.t.trans0 ht,h.f⟩
theorem Made.nil{α:Type}(t k:Nat)(enc:α->List Value)(w:World):Made t k enc [] none 0 w w:=⟨ep.nil _ _ _ _,Touch.refl _ _,by simp[ed]⟩
end
section
open Go.RowKit
structure TW (W:World) where
 w:World
 t:Touch [] W w
instance (W:World):Nonempty (TW W):=⟨⟨W,Touch.refl _ _⟩⟩
theorem TW.cell{W:World}{a:Addr}{v:Value}(h:W.cell? a=some v):∀x:TW W,x.w.cell? a=some v:=λx=>x.t.cell h (by simp)
theorem Calls.tw{P:Program}{f:FuncId}{args:Array Value}{W:World}{v:Value}(x:TW W)(h:Calls P f args x.w fun e w'=>e=.returned v/\Touch [] x.w w'):
  Calls P f args x.w λe w'=>e=.returned v/\∃y:TW W,w'=y.w:=
 h.mono λ_ w'⟨he,ht⟩=>⟨he,⟨w',x.t.trans0 ht⟩,rfl⟩
theorem eh{P:Program}{id:Nat}{Q:Exit->Act->World->Prop}{a:Act}{w:World}{l:List Oper}(W:World)(hW:Touch [] W w)(hm:P.follows .mixedOrders=true)(hB:Region.lexB .any l.toArray=true)
  (h:wpQuiet P l.toArray (λw'=>∃x:TW W,w'=x.w) (λa'=>∀w',(∃x:TW W,w'=x.w)->Q .normal a' w') l a):(Code.region id l.toArray true).wp P Q a w:=
 wp_region_quiet (C:=λw'=>∃x:TW W,w'=x.w) hm hB ⟨⟨_,hW.drew⟩,rfl⟩ (by simpa using h)
end
section
open Go.RowKit
def gK(c:CD)(v:VD):Bool:=v.right&&(decide (v.kind=0)||decide (v.kind=c.typ))
def fw(cs:List CD)(vs:List VD):Bool:=decide (vs.length=cs.length)&&(List.zipWith gK cs vs).all id
theorem By{cs:List CD}{vs:List VD}{k:Nat}(h1:k<cs.length)(h2:k<vs.length)(hb:gK cs[k] vs[k]=false):fw cs vs=false:=by
 have hk:k<(List.zipWith gK cs vs).length:=by rw[cu];omega
 have:=lu (p:=id) hk (by rw[List.getElem_zipWith];exact hb);unfold fw;rw[this,dq]
theorem xI{cs:List CD}{vs:List VD}{k:Nat}(h1:k<cs.length)(h2:k<vs.length)(h:((List.zipWith gK cs vs).take k).all id=true)(hb:gK cs[k] vs[k]=true):((List.zipWith gK cs vs).take (k+1)).all id=true:=by
 have hk:k<(List.zipWith gK cs vs).length:=by rw[cu];omega
 exact jt (p:=id) hk h (by rw[List.getElem_zipWith];exact hb)
theorem wB(A:Option Addr)(cap n:Nat)(cs:List CD)(hn:cs.length=n)(hok:∀ c∈cs,c.Ok)(B:Option Addr)(bcap m:Nat)(vs:List VD)(hm:vs.length=m)(hvk:∀ v∈vs,v.Ok 140737000000000) (w:World) (h:em w A cs) (hv:eu w B vs) (hl:n<=140737000000000) (hl2:m<=140737000000000) : Calls Tryz.prog 106 #[.slice A n cap,.slice B m bcap] w λe w'=>e=.returned (.bool (decide (eB cs=0)&&fw cs vs))/\Touch [] w w':=by
 subst hn hm;have hchk:=lZ A cap cs.length cs rfl hok w h (by omega);by_cases hc0:eB cs=0
 ·rw[hc0] at hchk;have Hchk:=lh hchk;have Hc0:=lh (show (decide (eB cs=0)&&fw cs vs)=fw cs vs by rw[hc0];rfl);clear hchk hc0;by_cases hlen:vs.length=cs.length
  ·have Hlen:=lh hlen;go_enter Tryz.func106,Tryz.ntmps106;go_wp2_with (go_at_call 33;refine Hchk.o.mono ?_;rintro e w1 ⟨rfl,t1⟩);clear Hchk;go_loopw [19] (λi wr=>∃k:Nat,k<=vs.length/\i=.int .i64 k/\Ga (((List.zipWith gK cs vs).take k).all id=true)/\Touch [] w wr) (λi _=>vs.length-(intOf i).toNat)
   case atStart=>exact⟨0,by omega,rfl,lh rfl,t1⟩
   case round =>
   clear t1;obtain⟨k,hk,rfl,Hall,ht⟩:=hrel;clear hlen;by_cases hlt:k<vs.length
   ·have hlt2:k<cs.length:=by have:=Hlen.o;omega
    obtain⟨ad,b,off,rfl,hadd,c0,c1⟩:=(h.touch0 ht).at_ k hlt2;obtain⟨bd,b2,off2,rfl,hadd2,d0,d1,d2⟩:=(hv.touch0 ht).at_ k hlt;have hno:=By hlt2 hlt;have hyes:=xI hlt2 hlt Hall.o;have hvok:=hvk _ (am hlt);obtain⟨c,hce⟩:∃c,c=cs[k]:=⟨_,rfl⟩;obtain⟨v,hve⟩:∃v,v=vs[k]:=⟨_,rfl⟩;rw[<- hce] at c0 c1 hno hyes;rw[<- hve] at d0 d1 d2 hno hyes hvok;have Hno:=lh hno;have Hyes:=lh hyes;obtain⟨_,_,hvt⟩:=hvok;obtain⟨kd,nm,tx⟩:=v;simp only at d0 d1 d2 hvt;clear hce hve hno hyes Hall c0;have hb:=ah wr (.cells #[.int .i64 kd,.int .i64 nm,.string tx] 31);have tb:=(Touch.refl [] wr).alloc (.cells #[.int .i64 kd,.int .i64 nm,.string tx] 31);obtain⟨W,hW⟩:∃W,W=wr.alloc (.cells #[.int .i64 kd,.int .i64 nm,.string tx] 31):=⟨_,rfl⟩;rw[<- hW] at hb tb;have g0:=TW.cell (d_ hb (i:=0) rfl);have g1:=TW.cell (d_ hb (i:=1) rfl);have g2:=TW.cell (d_ hb (i:=2) rfl);have g3:=TW.cell (tb.cell c1 (by simp));have hright:=λw'=>pM ⟨kd,nm,tx⟩ hvt w';simp only[VD.val] at hright;have hkI0:(0:Int)<=(k:Int):=by omega
    have hkI:(k:Int)<(cs.length:Int):=by omega
    have HW:=lh hW;clear hW hb;rcases hvr:VD.right ⟨kd,nm,tx⟩ with _|_
    ·have Hf:=lh (Hno.o (by unfold gK;rw[hvr];rfl));rw[hvr] at hright;have Hright:=lh hright;clear hright hvr;go_wp2;rw[<- HW.o];refine eh W (Touch.refl _ _) (by kernel_rfl) (by kernel_rfl) ?_;repeat (go_big_quiet_step (((go_at_call 147;exact Calls.tw _ (Hright.o _)))))
     refine aS ?_;rintro _ ⟨x2,rfl⟩;go_wp2;go_ret;exact⟨eo (by rw[Hc0.o,Hf.o]),(ht.trans0 tb).trans0 x2.t⟩
    have Hr:=lh hvr;rw[hvr] at hright;have Hright:=lh hright;clear hright hvr;by_cases hk0:kd=0
    ·subst hk0;have Ha:=lh (Hyes.o (by unfold gK;rw[Hr.o];rfl));go_wp2;rw[<- HW.o];refine eh W (Touch.refl _ _) (by kernel_rfl) (by kernel_rfl) ?_;repeat (go_big_quiet_step (((go_at_call 147;exact Calls.tw _ (Hright.o _)))))
     refine aS ?_;rintro _ ⟨x2,rfl⟩;go_wp2;go_roundw
     case rel=>exact⟨k+1,by omega,by go_num,Ha,(ht.trans0 tb).trans0 x2.t⟩
     case measure=>simp[intOf];omega
    have q0:(kd==0)=false:=by rw[aw];exact hk0
    have q0':(kd != 0)=true:=by rw[bne,q0];rfl
    by_cases hkt:kd=c.typ
    ·have Ha:=lh (Hyes.o (by unfold gK;rw[Hr.o];simp[hkt]));have q1:(kd==c.typ)=true:=by rw[dx];exact hkt
     have q1':(kd != c.typ)=false:=by rw[bne,q1];rfl
     clear hk0 hkt;go_wp2;rw[<- HW.o];refine eh W (Touch.refl _ _) (by kernel_rfl) (by kernel_rfl) ?_;repeat (go_big_quiet_step (((go_at_call 147;exact Calls.tw _ (Hright.o _)))))
     refine aS ?_;rintro _ ⟨x2,rfl⟩;go_wp2;go_roundw
     case rel=>exact⟨k+1,by omega,by go_num,Ha,(ht.trans0 tb).trans0 x2.t⟩
     case measure=>simp[intOf];omega
    have Hf:=lh (Hno.o (by unfold gK;rw[Hr.o];simp[hkt,hk0]));have q1:(kd==c.typ)=false:=by rw[aw];exact hkt
    have q1':(kd != c.typ)=true:=by rw[bne,q1];rfl
    clear hk0 hkt;go_wp2;rw[<- HW.o];refine eh W (Touch.refl _ _) (by kernel_rfl) (by kernel_rfl) ?_;repeat (go_big_quiet_step (((go_at_call 147;exact Calls.tw _ (Hright.o _)))))
    refine aS ?_;rintro _ ⟨x2,rfl⟩;go_wp2;go_ret;exact⟨eo (by rw[Hc0.o,Hf.o]),(ht.trans0 tb).trans0 x2.t⟩
   obtain rfl:k=vs.length:=by omega
   have hall:=Hall.o;rw[bR (by rw[cu];omega)] at hall;have Hf:=lh (show fw cs vs=true by unfold fw;rw[hall,aF Hlen.o];rfl);have hge:decide (vs.length<cs.length)=false:=aC (by have:=Hlen.o;omega);clear hall Hall;go_wp2;go_ret;exact⟨eo (by rw[Hc0.o,Hf.o]),ht⟩
  have Hf:=lh (show fw cs vs=false by unfold fw;rw[aC hlen];rfl);have hq:((vs.length:Int)==(cs.length:Int))=false:=by rw[aw];omega
  have hq':((vs.length:Int) != (cs.length:Int))=true:=by rw[bne,hq];rfl
  clear hlen;go_enter Tryz.func106,Tryz.ntmps106;go_wp2_with (go_at_call 33;refine Hchk.o.mono ?_;rintro e w1 ⟨rfl,t1⟩);go_ret;exact⟨eo (by rw[Hc0.o,Hf.o]),t1⟩
 have Hchk:=lh hchk;have Hc0:=lh (show (decide (eB cs=0)&&fw cs vs)=false by rw[aC hc0];rfl);obtain⟨E,hE⟩:∃E,E=eB cs:=⟨_,rfl⟩;have HE:=lh hE;have hq:(E==0)=false:=by rw[aw,hE];exact hc0
 have hq':(E != 0)=true:=by rw[bne,hq];rfl
 clear hchk hc0 hE;go_enter Tryz.func106,Tryz.ntmps106;go_wp2_with (go_at_call 33;refine Hchk.o.mono ?_;rintro e w1 ⟨rfl,t1⟩;rw[<- HE.o]);go_ret;exact⟨eo (by rw[Hc0.o]),t1⟩
end
section
open Go.RowKit
theorem oI{l r:List VD}{k:Nat}(h1:k<l.length)(h2:k<r.length):ej (l.drop k) (r.drop k)=if eU l[k] r[k]=0 then ej (l.drop (k+1)) (r.drop (k+1)) else eU l[k] r[k]:=by rw[bj h1,bj h2];rfl
theorem l9(l r:List VD)(h:l=[]\/r=[]):ej l r=if l.length<r.length then -1 else if r.length<l.length then 1 else 0:=by
 rcases h with rfl|rfl
 ·cases r<;>rfl
 cases l<;>rfl
theorem rV(A B:Option Addr)(c1 c2 n m:Nat)(l r:List VD)(hn:l.length=n)(hm:r.length=m)(w:World)(h:eu w A l)(h2:eu w B r)(hl:n<=140737000000000)(hl2:m<=140737000000000): Calls Tryz.prog 111 #[.slice A n c1,.slice B m c2,.func (.func 112) #[] #[]] w λe w'=>e=.returned (.int .i64 (ej l r))/\Touch [] w w':=by
 subst hn hm;go_enter Tryz.func111,Tryz.ntmps111;go_wp2;go_loopw [13] (λi wr=>∃k:Nat,k<=l.length/\k<=r.length/\i=.int .i64 k/\Ga (ej l r=ej (l.drop k) (r.drop k))/\Touch [] w wr) (λi _=>l.length-(intOf i).toNat)
 case atStart=>exact⟨0,by omega,by omega,rfl,lh rfl,Touch.refl _ _⟩
 case round =>
 obtain⟨k,hka,hkb,rfl,Ho,ht⟩:=hrel;by_cases h1:k<l.length
 ·obtain⟨ad,b,off,rfl,hadd,c0,c1,c2⟩:=(h.touch0 ht).at_ k h1;by_cases h2':k<r.length
  ·obtain⟨bd,b2,off2,rfl,hadd2,d0,d1,d2⟩:=(h2.touch0 ht).at_ k h2';have hst:=oI h1 h2';obtain⟨x,hx⟩:∃x,x=l[k]:=⟨_,rfl⟩;obtain⟨y,hy⟩:∃y,y=r[k]:=⟨_,rfl⟩;rw[<- hx,<- hy] at hst;rw[<- hx] at c0 c1 c2;rw[<- hy] at d0 d1 d2;obtain⟨k1,n1,s1⟩:=x;obtain⟨k2,n2,s2⟩:=y;simp only at c0 c1 c2 d0 d1 d2;have hcv:=λw'=>lD ⟨k1,n1,s1⟩ ⟨k2,n2,s2⟩ w';simp only[VD.val] at hcv;obtain⟨q,hq⟩:∃q,q=eU ⟨k1,n1,s1⟩ ⟨k2,n2,s2⟩:=⟨_,rfl⟩;rw[<- hq] at hst hcv;have Hcv:=lh hcv;have Hst:=lh hst;have ta:=((Touch.refl [] wr).alloc (.cells #[.int .i64 k1,.int .i64 n1,.string s1] 31));have e0:=ta.cell d0 (by simp);have e1:=ta.cell d1 (by simp);have e2:=ta.cell d2 (by simp);have hkI:(k:Int)<(r.length:Int):=by omega
   have h0I:(0:Int)<=(k:Int):=by omega
   clear hst hcv hx hy hq d0 d1 d2 ta;have tb:=(ht.alloc (.cells #[.int .i64 k1,.int .i64 n1,.string s1] 31)).alloc (.cells #[.int .i64 k2,.int .i64 n2,.string s2] 31);by_cases h0:q=0
   ·subst h0;have Hq:=lh (show ej l r=ej (l.drop (k+1)) (r.drop (k+1)) by rw[Ho.o,Hst.o,ae rfl]);go_wp2_with fail;refine(Hcv.o _).mono ?_;rintro e w1 ⟨rfl,t1⟩;go_wp2;go_roundw
    case rel=>exact⟨k+1,by omega,by omega,by go_num,Hq,tb.trans0 t1⟩
    case measure=>simp[intOf];omega
   have Hq:=lh (show ej l r=q by rw[Ho.o,Hst.o,ab h0]);have hq:(q==0)=false:=by rw[aw];exact h0
   have hq':(q != 0)=true:=by rw[bne,hq];rfl
   go_wp2_with fail;refine(Hcv.o _).mono ?_;rintro e w1 ⟨rfl,t1⟩;go_wp2;go_ret;exact⟨ew Hq.o.symm,tb.trans0 t1⟩
  have hE:=l9 (l.drop k) (r.drop k) (.inr (b_ (by omega)));rw[cF,cF] at hE;have Hq:=lh (show ej l r=1 by rw[Ho.o,hE,ab (by omega),ae (by omega)]);obtain⟨x,hx⟩:∃x,x=l[k]:=⟨_,rfl⟩;rw[<- hx] at c0 c1 c2;obtain rfl:k=r.length:=by omega
  clear hE hx Ho;go_wp2;go_ret;exact⟨ew Hq.o.symm,ht.alloc _⟩
 have hE:=l9 (l.drop k) (r.drop k) (.inl (b_ (by omega)));rw[cF,cF] at hE;have HE:=lh hE;clear hE;obtain rfl:k=l.length:=by omega
 by_cases hq:l.length<r.length
 ·have Hq:=lh (show ej l r = -1 by rw[Ho.o,HE.o,ae (by omega)]);have hqI:(l.length:Int)<(r.length:Int):=by omega
  clear HE Ho;go_wp2;go_ret;exact⟨ew Hq.o.symm,ht⟩
 have Hq:=lh (show ej l r=0 by rw[Ho.o,HE.o,ab (by omega),ab (by omega)]);have hqI:¬(l.length:Int)<(r.length:Int):=by omega
 clear HE Ho;go_wp2;go_ret;exact⟨ew Hq.o.symm,ht⟩
theorem qO(A B:Option Addr)(c1 c2 n m:Nat)(l r:List VD)(hn:l.length=n)(hm:r.length=m)(w:World)(h:eu w A l)(h2:eu w B r)(hl:n<=140737000000000)(hl2:m<=140737000000000): Calls Tryz.prog 81 #[.slice A n c1,.slice B m c2] w λe w'=>e=.returned (.int .i64 (ej l r))/\Touch [] w w':=by have hcf:=rV A B c1 c2 n m l r hn hm w h h2 hl hl2;have Hcf:=lh hcf;clear hcf;go_enter Tryz.func81,Tryz.ntmps81;go_wp2_with fail;refine Hcf.o.mono ?_;rintro e w1 ⟨rfl,t1⟩;go_wp2;go_ret;exact⟨rfl,t1⟩
end
section
open Go.RowKit
structure SL where
 A:Option Addr
 n:Nat
 c:Nat
def eT(s:SL):List Value:=[.slice s.A s.n s.c]
theorem eC(s:SL):(eT s).length=1:=rfl
theorem ia(s:SL):∀u∈eT s,u.oneCell'=true:=by intro u hu;simp only[eT,List.mem_cons,List.not_mem_nil,or_false] at hu;subst hu;rfl
def fX(w:World)(sl:List SL)(rows:List (List VD)):Prop:=sl.length=rows.length/\∀i(h1:i<sl.length)(h2:i<rows.length),sl[i].n=rows[i].length/\eu w sl[i].A rows[i]
def eW(w:World)(B:Option Addr)(rows:List (List VD)):Prop:=∃sl,fX w sl rows/\d9 eT w B sl
theorem eW.touch0{w w':World}{B:Option Addr}{rows:List (List VD)}(h:eW w B rows)(ht:Touch [] w w'):eW w' B rows:=by obtain⟨sl,⟨h1,h2⟩,h3⟩:=h;exact⟨sl,⟨h1,λi a b=>⟨(h2 i a b).1,eu.touch0 (h2 i a b).2 ht⟩⟩,d9.touch0 h3 ht⟩
theorem eW.at_{w:World}{B:Option Addr}{rows:List (List VD)}(h:eW w B rows)(i:Nat)(hi:i<rows.length):∃bd A c,B=some bd/\w.cell? (bd.add i)=some (.slice A rows[i].length c)/\eu w A rows[i]:=by obtain⟨sl,⟨h1,h2⟩,h3⟩:=h;obtain⟨ad,b,off,e1,e2,_,e3⟩:=d9.at_ h3 1 eC (by omega) i (by omega);rw[bO] at e2;have:=h2 i (by omega) hi;refine⟨ad,sl[i].A,sl[i].c,e1, ?_,this.2⟩;rw[e2,<- this.1];exact e3 0 _ rfl
def e_(cs:List CD)(rows:List (List VD)):Int:=if eB cs=0 then (if 4096<rows.length then 31 else if rows.all (fw cs)=true then 0 else 12) else eB cs
def gH(rows:List (List VD)):Bool:=(List.range (rows.length-1)).all λi=>decide (0<=ej (rows.getD (i+1) []) (rows.getD i []))
def ft(cs:List CD)(rows:List (List VD)):Int:=if e_ cs rows=0 then (if gH rows=true then 0 else 20) else e_ cs rows
theorem CK(B:Nat)(SA:Option Addr)(cap n:Nat)(cs:List CD)(hn:cs.length=n)(hok:∀ c∈cs,c.Ok)(hc0:eB cs=0)(A:Option Addr)(c m:Nat)(vs:List VD)(hm:vs.length=m)(hvk:∀ v∈vs,v.Ok 140737000000000)(w:World) (hB:w.cell? ⟨B,0,none⟩=some (.slice SA n cap)) (h:em w SA cs) (hv:eu w A vs) (hl:n<=140737000000000) (hl2:m<=140737000000000) : Calls Tryz.prog 110 #[.slice A m c,.pointer (some ⟨B,0,none⟩)] w λe w'=>e=.returned (.bool (!fw cs vs))/\Touch [] w w':=by
 have hf:=wB SA cap n cs hn hok A c m vs hm hvk w h hv hl hl2;rw[hc0] at hf;have e:(decide ((0:Int)=0)&&fw cs vs)=fw cs vs:=by simp
 rw[e] at hf;have Hf:=lh hf;clear hf e;go_enter Tryz.func110,Tryz.ntmps110;go_wp2_with fail;refine Hf.o.mono ?_;rintro e w1 ⟨rfl,t1⟩;go_wp2;go_ret;exact⟨rfl,t1⟩
theorem zi{cs:List CD}{rows:List (List VD)}{k:Nat}(h:k<rows.length)(hb:fw cs rows[k]=false):rows.all (fw cs)=false:=by rw[List.all_eq_false];exact⟨_,am h,by rw[hb];simp⟩
theorem ux(B:Nat)(SA:Option Addr)(cap n:Nat)(cs:List CD)(hn:cs.length=n)(hok:∀ c∈cs,c.Ok)(hc0:eB cs=0)(A:Option Addr)(c m:Nat)(rows:List (List VD))(hm:rows.length=m)(hvk:∀ r∈rows,r.length<=140737000000000/\∀ v∈r,v.Ok 140737000000000)(w:World) (hB:w.cell? ⟨B,0,none⟩=some (.slice SA n cap)) (h:em w SA cs) (hv:eW w A rows) (hl:n<=140737000000000) (hl2:m<=140737000000000) : Calls Tryz.prog 154 #[.slice A m c,.func (.func 110) #[] #[.pointer (some ⟨B,0,none⟩)]] w λe w'=> (∃i:Int,e=.returned (.int .i64 i) /\ -1<=i/\i<=m/\(decide (0<=i) = !rows.all (fw cs)))/\Touch [] w w':=by
 subst hm;go_enter Tryz.func154,Tryz.ntmps154;go_wp2;go_loopw [8] (λi wr=>∃k:Nat,k<=rows.length/\i=.int .i64 k/\Ga ((rows.take k).all (fw cs)=true)/\Touch [] w wr) (λi _=>rows.length-(intOf i).toNat)
 case atStart=>exact⟨0,by omega,rfl,lh rfl,Touch.refl _ _⟩
 case round =>
 obtain⟨k,hk,rfl,Hall,ht⟩:=hrel;by_cases hlt:k<rows.length
 ·obtain⟨bd,A1,c1,rfl,e0,hr⟩:=(hv.touch0 ht).at_ k hlt;have hvk1:=hvk _ (am hlt);have hno:=zi (cs:=cs) hlt;have hyes:=jt (p:=fw cs) hlt Hall.o;obtain⟨r,hre⟩:∃r,r=rows[k]:=⟨_,rfl⟩;rw[<- hre] at e0 hr hvk1 hno hyes;have hf:=λw'(t:Touch [] wr w')=>CK B SA cap n cs hn hok hc0 A1 c1 r.length r rfl hvk1.2 w' ((ht.trans0 t).cell hB (by simp)) (h.touch0 (ht.trans0 t)) (hr.touch0 t) hl hvk1.1;have Hno:=lh hno;have Hyes:=lh hyes;have hkI:(k:Int)<(rows.length:Int):=by omega
  clear hno hyes hre hr Hall;rcases hb:fw cs r with _|_
  ·rw[hb] at hf;have Hf:=lh hf;have Hs:=lh (Hno.o hb);clear hf hb;go_wp2_with fail;refine(Hf.o _ (by first | exact Touch.refl _ _ | exact(Touch.refl _ _).drewN _)).mono ?_;rintro e w1 ⟨rfl,t1⟩;go_wp2;go_ret;exact⟨⟨k,rfl,by omega,by omega,by rw[Hs.o];simp⟩,ht.trans0 t1⟩
  rw[hb] at hf;have Hf:=lh hf;have Hs:=lh (Hyes.o hb);clear hf hb;go_wp2_with fail;refine(Hf.o _ (by first | exact Touch.refl _ _ | exact(Touch.refl _ _).drewN _)).mono ?_;rintro e w1 ⟨rfl,t1⟩;go_wp2;go_roundw
  case rel=>exact⟨k+1,by omega,by go_num,Hs,ht.trans0 t1⟩
  case measure=>simp[intOf];omega
 obtain rfl:k=rows.length:=by omega
 have hall:=Hall.o;rw[aH] at hall;have Hs:=lh hall;go_wp2;go_ret;exact⟨⟨-1,rfl,by omega,by omega,by rw[Hs.o];rfl⟩,ht⟩
end
end Go.Proofs.YtafoklilkdnepaaGreatDoor
