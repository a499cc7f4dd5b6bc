/- Part 30 of the texts of this proof, one behind the other. No condition beyond those that its theorems state. -/
import Derived.Test.YtafoklilkdnepaaGreatDoorRe29
set_option linter.all false
set_option maxRecDepth 40000
set_option maxHeartbeats 25600000
namespace Go.Proofs.YtafoklilkdnepaaGreatDoor
section
open Go.RowKit
abbrev RP:=SL × List VD
def jr(p:RP):List Value:=eT p.1
theorem il(p:RP):(jr p).length=1:=rfl
theorem j5(p:RP):∀u∈jr p,u.oneCell'=true:=ia p.1
def pL(w:World)(p:RP):Prop:=p.1.n=p.2.length/\eu w p.1.A p.2
theorem pL.touch0{w w':World}{p:RP}(h:pL w p)(t:Touch [] w w'):pL w' p:=⟨h.1,eu.touch0 h.2 t⟩
structure RowP (w:World) (A:Option Addr) (P:List RP):Prop where
 rd:d9 jr w A P
 vs:∀p∈P,pL w p
theorem RowP.touch0{w w':World}{A:Option Addr}{P:List RP}(h:RowP w A P)(t:Touch [] w w'):RowP w' A P:=⟨d9.touch0 h.rd t,λp hp=>(h.vs p hp).touch0 t⟩
theorem xK(P:List RP):P.flatMap jr=(P.map (·.1)).flatMap eT:=by
 induction P with
 |nil=>rfl
 |cons a l ih=>rw[bB,cx,bB,ih];rfl
theorem RowP.rows{w:World}{A:Option Addr}{P:List RP}(h:RowP w A P):eW w A (P.map (·.2)):=
 ⟨P.map (·.1),⟨by simp,λi h1 h2=>by
  have hi:i<P.length:=by simpa using h1
  have:=h.vs P[i] (am hi);simpa [pL] using this⟩,by
  have:=h.rd;unfold d9 at this ⊢;rw[<- xK];exact this⟩
theorem RowP.of{w:World}{A:Option Addr}{rows:List (List VD)}(h:eW w A rows):∃P:List RP,P.map (·.2)=rows/\RowP w A P:=by
 obtain⟨sl,⟨h1,h2⟩,h3⟩:=h;have e1:(sl.zip rows).map (·.1)=sl:=List.map_fst_zip (by omega);have e2:(sl.zip rows).map (·.2)=rows:=List.map_snd_zip (by omega);refine⟨sl.zip rows,e2,⟨?_,λp hp=> ?_⟩⟩
 ·unfold d9 at h3 ⊢;rw[xK,e1];exact h3
 obtain⟨i,hi,rfl⟩:=aU.1 hp;rw[dI] at hi;have:=h2 i (by omega) (by omega);rw[List.getElem_zip];exact this
theorem ku{w:World}{A:Option Addr}{P:List RP}(h:d9 jr w A P)(k:Nat)(hk:k<P.length):∃bd,A=some bd/\w.cell? (bd.add k)=some (.slice P[k].1.A P[k].1.n P[k].1.c):=by obtain⟨ad,b,off,e1,e2,e3⟩:=d9.cells h 1 il (by omega) k hk;rw[bO] at e2;refine⟨ad,e1, ?_⟩;rw[e2];exact e3 0 _ rfl
def mm(P:List RP):Prop:=∀p∈P,p.2.length<=140737000000000/\∀v∈p.2,v.Ok 140737000000000
theorem mm.sub{P Q:List RP}(h:mm P)(hs:∀ p∈Q,p∈P):mm Q:=λp hp=>h p (hs p hp)
end
section
open Go.RowKit
def jC(p:RP)(s:List RP × Bool)(q:RP):List RP × Bool:=if s.2=false/\ej p.2 q.2<0 then (s.1++[p,q],true) else (s.1++[q],s.2)
def ke(Q:List RP)(p:RP):List RP:=if (Q.foldl (jC p) ([],false)).2=true then (Q.foldl (jC p) ([],false)).1 else (Q.foldl (jC p) ([],false)).1++[p]
def gz(P:List RP):List RP:=P.foldl ke []
theorem xL(p:RP):∀(Q:List RP)(s:List RP × Bool),(Q.foldl (jC p) s).1.length+(if s.2=true then 1 else 0)=s.1.length+Q.length+(if (Q.foldl (jC p) s).2=true then 1 else 0)
 | [],s=>rfl
 |q:: Q,s=>by
  rw[bX];have ih:=xL p Q (jC p s q);unfold jC at ih ⊢;by_cases h:s.2=false/\ej p.2 q.2<0
  ·rw[ae h] at ih ⊢;simp only[h.1,List.length_append,List.length_cons,List.length_nil,if_true,Bool.false_eq_true,if_false] at ih ⊢;omega
  rw[ab h] at ih ⊢;simp only[List.length_append,List.length_cons,List.length_nil] at ih ⊢;omega
theorem nM(Q:List RP)(p:RP):(ke Q p).length=Q.length+1:=by
 have:=xL p Q ([],false);unfold ke;simp only[Bool.false_eq_true,if_false,List.length_nil] at this;split
 ·rename_i h;rw[ae h] at this;omega
 rename_i h;rw[ab h] at this;rw[az,dB];omega
theorem xt(P:List RP)(p:RP):gz (P++[p])=ke (gz P) p:=by unfold gz;rw[cX];rfl
theorem mj:∀(P:List RP),(gz P).length=P.length:=by
 have key:∀(P acc:List RP),(P.foldl ke acc).length=acc.length+P.length:=by
  intro P;induction P with
  |nil=>intro acc;simp
  |cons p P ih=>intro acc;rw[bX,ih,nM,bK];omega
 intro P;rw[gz,key];simp
theorem sY(p:RP):∀(Q:List RP)(s:List RP × Bool)(x:RP),x∈(Q.foldl (jC p) s).1->x∈s.1\/x∈Q\/x=p
 | [],s,x,h=>.inl h
 |q:: Q,s,x,h=>by
  rw[bX] at h;rcases sY p Q _ x h with h|h|h
  ·unfold jC at h;split at h
   ·simp only[List.mem_append,List.mem_cons,List.not_mem_nil,or_false] at h;rcases h with h|h|h
    ·exact .inl h
    ·exact .inr (.inr h)
    exact .inr (.inl (h ▸ aK))
   simp only[List.mem_append,List.mem_cons,List.not_mem_nil,or_false] at h;rcases h with h|h
   ·exact .inl h
   exact .inr (.inl (h ▸ aK))
  ·exact .inr (.inl (aP _ h))
  exact .inr (.inr h)
theorem Dr{Q:List RP}{p x:RP}(h:x∈ke Q p):x∈Q\/x=p:=by
 unfold ke at h;split at h
 ·rcases sY p Q _ x h with h | h
  ·simp at h
  exact h
 rcases aZ.1 h with h | h
 ·rcases sY p Q _ x h with h | h
  ·simp at h
  exact h
 exact .inr (by simpa using h)
theorem oS{P:List RP}{x:RP}(h:x∈gz P):x∈P:=by
 have key:∀(P acc:List RP),x∈P.foldl ke acc->x∈acc\/x∈P:=by
  intro P;induction P with
  |nil=>intro acc h;exact .inl h
  |cons p P ih =>
   intro acc h
   rw[bX] at h
   rcases ih _ h with h|h
   ·rcases Dr h with h | h
    ·exact .inl h
    exact .inr (h ▸ aK)
   ·exact .inr (aP _ h)
 rcases key P [] h with h|h
 ·simp at h
 exact h
theorem yI(A:Option Addr)(c n:Nat)(P:List RP)(hn:P.length=n)(hl:n<=100000)(hok:mm P)(w:World)(h:RowP w A P): Calls Tryz.prog 49 #[.slice A n c] w λe w'=>∃B c',e=.returned (.slice B n c')/\RowP w' B (gz P)/\Touch [] w w':=by
 subst hn;have HP:=lh h;have Hok:=lh hok;clear h hok;go_enter Tryz.func49,Tryz.ntmps49;go_wp2_with fail;go_loopw [3,4] (λov iv wr=>∃(k:Nat)(O:Option Addr)(oc:Nat),k<=P.length/\iv=.int .i64 k/\ov=.slice O k oc/\Ga (d9 jr wr O (gz (P.take k))/\Touch [] w wr)) (λ_ i _=>P.length-(intOf i).toNat)
 case atStart=>exact⟨0,none,0,by omega,rfl,rfl,lh ⟨d9.nil _ _ _,Touch.refl _ _⟩⟩
 case round =>
 obtain⟨k,O,oc,hk,rfl,rfl,HK⟩:=hrel;by_cases hlt:k<P.length
 ·obtain⟨bd,rfl,e0⟩:=ku (d9.touch0 HP.o.rd HK.o.2) k hlt;have Hsn:=lh (show gz (P.take (k+1))=ke (gz (P.take k)) P[k] by rw[au hlt,xt]);have hpv:=HP.o.vs _ (am hlt);have hpo:=Hok.o _ (am hlt);obtain⟨p,hp⟩:∃p,p=P[k]:=⟨_,rfl⟩;rw[<- hp] at e0 Hsn hpv hpo;have hQl:(gz (P.take k)).length=k:=by rw[mj,aO];omega
  have hQv:=lh (show ∀q∈gz (P.take k),pL w q/\q.2.length<=140737000000000/\∀v∈q.2,v.Ok 140737000000000 from λq hq=>⟨HP.o.vs _ (da (oS hq)),Hok.o _ (da (oS hq))⟩);obtain⟨Q,hQ⟩:∃Q,Q=gz (P.take k):=⟨_,rfl⟩;rw[<- hQ] at HK Hsn hQl hQv;have HPV:=Gb hpv hpo;have hkn:(k:Int)<(P.length:Int):=by omega
  obtain⟨⟨pA,pn,pc⟩,pl⟩:=p;obtain rfl:pn=pl.length:=hpv.1;obtain⟨wo,hwo⟩:∃wo,wo=wr:=⟨_,rfl⟩;subst hwo;dsimp only at e0;have E0:=lh e0;have Hrow:=lh λ(w':World)=>d9.one (enc:=jr) w' 105 (⟨pA,pl.length,pc⟩,pl) #[.slice pA pl.length pc] rfl;clear hp hQ hpv hpo e0;go_wp2_with fail;go_loopw [5,6,7] (λnv pv jv wr=>∃(j:Nat)(nx:List RP)(pt:Bool)(N:Option Addr)(nc m:Nat),j<=k/\jv=.int .i64 j/\pv=.bool pt/\nv=.slice N m nc/\m<=2*j/\Ga ((Q.take j).foldl (jC (⟨pA,pl.length,pc⟩,pl)) ([],false)=(nx,pt)/\nx.length=m)/\Ga (Made 105 1 jr nx N nc wo wr)) (λ_ _ i _=>k-(intOf i).toNat)
  case atStart=>exact⟨0,[],false,none,0,0,by omega,rfl,rfl,rfl,by omega,lh ⟨rfl,rfl⟩,lh (Made.nil _ _ _ _)⟩
  case round =>
  obtain⟨j,nx,pt,N,nc,m,hj,rfl,rfl,rfl,hm,HS,HM⟩:=hrel;by_cases hjl:j<k
  ·obtain⟨bo,rfl,e1⟩:=ku HK.o.1 j (by omega);have Hst:=lh (show (Q.take (j+1)).foldl (jC (⟨pA,pl.length,pc⟩,pl)) ([],false)=jC (⟨pA,pl.length,pc⟩,pl) (nx,pt) (Q[j]'(by omega)) by rw[au (by omega),cX,HS.o.1];rfl)
   have hqv:=hQv.o _ (am (show j<Q.length by omega));obtain⟨q,hq⟩:∃q,q=Q[j]'(by omega):=⟨_,rfl⟩;rw[<- hq] at e1 Hst hqv;obtain⟨⟨qA,qn,qc⟩,ql⟩:=q;obtain⟨⟨hqn,hqa⟩,hq1,hq2⟩:=hqv;dsimp only at hqn hqa hq1 hq2 e1;subst hqn;have Hcv:=lh λw'(t:Touch [] wr w')=>jN pA qA pc qc pl.length ql.length pl ql rfl rfl HPV.o.2.2 hq2 w' (HPV.o.1.2.touch0 (HK.o.2.trans0 (HM.o.t.trans0 t))) (hqa.touch0 (HK.o.2.trans0 (HM.o.t.trans0 t))) HPV.o.2.1 hq1;have hjI:(j:Int)<(k:Int):=by omega
   have Hroq:=lh λ(w':World)=>d9.one (enc:=jr) w' 105 (⟨qA,ql.length,qc⟩,ql) #[.slice qA ql.length qc] rfl;have Hm:=lh (show m<=200000+2*j/\m<=2*j from ⟨by omega,hm⟩);have E1:=lh e1;have g0:=TW.cell (HM.o.t.cell E0.o (by simp));have g1:=TW.cell (HM.o.t.cell e1 (by simp));clear hq hqa hq1 hq2 hm e1;by_cases hpt:pt=true
   ·as_aux_lemma =>
    obtain rfl:=hpt;have hst:jC (⟨pA,pl.length,pc⟩,pl) (nx,true) (⟨qA,ql.length,qc⟩,ql)=(nx++[(⟨qA,ql.length,qc⟩,ql)],true):=by unfold jC;rw[ab (by simp)]
    rw[hst] at Hst;clear hst;go_wp2_with fail;refine eh wr (Touch.refl _ _) (by kernel_rfl) (by kernel_rfl) ?_;repeat (go_big_quiet_step ((fail)))
    refine aS ?_;rintro wq ⟨⟨_,tq⟩,rfl⟩;have HTq:=lh tq;clear tq g0 g1;have e1:=(HM.o.t.trans0 HTq.o).cell E1.o (by simp);go_wp2_with (at_builtin;refine ez ?_);refine go ?_;refine eb (enc:=jr) rfl (.tmp 41) (.tmp 46) 66 rfl 105 _ 1 24 gh cl rfl (by omega) il j5 N m nc nx HS.o.2 rfl ((HM.o.touch0 (HTq.o.alloc _)).own) (some ⟨wq.heap.size,0,none⟩) 1 1 [(⟨qA,ql.length,qc⟩,ql)] rfl rfl (Hroq.o wq) (by have:=Hm.o;omega) (by omega) ?_;intro N3 nc3 w3 hO t f;have HM3:=lh ((HM.o.touch0 (HTq.o.alloc _)).step hO t f);clear hO t f;go_wp2_with fail;go_roundw
    case rel=>exact⟨j+1,nx++[(⟨qA,ql.length,qc⟩,ql)],true,N3,nc3,_,by omega,by go_num,rfl,rfl,by have:=Hm.o;omega,lh ⟨by rw[Hst.o],by simp[HS.o.2]⟩,HM3⟩
    case measure=>simp[intOf];omega
   obtain rfl:pt=false:=by simpa using hpt
   clear hpt;by_cases hneg:ej pl ql<0
   ·as_aux_lemma =>
    have hst:jC (⟨pA,pl.length,pc⟩,pl) (nx,false) (⟨qA,ql.length,qc⟩,ql)=((nx++[(⟨pA,pl.length,pc⟩,pl)])++[(⟨qA,ql.length,qc⟩,ql)],true):=by unfold jC;rw[ae ⟨rfl,hneg⟩];simp
    rw[hst] at Hst;obtain⟨x,hx⟩:∃x,x=ej pl ql:=⟨_,rfl⟩;rw[<- hx] at Hcv hneg;clear hst hx;go_wp2_with fail;refine eh wr (Touch.refl _ _) (by kernel_rfl) (by kernel_rfl) ?_;repeat (go_big_quiet_step (((go_at_call 51;exact Calls.tw _ (Hcv.o _ (TW.t _))))))
    refine aS ?_;rintro wq ⟨⟨_,tq⟩,rfl⟩;have HTq:=lh tq;clear tq g0 g1;have e0:=(HM.o.t.trans0 HTq.o).cell E0.o (by simp);go_wp2_with (at_builtin;refine ez ?_);refine go ?_;refine eb (enc:=jr) rfl (.tmp 34) (.tmp 39) 66 rfl 105 _ 1 24 gh cl rfl (by omega) il j5 N m nc nx HS.o.2 rfl ((HM.o.touch0 (HTq.o.alloc _)).own) (some ⟨wq.heap.size,0,none⟩) 1 1 [(⟨pA,pl.length,pc⟩,pl)] rfl rfl (Hrow.o wq) (by have:=Hm.o;omega) (by omega) ?_;intro N2 nc2 w2 hO t f;have HM2:=lh ((HM.o.touch0 (HTq.o.alloc _)).step hO t f);clear hO t f;have e1:=HM2.o.t.cell E1.o (by simp);clear e0;have hl2:(nx++([(⟨pA,pl.length,pc⟩,pl)]:List RP)).length=m+1:=by simp[HS.o.2]
    go_wp2_with (at_builtin;refine ez ?_);refine go ?_;refine eb (enc:=jr) rfl (.tmp 41) (.tmp 46) 66 rfl 105 _ 1 24 gh cl rfl (by omega) il j5 N2 (m+1) nc2 (nx++([(⟨pA,pl.length,pc⟩,pl)]:List RP)) hl2 rfl ((HM2.o.touch0 ((Touch.refl [] w2).alloc _)).own) (some ⟨w2.heap.size,0,none⟩) 1 1 [(⟨qA,ql.length,qc⟩,ql)] rfl rfl (Hroq.o w2) (by have:=Hm.o;omega) (by omega) ?_;intro N3 nc3 w3 hO t f;have HM3:=lh ((HM2.o.touch0 ((Touch.refl [] w2).alloc _)).step hO t f);clear hO t f;go_wp2_with fail;go_roundw
    case rel=>exact⟨j+1,(nx++[(⟨pA,pl.length,pc⟩,pl)])++[(⟨qA,ql.length,qc⟩,ql)],true,N3,nc3,_,by omega,by go_num,rfl,rfl,by have:=Hm.o;omega,lh ⟨by rw[Hst.o],by simp[HS.o.2]⟩,HM3⟩
    case measure=>simp[intOf];omega
   as_aux_lemma =>
   have hst:jC (⟨pA,pl.length,pc⟩,pl) (nx,false) (⟨qA,ql.length,qc⟩,ql)=(nx++[(⟨qA,ql.length,qc⟩,ql)],false):=by unfold jC;rw[ab (by rintro⟨-,h⟩;exact hneg h)]
   rw[hst] at Hst;obtain⟨x,hx⟩:∃x,x=ej pl ql:=⟨_,rfl⟩;rw[<- hx] at Hcv hneg;clear hst hx;go_wp2_with fail;refine eh wr (Touch.refl _ _) (by kernel_rfl) (by kernel_rfl) ?_;repeat (go_big_quiet_step (((go_at_call 51;exact Calls.tw _ (Hcv.o _ (TW.t _))))))
   refine aS ?_;rintro wq ⟨⟨_,tq⟩,rfl⟩;have HTq:=lh tq;clear tq g0 g1;have e1:=(HM.o.t.trans0 HTq.o).cell E1.o (by simp);go_wp2_with (at_builtin;refine ez ?_);refine go ?_;refine eb (enc:=jr) rfl (.tmp 41) (.tmp 46) 66 rfl 105 _ 1 24 gh cl rfl (by omega) il j5 N m nc nx HS.o.2 rfl ((HM.o.touch0 (HTq.o.alloc _)).own) (some ⟨wq.heap.size,0,none⟩) 1 1 [(⟨qA,ql.length,qc⟩,ql)] rfl rfl (Hroq.o wq) (by have:=Hm.o;omega) (by omega) ?_;intro N3 nc3 w3 hO t f;have HM3:=lh ((HM.o.touch0 (HTq.o.alloc _)).step hO t f);clear hO t f;go_wp2_with fail;go_roundw
   case rel=>exact⟨j+1,nx++[(⟨qA,ql.length,qc⟩,ql)],false,N3,nc3,_,by omega,by go_num,rfl,rfl,by have:=Hm.o;omega,lh ⟨by rw[Hst.o],by simp[HS.o.2]⟩,HM3⟩
   case measure=>simp[intOf];omega
  obtain rfl:k=j:=by omega
  rw[<- hQl,aH] at HS;by_cases hpt:pt=true
  ·subst hpt;have Hi:=lh (show ke Q (⟨pA,pl.length,pc⟩,pl)=nx by unfold ke;rw[HS.o.1];rfl);obtain rfl:m=k+1:=by have h1:=nM Q (⟨pA,pl.length,pc⟩,pl);have h2:=HS.o.2;rw[Hi.o] at h1;omega
   go_wp2_with fail;go_roundw
   case rel=>exact⟨k+1,N,nc,by omega,by go_num,rfl,lh ⟨by rw[Hsn.o,Hi.o];exact HM.o.own.rd,HK.o.2.trans0 HM.o.t⟩⟩
   case measure=>simp[intOf];omega
  obtain rfl:pt=false:=by simpa using hpt
  have Hi:=lh (show ke Q (⟨pA,pl.length,pc⟩,pl)=nx++[(⟨pA,pl.length,pc⟩,pl)] by unfold ke;rw[HS.o.1];rfl);obtain rfl:k=m:=by have h1:=nM Q (⟨pA,pl.length,pc⟩,pl);have h2:=HS.o.2;rw[Hi.o,az,dB] at h1;omega
  have e0:=HM.o.t.cell E0.o (by simp);go_wp2_with (at_builtin;refine ez ?_);refine go ?_;refine eb (enc:=jr) rfl (.tmp 50) (.tmp 55) 66 rfl 105 _ 1 24 gh cl rfl (by omega) il j5 N k nc nx HS.o.2 rfl ((HM.o.touch0 ((Touch.refl [] wr).alloc _)).own) (some ⟨wr.heap.size,0,none⟩) 1 1 [(⟨pA,pl.length,pc⟩,pl)] rfl rfl (Hrow.o wr) (by omega) (by omega) ?_;intro N3 nc3 w3 hO t f;have HM3:=lh ((HM.o.touch0 ((Touch.refl [] wr).alloc _)).step hO t f);clear hO t f;go_wp2_with fail;go_roundw
  case rel=>exact⟨k+1,N3,nc3,by omega,by go_num,rfl,lh ⟨by rw[Hsn.o,Hi.o];exact HM3.o.own.rd,HK.o.2.trans0 HM3.o.t⟩⟩
  case measure=>simp[intOf];omega
 obtain rfl:k=P.length:=by omega
 rw[aH] at HK;go_wp2_with fail;go_ret;exact⟨O,oc,rfl,⟨HK.o.1,λp hp=>(HP.o.vs p (oS hp)).touch0 HK.o.2⟩,HK.o.2⟩
end
section
open Go.RowKit
theorem FC(s r:SL)(cs:List CD)(ra rows:List (List VD))(B:Option Addr)(m c:Nat)(w:World)(hT:TabAt w s r cs ra)(hck:ft cs ra=0)(hok:∀ c∈cs,c.Ok)(hl1:cs.length<=1000000)(hl2:ra.length<=100000)(hrk:fe ra)(hrl:gR ra)(hm:rows.length=m)(hR:eW w B rows)(hro:fe rows) (hS:∀P:List RP,P.map (·.2)=rows->(gz P).map (·.2)=ra) : Calls Tryz.prog 22 #[.agg #[.slice s.A s.n s.c,.slice r.A r.n r.c],.slice B m c] w λe w'=>e=.returned (.bool true)/\Touch [] w w':=by
 obtain⟨P,hP,hRP⟩:=RowP.of hR;have hPl:P.length=m:=by rw[<- hm,<- hP,ay]
 have hS:=hS P hP;have hml:m=ra.length:=by rw[<- hPl,<- hS,ay,mj]
 have hPo:mm P:=λp hp=>hro _ (hP ▸ aJ.2 ⟨p,hp,rfl⟩);have HT:=lh hT;have HS:=lh hS;have HK:=Gc hok hrk hrl;have Hck:=lh hck;have HPO:=Gc hPl hPo hRP;obtain⟨tn, -, -,tm, -⟩:=hT;obtain⟨sA,sn,sc⟩:=s;obtain⟨rA,rn,rc⟩:=r;dsimp only at tn tm;subst tn tm hml;clear hck hok hrk hrl hm hR hro hP hRP hPl hS hPo;obtain⟨W,hW⟩:∃W,W=w.alloc (.cells #[.slice sA cs.length sc,.slice rA ra.length rc] 27):=⟨_,rfl⟩;have t0:Touch [] w W:=hW ▸ (Touch.refl [] w).alloc _;have hb0:W.heap[w.heap.size]?=some (.cells #[.slice sA cs.length sc,.slice rA ra.length rc] 27 (0,0)):=hW ▸ ah w _;have HW:=lh hW;have HT0:=Gb t0 hb0;obtain⟨x0,x1, -, -⟩:=eL hb0;clear hW t0 hb0;have Hrf:=lh λw'(t:Touch [] W w')=>jw rA rc ra.length ra rfl (by omega) HK.o.2.2 w' ((HT.o.rws).touch0 (HT0.o.1.trans0 t));have Hso:=lh λw'(t:Touch [] W w')=>yI B c ra.length P HPO.o.1 (by omega) HPO.o.2.1 w' (HPO.o.2.2.touch0 (HT0.o.1.trans0 t));have Hch:=lh λw'(t:Touch [] W w')=>rK sA sc cs.length cs rfl HK.o.1 rA rc ra.length ra rfl HK.o.2.1 w' ((HT.o.cols).touch0 (HT0.o.1.trans0 t)) ((HT.o.rws).touch0 (HT0.o.1.trans0 t)) (by omega) (by omega);rw[Hck.o] at Hch;go_enter Tryz.func22,Tryz.ntmps22;go_upto_region 1 with fail;rw[<- HW.o];go_wp2_with fail;refine(Hrf.o _ (Touch.refl _ _)).mono ?_;rintro e1 w1 ⟨B1,c1,rfl,ho,t1,hf⟩;have H1:=Gb ho.rowsAt t1;clear ho t1 hf x0 x1;go_wp2_with fail;refine(Hso.o _ H1.o.2).mono ?_;rintro e2 w2 ⟨B2,c2,rfl,hRS,t2⟩;have H2:=Gc hRS.rd hRS.vs t2
 have T2:=lh (H1.o.2.trans0 t2);clear hRS t2;obtain⟨x0,x1, -, -⟩:=eL (T2.o.blk HT0.o.2 (by simp));have hne:((ra.length:Int)==(ra.length:Int))=true:=by simp
 have hne2:((ra.length:Int) != (ra.length:Int))=false:=by simp
 go_wp2_with fail;refine(Hch.o _ T2.o).mono ?_;rintro e3 w3 ⟨rfl,t3⟩;have T3:=lh (T2.o.trans0 t3);have T23:=lh t3;clear t3 x0 x1 hne hne2;go_wp2_with fail;go_loopw [25] (λi wr=>∃k:Nat,k<=ra.length/\i=.int .i64 k/\Ga (Touch [] w3 wr)) (λi _=>ra.length-(intOf i).toNat)
 case atStart=>exact⟨0,by omega,rfl,lh (Touch.refl _ _)⟩
 case round =>
 obtain⟨k,hk,rfl,HTk⟩:=hrel;by_cases hlt:k<ra.length
 ·have T1r:=H2.o.2.2.trans0 (T23.o.trans0 HTk.o);obtain⟨bd,A1,d1,rfl,e1,hr1⟩:=(H1.o.1.touch0 T1r).at_ k hlt;have hsl:k<(gz P).length:=by rw[mj,HPO.o.1];exact hlt
  obtain⟨be,rfl,e2⟩:=ku (d9.touch0 H2.o.1 (T23.o.trans0 HTk.o)) k hsl;have hv2:=(H2.o.2.1 _ (am hsl)).touch0 (T23.o.trans0 HTk.o);have hrk:=HK.o.2.1 _ (am hlt);have hsame:((gz P)[k]).2=ra[k]:=by
   have h1:((gz P).map (·.2))[k]'(by rw[ay];exact hsl)=ra[k]:=by simp only[HS.o]
   rwa[aW] at h1
  obtain⟨q,hq⟩:∃q,q=(gz P)[k]:=⟨_,rfl⟩;rw[<- hq] at e2 hv2 hsame;obtain⟨⟨qA,qn,qc⟩,ql⟩:=q;obtain⟨hqn,hqv⟩:=hv2;dsimp only at hqn hqv hsame e2;subst hqn;obtain⟨row,hrow⟩:∃row,row=ra[k]:=⟨_,rfl⟩;rw[<- hrow] at e1 hr1 hrk hsame;subst hsame;have hcv:=λw'(t:Touch [] wr w')=>jN A1 qA d1 qc ql.length ql.length ql ql rfl rfl hrk.2 hrk.2 w' (hr1.touch0 t) (hqv.touch0 t) hrk.1 hrk.1;rw[show ej ql ql=0 by have:=fL ql ql;omega] at hcv;have Hcv:=lh hcv;have hki:(k:Int)<(ra.length:Int):=by omega
  have g1:=TW.cell e1;have g2:=TW.cell e2;clear hcv hq hrow e1 e2 hr1 hqv hrk T1r;go_wp2_with fail;refine eh wr (Touch.refl _ _) (by kernel_rfl) (by kernel_rfl) ?_;repeat (go_big_quiet_step (((go_at_call 51;exact Calls.tw _ (Hcv.o _ (TW.t _))))))
  refine aS ?_;rintro wq ⟨⟨_,tq⟩,rfl⟩;have HTq:=lh tq;clear g1 g2 tq;go_wp2_with fail;go_roundw
  case rel=>exact⟨k+1,by omega,by go_num,lh (HTk.o.trans0 HTq.o)⟩
  case measure=>simp[intOf];omega
 have q0:((k:Int)<(ra.length:Int))=False:=bi (by omega);go_wp2_with fail;go_ret;exact⟨rfl,HT0.o.1.trans0 (T3.o.trans0 HTk.o)⟩
end
section
open Go.RowKit
def ml(O:List RP)(p:RP):List RP:=if O.any (λq=>decide (ej q.2 p.2=0))=true then O else O++[p]
def lQ(P:List RP):List RP:=P.foldl ml []
theorem Bn(P:List RP)(p:RP):lQ (P++[p])=ml (lQ P) p:=by unfold lQ;rw[cX];rfl
theorem Cr{O:List RP}{p x:RP}(h:x∈ml O p):x∈O\/x=p:=by
 unfold ml at h;split at h
 ·exact .inl h
 rcases aZ.1 h with h | h
 ·exact .inl h
 exact .inr (by simpa using h)
theorem qW{P:List RP}{x:RP}(h:x∈lQ P):x∈P:=by
 have key:∀(P acc:List RP),x∈P.foldl ml acc->x∈acc\/x∈P:=by
  intro P;induction P with
  |nil=>intro acc h;exact .inl h
  |cons p P ih =>
   intro acc h
   rw[bX] at h
   rcases ih _ h with h|h
   ·rcases Cr h with h | h
    ·exact .inl h
    exact .inr (h ▸ aK)
   ·exact .inr (aP _ h)
 rcases key P [] h with h|h
 ·simp at h
 exact h
theorem Dt{α:Type}(l:List α)(a:α)(f:α->Bool):(l++[a]).any f=(l.any f||f a):=by simp
theorem uB(A:Option Addr)(c n:Nat)(P:List RP)(hn:P.length=n)(hl:n<=100000)(hok:mm P)(w:World)(h:RowP w A P): Calls Tryz.prog 47 #[.slice A n c] w λe w'=>∃B c' m,e=.returned (.slice B m c')/\m=(lQ P).length/\RowP w' B (lQ P)/\Touch [] w w':=by
 subst hn;have HP:=lh h;have Hok:=lh hok;clear h hok;go_enter Tryz.func47,Tryz.ntmps47;go_wp2_with fail;go_loopw [3,4] (λov iv wr=>∃(k m:Nat)(O:Option Addr)(oc:Nat),k<=P.length/\iv=.int .i64 k/\ov=.slice O m oc/\m<=k/\Ga (m=(lQ (P.take k)).length/\Made 105 1 jr (lQ (P.take k)) O oc w wr)) (λ_ i _=>P.length-(intOf i).toNat)
 case atStart=>exact⟨0,0,none,0,by omega,rfl,rfl,by omega,lh ⟨rfl,Made.nil _ _ _ _⟩⟩
 case round =>
 obtain⟨k,m,O,oc,hk,rfl,rfl,hm,HK⟩:=hrel;by_cases hlt:k<P.length
 ·obtain⟨bd,rfl,e0⟩:=ku (d9.touch0 HP.o.rd HK.o.2.t) k hlt;have Hsn:=lh (show lQ (P.take (k+1))=ml (lQ (P.take k)) P[k] by rw[au hlt,Bn]);have hpv:=HP.o.vs _ (am hlt);have hpo:=Hok.o _ (am hlt);obtain⟨p,hp⟩:∃p,p=P[k]:=⟨_,rfl⟩;rw[<- hp] at e0 Hsn hpv hpo;have hQv:=lh (show ∀q∈lQ (P.take k),pL w q/\q.2.length<=140737000000000/\∀v∈q.2,v.Ok 140737000000000 from λq hq=>⟨HP.o.vs _ (da (qW hq)),Hok.o _ (da (qW hq))⟩);obtain⟨Q,hQ⟩:∃Q,Q=lQ (P.take k):=⟨_,rfl⟩;rw[<- hQ] at HK Hsn hQv;have hQl:Q.length=m:=HK.o.1.symm;have hmb:m<=100000:=by omega
  have HPV:=Gb hpv hpo;have hkn:(k:Int)<(P.length:Int):=by omega
  obtain⟨⟨pA,pn,pc⟩,pl⟩:=p;obtain rfl:pn=pl.length:=hpv.1;obtain⟨wo,hwo⟩:∃wo,wo=wr:=⟨_,rfl⟩;subst hwo;dsimp only at e0;have E0:=lh e0;have Hrow:=lh λ(w':World)=>d9.one (enc:=jr) w' 105 (⟨pA,pl.length,pc⟩,pl) #[.slice pA pl.length pc] rfl;have Hm:=lh hm;clear hp hQ hpv hpo e0 hm;go_wp2_with fail;go_loopw [5,6] (λbv jv wr=>∃(j:Nat)(b:Bool),j<=m/\jv=.int .i64 j/\bv=.bool b/\Ga (b=(Q.take j).any λq=>decide (ej q.2 pl=0))/\Ga (Touch [] wo wr)) (λ_ i _=>m-(intOf i).toNat)
  case atStart=>exact⟨0,false,by omega,rfl,rfl,lh (by simp),lh (Touch.refl _ _)⟩
  case round =>
  obtain⟨j,b,hj,rfl,rfl,HS,HT⟩:=hrel;by_cases hjl:j<m
  ·obtain⟨bo,rfl,e1⟩:=ku HK.o.2.own.rd j (by omega);have Hst:=lh (show (Q.take (j+1)).any (λq=>decide (ej q.2 pl=0))=(b||decide (ej (Q[j]'(by omega)).2 pl=0)) by rw[au (by omega),Dt,<- HS.o])
   have hqv:=hQv.o _ (am (show j<Q.length by omega));obtain⟨q,hq⟩:∃q,q=Q[j]'(by omega):=⟨_,rfl⟩;rw[<- hq] at e1 Hst hqv;obtain⟨⟨qA,qn,qc⟩,ql⟩:=q;obtain⟨⟨hqn,hqa⟩,hq1,hq2⟩:=hqv;dsimp only at hqn hqa hq1 hq2 e1 Hst;subst hqn;have Hcv:=lh λw'(t:Touch [] wr w')=>jN qA pA qc pc ql.length pl.length ql pl rfl rfl hq2 HPV.o.2.2 w' (hqa.touch0 (HK.o.2.t.trans0 (HT.o.trans0 t))) (HPV.o.1.2.touch0 (HK.o.2.t.trans0 (HT.o.trans0 t))) hq1 HPV.o.2.1;obtain⟨x,hx⟩:∃x,x=ej ql pl:=⟨_,rfl⟩;rw[<- hx] at Hst Hcv;have hjI:(j:Int)<(m:Int):=by omega
   have g0:=TW.cell (HT.o.cell E0.o (by simp));have g1:=TW.cell (HT.o.cell e1 (by simp));have hd:(x==0)=decide (x=0):=by by_cases h:x=0<;>simp[h]
   have Hd:=lh hd;clear hq hqa hq1 hq2 e1 hx hd;by_cases hb:b=true
   ·subst hb;rw[Bool.true_or] at Hst;go_wp2_with fail;refine eh wr (Touch.refl _ _) (by kernel_rfl) (by kernel_rfl) ?_;repeat (go_big_quiet_step (fail))
    refine aS ?_;rintro wq ⟨⟨_,tq⟩,rfl⟩;have HTq:=lh tq;clear tq g0 g1;go_wp2_with fail;go_roundw
    case rel=>exact⟨j+1,true,by omega,by go_num,rfl,lh Hst.o.symm,lh (HT.o.trans0 HTq.o)⟩
    case measure=>simp[intOf];omega
   obtain rfl:b=false:=by simpa using hb
   rw[Bool.false_or] at Hst;clear hb;go_wp2_with fail;refine eh wr (Touch.refl _ _) (by kernel_rfl) (by kernel_rfl) ?_;repeat (go_big_quiet_step (((go_at_call 51;exact Calls.tw _ (Hcv.o _ (TW.t _))))))
   refine aS ?_;rintro wq ⟨⟨_,tq⟩,rfl⟩;have HTq:=lh tq;clear tq g0 g1;go_wp2_with fail;go_roundw
   case rel=>exact⟨j+1,_,by omega,by go_num,rfl,lh (by rw[Hst.o,<- Hd.o]),lh (HT.o.trans0 HTq.o)⟩
   case measure=>simp[intOf];omega
  obtain rfl:m=j:=by omega
  rw[<- hQl,aH] at HS;by_cases hb:b=true
  ·subst hb;have Hi:=lh (show ml Q (⟨pA,pl.length,pc⟩,pl)=Q by unfold ml;rw[<- HS.o];rfl);go_wp2_with fail;go_roundw
   case rel=>exact⟨k+1,m,O,oc,by omega,by go_num,rfl,by have:=Hm.o;omega,lh ⟨by rw[Hsn.o,Hi.o];exact HK.o.1,by rw[Hsn.o,Hi.o];exact HK.o.2.touch0 HT.o⟩⟩
   case measure=>simp[intOf];omega
  obtain rfl:b=false:=by simpa using hb
  have Hi:=lh (show ml Q (⟨pA,pl.length,pc⟩,pl)=Q++[(⟨pA,pl.length,pc⟩,pl)] by unfold ml;rw[<- HS.o];rfl);have e0:=HT.o.cell E0.o (by simp);have HM:=lh (HK.o.2.touch0 HT.o);clear hb;go_wp2_with (at_builtin;refine ez ?_);refine go ?_;refine eb (enc:=jr) rfl (.tmp 34) (.tmp 39) 66 rfl 105 _ 1 24 gh cl rfl (by omega) il j5 O m oc Q HK.o.1.symm rfl ((HM.o.touch0 ((Touch.refl [] wr).alloc _)).own) (some ⟨wr.heap.size,0,none⟩) 1 1 [(⟨pA,pl.length,pc⟩,pl)] rfl rfl (Hrow.o wr) (by have:=Hm.o;omega) (by omega) ?_;intro N3 nc3 w3 hO t f;have HM3:=lh ((HM.o.touch0 ((Touch.refl [] wr).alloc _)).step hO t f);clear hO t f;go_wp2_with fail;go_roundw
  case rel=>exact⟨k+1,m+1,N3,nc3,by omega,by go_num,rfl,by have:=Hm.o;omega,lh ⟨by rw[Hsn.o,Hi.o,az,<- HK.o.1];rfl,by rw[Hsn.o,Hi.o];exact HM3.o⟩⟩
  case measure=>simp[intOf];omega
 obtain rfl:k=P.length:=by omega
 rw[aH] at HK;go_wp2_with fail;go_ret;exact⟨O,oc,m,rfl,HK.o.1,⟨HK.o.2.own.rd,λp hp=>(HP.o.vs p (qW hp)).touch0 HK.o.2.t⟩,HK.o.2.t⟩
end
section
open Go.RowKit
def kH(n:Nat):List Value:=[.int .i64 n]
theorem lj(n:Nat):(kH n).length=1:=rfl
theorem qq(n:Nat):∀u∈kH n,u.oneCell'=true:=by intro u hu;simp only[kH,List.mem_cons,List.not_mem_nil,or_false] at hu;subst hu;rfl
theorem rW{w:World}{A:Option Addr}{l:List Nat}(h:d9 kH w A l)(k:Nat)(hk:k<l.length):∃bd,A=some bd/\w.cell? (bd.add k)=some (.int .i64 l[k]):=by obtain⟨ad,b,off,e1,e2,e3⟩:=d9.cells h 1 lj (by omega) k hk;rw[bO] at e2;refine⟨ad,e1, ?_⟩;rw[e2];exact e3 0 _ rfl
def je(r:List VD)(i:Nat):VD:=r.getD i ⟨0,0,⟨#[]⟩⟩
theorem lJ{r:List VD}{i:Nat}(h:i<r.length):je r i=r[i]:=by simp[je,List.getD,h]
def kO(a b:VD):Bool:=decide (eU a b=0)
def kK(at_:List Nat)(a b:List VD):Bool:=at_.all λi=>kO (je a i) (je b i)
theorem vz(a b:VD)(ha:a.text.size<=9223372036854775807)(hb:b.text.size<=9223372036854775807)(w:World): Calls Tryz.prog 73 #[a.val,b.val] w λe w'=>e=.returned (.bool (kO a b))/\Touch [] w w':=by
 have Hc:=lh λw'=>mG a b ha hb w';obtain⟨q,hq⟩:∃q,q=eU a b:=⟨_,rfl⟩;unfold kO;rw[<- hq] at Hc ⊢;clear hq;obtain⟨k1,n1,s1⟩:=a;obtain⟨k2,n2,s2⟩:=b;simp only[VD.val] at Hc ⊢;have Ht:=lh (((Touch.refl [] w).alloc (.cells #[.int .i64 k1,.int .i64 n1,.string s1] 130)).alloc (.cells #[.int .i64 k2,.int .i64 n2,.string s2] 130));have hd:decide (q=0)=(q==0):=by by_cases h:q=0<;>simp[h]
 have Hd:=lh hd;clear hd ha hb;go_enter Tryz.func73,Tryz.ntmps73;go_wp2_with fail;refine(Hc.o _).mono ?_;rintro e w1 ⟨rfl,t1⟩;have T1:=lh (Ht.o.trans0 t1);clear t1;go_wp2_with fail;go_ret;exact⟨eo (by rw[Hd.o]),T1.o⟩
theorem AH(A B I:Option Addr)(c1 c2 c3 n m k:Nat)(l r:List VD)(at_:List Nat)(hn:l.length=n)(hm:r.length=m)(hk:at_.length=k)(hok:∀ v∈l,v.Ok 140737000000000)(hok2:∀ v∈r,v.Ok 140737000000000)(hat:∀ i∈at_,i<l.length/\i<r.length)(w:World)(h:eu w A l)(h2:eu w B r)(h3:d9 kH w I at_) (hl:n<=140737000000000) (hl2:m<=140737000000000) (hl3:k<=140737000000000) : Calls Tryz.prog 108 #[.slice A n c1,.slice B m c2,.slice I k c3] w λe w'=>e=.returned (.bool (kK at_ l r))/\Touch [] w w':=by
 subst hn hm hk;have Hat:=lh hat;clear hat;go_enter Tryz.func108,Tryz.ntmps108;go_wp2;go_loopw [7] (λi wr=>∃k:Nat,k<=at_.length/\i=.int .i64 k/\Ga (∀i∈at_.take k,kO (je l i) (je r i)=true)/\Touch [] w wr) (λi _=>at_.length-(intOf i).toNat)
 case atStart=>exact⟨0,by omega,rfl,lh (by simp),Touch.refl _ _⟩
 case round =>
 obtain⟨k,hka,rfl,Ho,ht⟩:=hrel;by_cases hlt:k<at_.length
 ·obtain⟨ai,rfl,e0⟩:=rW (h3.touch0 ht) k hlt;have hil:=Hat.o _ (am hlt);have Htk:=lh (au hlt);have Hm:=lh (am hlt);obtain⟨i,hi⟩:∃i,i=at_[k]:=⟨_,rfl⟩;rw[<- hi] at e0 hil Htk Hm;clear hi;obtain⟨ad,b,off,rfl,hadd,c0,c1,c2⟩:=(h.touch0 ht).at_ i hil.1;obtain⟨bd,b2,off2,rfl,hadd2,d0,d1,d2⟩:=(h2.touch0 ht).at_ i hil.2;have ho1:=hok _ (am hil.1);have ho2:=hok2 _ (am hil.2);have Hx:=lh (lJ hil.1);have Hy:=lh (lJ hil.2);obtain⟨x,hx⟩:∃x,x=l[i]'hil.1:=⟨_,rfl⟩;obtain⟨y,hy⟩:∃y,y=r[i]'hil.2:=⟨_,rfl⟩;rw[<- hx] at c0 c1 c2 ho1 Hx;rw[<- hy] at d0 d1 d2 ho2 Hy;obtain⟨k1,n1,s1⟩:=x;obtain⟨k2,n2,s2⟩:=y;simp only at c0 c1 c2 d0 d1 d2;have hcv:=λw'=>vz ⟨k1,n1,s1⟩ ⟨k2,n2,s2⟩ (by have:=ho1.t;simp only at this ⊢;omega) (by have:=ho2.t;simp only at this ⊢;omega) w';simp only[VD.val] at hcv;have Hs:=lh (show kO (je l i) (je r i)=kO ⟨k1,n1,s1⟩ ⟨k2,n2,s2⟩ by rw[Hx.o,Hy.o]);obtain⟨q,hq⟩:∃q,q=kO ⟨k1,n1,s1⟩ ⟨k2,n2,s2⟩:=⟨_,rfl⟩;rw[<- hq] at hcv Hs;have Hcv:=lh hcv;have e0':=TW.cell e0;have g0:=TW.cell c0;have g1:=TW.cell c1;have g2:=TW.cell c2;have f0:=TW.cell d0;have f1:=TW.cell d1;have f2:=TW.cell d2;have h1I:(i:Int)<(l.length:Int):=by omega
  have h2I:(i:Int)<(r.length:Int):=by omega
  have h3I:(k:Int)<(at_.length:Int):=by omega
  clear hcv hx hy hq c0 c1 c2 d0 d1 d2 ho1 ho2 e0;cases q with
  |false =>
   go_wp2
   refine eh wr (Touch.refl _ _) (by kernel_rfl) (by kernel_rfl) ?_
   repeat (go_big_quiet_step (((go_at_call 73;exact Calls.tw _ (Hcv.o _)))))
   refine aS ?_
   rintro _ ⟨x2,rfl⟩
   go_wp2
   go_ret
   exact⟨eo (by symm;rw[kK,d7];intro hc;have:=bU.1 hc i Hm.o;rw[Hs.o] at this;exact absurd this (by simp)),ht.trans0 x2.t⟩
  |true =>
   go_wp2
   refine eh wr (Touch.refl _ _) (by kernel_rfl) (by kernel_rfl) ?_
   repeat (go_big_quiet_step (((go_at_call 73;exact Calls.tw _ (Hcv.o _)))))
   refine aS ?_
   rintro _ ⟨x2,rfl⟩
   go_wp2
   go_roundw
   case rel=>exact⟨k+1,by omega,by go_num,lh (λj hj=>by
    rw[Htk.o] at hj;rcases aZ.1 hj with h|h
    ·exact Ho.o j h
    obtain rfl:j=i:=by simpa using h
    exact Hs.o),ht.trans0 x2.t⟩
   case measure=>simp[intOf];omega
 have HE:=lh (show kK at_ l r=true from bU.2 λi hi=>Ho.o i (by rw[bR (by omega)];exact hi));go_wp2;go_ret;exact⟨eo HE.o.symm,ht⟩
def iO(P:List RP)(i:Nat):List VD:=(P.map λp=>je p.2 i).filter λv=>decide (v.kind≠0)
theorem xq(P:List RP)(p:RP)(i:Nat):iO (P++[p]) i=iO P i++(if (je p.2 i).kind=0 then [] else [je p.2 i]):=by
 unfold iO;rw[aT,bZ,cx,dh];by_cases h:(je p.2 i).kind=0
 ·rw[ae h,cR (by simp[h]),cE]
 rw[ab h,cS (by simp[h]),cE]
theorem yQ(A:Option Addr)(c n i:Nat)(P:List RP)(hn:P.length=n)(hl:n<=1000000)(hi:∀ p∈P,i<p.2.length)(w:World)(h:RowP w A P): Calls Tryz.prog 75 #[.slice A n c,.int .i64 i] w λe w'=>∃B c' m,e=.returned (.slice B m c')/\m=(iO P i).length/\Made 130 3 ff (iO P i) B c' w w':=by
 subst hn;have HP:=lh h;have Hi:=lh hi;clear h hi;go_enter Tryz.func75,Tryz.ntmps75;go_wp2_with fail;go_loopw [5,6] (λov kv wr=>∃(k m:Nat)(O:Option Addr)(oc:Nat),k<=P.length/\kv=.int .i64 k/\ov=.slice O m oc/\m<=k/\Ga (m=(iO (P.take k) i).length/\Made 130 3 ff (iO (P.take k) i) O oc w wr)) (λ_ i _=>P.length-(intOf i).toNat)
 case atStart=>exact⟨0,0,none,0,by omega,rfl,rfl,by omega,lh ⟨rfl,Made.nil _ _ _ _⟩⟩
 case round =>
 obtain⟨k,m,O,oc,hk,rfl,rfl,hm,HK⟩:=hrel;by_cases hlt:k<P.length
 ·obtain⟨bd,rfl,e0⟩:=ku (d9.touch0 HP.o.rd HK.o.2.t) k hlt;have Hsn:=lh (show iO (P.take (k+1)) i=iO (P.take k) i++(if (je P[k].2 i).kind=0 then [] else [je P[k].2 i]) by rw[au hlt,xq]);have hpv:=(HP.o.vs _ (am hlt)).touch0 HK.o.2.t;have hil:=Hi.o _ (am hlt);obtain⟨p,hp⟩:∃p,p=P[k]:=⟨_,rfl⟩;rw[<- hp] at e0 Hsn hpv hil;clear hp;obtain⟨⟨pA,pn,pc⟩,pl⟩:=p;obtain⟨hpn,hpv⟩:=hpv;dsimp only at hpn hpv hil e0;subst hpn;rw[lJ hil] at Hsn;obtain⟨ad,b,off,rfl,hadd,c0,c1,c2⟩:=hpv.at_ i hil;obtain⟨v,hv⟩:∃v,v=pl[i]'hil:=⟨_,rfl⟩;rw[<- hv] at c0 c1 c2 Hsn;clear hv hpv;obtain⟨k1,n1,s1⟩:=v;dsimp only at c0 c1 c2 Hsn;have h1I:(i:Int)<(pl.length:Int):=by omega
  have h3I:(k:Int)<(P.length:Int):=by omega
  have Hm:=lh hm;have Hrow:=lh λ(w':World)=>d9.one (enc:=ff) w' 130 ⟨k1,n1,s1⟩ #[.int .i64 k1,.int .i64 n1,.string s1] rfl;clear hm;by_cases hz:k1=0
  ·subst hz;rw[ae rfl,bN] at Hsn;go_wp2_with fail;go_roundw
   case rel=>exact⟨k+1,m,O,oc,by omega,by go_num,rfl,by have:=Hm.o;omega,lh (by rw[Hsn.o];exact HK.o)⟩
   case measure=>simp[intOf];omega
  rw[ab hz] at Hsn;have hz1:(k1==0)=false:=by rw[aw];exact hz
  have hz2:(k1 != 0)=true:=by rw[bne,hz1];rfl
  clear hz;go_wp2_with (at_builtin;refine ez ?_);refine go ?_;refine eb (enc:=ff) rfl (.tmp 22) (.tmp 30) 104 rfl 130 _ 3 32 gT Tryz.underlying104 rfl (by omega) eO f8 O m oc _ HK.o.1.symm rfl ((HK.o.2.touch0 ((Touch.refl [] wr).alloc _)).own) (some ⟨wr.heap.size,0,none⟩) 1 1 [⟨k1,n1,s1⟩] rfl rfl (Hrow.o wr) (by have:=Hm.o;omega) (by omega) ?_;intro N3 nc3 w3 hO t f;have HM3:=lh ((HK.o.2.touch0 ((Touch.refl [] wr).alloc _)).step hO t f);clear hO t f;go_wp2_with fail;go_roundw
  case rel=>exact⟨k+1,m+1,N3,nc3,by omega,by go_num,rfl,by have:=Hm.o;omega,lh ⟨by rw[Hsn.o,az,<- HK.o.1];rfl,by rw[Hsn.o];exact HM3.o⟩⟩
  case measure=>simp[intOf];omega
 obtain rfl:k=P.length:=by omega
 rw[aH] at HK;go_wp2_with fail;go_ret;exact⟨O,oc,m,rfl,HK.o.1,HK.o.2⟩
end
end Go.Proofs.YtafoklilkdnepaaGreatDoor
