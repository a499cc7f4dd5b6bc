/- Part 27 of the texts of this proof, one behind the other. No condition beyond those that its theorems state. -/
import Derived.Test.YtafoklilkdnepaaGreatDoorRe26
set_option linter.all false
set_option maxRecDepth 40000
set_option maxHeartbeats 25600000
namespace Go.Proofs.YtafoklilkdnepaaGreatDoor
section
open Go.RowKit Go.ChangeShapes Go.WideShapes Go.Deep
theorem CT{H:Type}(d:DataW H):1<=Rows.uptoBulk d:=by
 cases d with
 |lit l=>cases l<;>simp[Rows.uptoBulk]
 | _=>simp[Rows.uptoBulk]
theorem xc{H:Type}(l:List (DataW H)):Rows.uptoBulkAll l=(l.map Rows.uptoBulk).sum:=by
 induction l with
 |nil=>simp[Rows.uptoBulkAll]
 |cons a l ih=>simp[Rows.uptoBulkAll,ih]
theorem qF{α β γ:Type}(R:α->β->γ->Prop)(l:List α)(bs:List β)(hl:bs.length=l.length)(h:∀ i (h1:i<l.length) (h2:i<bs.length),∃ e,R l[i] bs[i] e):
  ∃es:List γ,es.length=l.length/\∀i(h1:i<l.length)(h2:i<bs.length)(h3:i<es.length),R l[i] bs[i] es[i]:=
 ⟨List.ofFn fun i:Fin l.length=>(h i.1 i.2 (by rw[hl];exact i.2)).choose,by simp,λi h1 h2 h3=>by
  rw[List.getElem_ofFn]
  exact(h i h1 h2).choose_spec⟩
theorem ub{γ:Type}(f:γ->Nat):∀(es:List γ)(bs:List Nat),bs.length=es.length->(∀i(h1:i<es.length)(h2:i<bs.length),f es[i]<=bs[i])->(es.map f).sum<=bs.sum
 | [],_,_,_=>by simp
 |e:: es,[],h,_=>by simp at h
 |e:: es,b:: bs,h,hh=>by have h0:=hh 0 (by simp) (by simp);have:=ub f es bs (by simpa using h) (λi h1 h2=>by have:=hh (i+1) (by simp;omega) (by simp;omega);simpa using this);simp at h0 ⊢;omega
theorem mz:∀(bs:List Nat)(i:Nat)(h:i<bs.length),bs[i]<=bs.sum
 |b:: bs,0,_=>by simp
 |b:: bs,i+1,h=>by have:=mz bs i (by simpa using h);simp;omega
theorem pC:∀(bs:List Nat),(∀b∈bs,1<=b)->bs.length<=bs.sum
 | [],_=>by simp
 |b:: bs,h=>by have h1:=h b aK;have:=pC bs λx hx=>h x (aP _ hx);simp;omega
theorem vI{α:Type}(enc:α->List Value)(k:Nat)(hk:∀ x,(enc x).length=k)(h0:0<k)(w:World)(a:Addr)(len:Nat)(P:Nat->α->Prop) (key:∀i,i<len->∃x:α,P i x/\∀r u,(enc x)[r]?=some u->w.cell? (a.add (i*k+r))=some u):∃l:List α,l.length=len/\d9 enc w (some a) l/\∀i(h:i<l.length),P i l[i]:=by
 refine⟨(List.range len).attach.map λi=>(key i.1 (by simpa using i.2)).choose,by simp,λ_=>⟨a,rfl,λj u hu=> ?_⟩,λi hi=> ?_⟩
 ·have hj:=(bS.1 hu).1;rw[iW enc k hk] at hj;have hi:j / k<((List.range len).attach.map λi=>(key i.1 (by simpa using i.2)).choose).length:=Nat.div_lt_of_lt_mul (by rwa[Nat.mul_comm] at hj);have hr:j % k<k:=Nat.mod_lt _ h0;have hjk:j / k*k+j % k=j:=Nat.div_add_mod' j k;rw[<- hjk,oJ enc k hk _ _ _ hi hr] at hu;have hil:j / k<len:=by simpa using hi
  have hs:=(key _ hil).choose_spec.2;rw[<- hjk];exact hs _ _ (by simpa using hu)
 have hil:i<len:=by simpa using hi
 have:=(key i hil).choose_spec.1;simpa using this
section
variable {H:Type} (enc:TypeId × Value->H) (w:World) (base:Nat) (spare:Nat->Bool) (held:Bool)
def jm(t:TypeId)(m C:Nat){α:Type}(E:α->List Value)(Q:α->Nat->Prop):Prop:=
 ∀n cs(y:DataW H × List MemPlace),n<=m->cs.length=C->DataW.trod enc Tryz.prog w base spare held n t cs=some y->∃a,E a=cs/\Q a (Rows.uptoBulk y.1)
def mr{α:Type}(E:α->List Value)(Q:α->Nat->Prop)(s:SL)(b:Nat):Prop:=
 ∃(l:List α)(bs:List Nat),s.n=l.length/\d9 E w s.A l/\s.n<=s.c/\bs.length=l.length/\bs.sum<b/\(∀x∈bs,1<=x)/\∀i(h1:i<l.length)(h2:i<bs.length),Q l[i] bs[i]
def ve(k:Int):Prop:= -9223372036854775808<=k/\k<=9223372036854775807
theorem mL(m:Nat):jm enc w base spare held 3 m 1 (fun k:Int=>[.int .i64 k]) (λk _=>ve k):=by intro n cs y _ hl h;obtain⟨k,e,_,hw⟩:=DataW.trod_int cN h;exact⟨k,e.symm,by simpa [ve,Lit.wf,IntKind.min,IntKind.max,IntKind.signed,IntKind.bits] using hw⟩
theorem jh(m:Nat):jm enc w base spare held 9 m 1 gD (λs b=>s.size<=b):=by intro n cs y _ hl h;obtain⟨s,e,ey,hw⟩:=DataW.trod_string cg h;refine⟨s,e.symm, ?_⟩;rw[ey];simp only[Rows.uptoBulk];show s.size<=_;simp only[ByteArray.size,Array.size];omega
theorem De(m:Nat):jm enc w base spare held 4 m 1 (fun b:Bool=>[.bool b]) (λ_ _=>True):=by intro n cs y _ hl h;obtain⟨b,e,_⟩:=DataW.trod_bool Tryz.underlying4 h;exact⟨b,e.symm,trivial⟩
variable {enc w base spare held}
theorem jq{t e:TypeId}{m C:Nat}{α:Type}{E:α->List Value}{Q:α->Nat->Prop}(ht:Tryz.prog.underlying t=some (.slice e))(hC:Tryz.prog.cellsOf e=C)(h0:0<C)(hE:∀ x,(E x).length=C) (he:jm enc w base spare held e m C E Q):jm enc w base spare held t (m+1) 1 eT (mr w E Q):=by
 intro n cs y hn hl h;rcases DataW.trod_slice ht h with ⟨hcs,hy⟩|⟨a,len,cap,elems,rest,n',rfl,rfl,rfl,_,hlc,_,hlen,hel,_,_⟩
 ·subst hcs hy;exact⟨⟨none,0,0⟩,rfl,[],[],rfl,d9.nil _ _ _,aL _,rfl,by simp[Rows.uptoBulk],by simp,λi h1=>absurd h1 (by simp)⟩
 obtain⟨l,hl1,hl2,hl3⟩:=vI E C hE h0 w a len (λi x=>∀h:i<elems.length,Q x (Rows.uptoBulk elems[i].1)) λi hi=>by
  have hie:i<elems.length:=by omega
  have hk:=hel i hi;rw[aX hie,hC] at hk;obtain⟨cs',h1,h2⟩:=Option.bind_eq_some_iff.1 hk;obtain⟨_,hcl,hat⟩:=World.cells?_some h1;obtain⟨x,hx1,hx2⟩:=he n' cs' _ (by omega) hcl h2;refine⟨x,λ_=>hx2,λr u hu=> ?_⟩;rw[<- Go.Deep.add_add,hat r (by rw[<- hE x];exact(bS.1 hu).1),<- hx1];exact hu
 refine⟨⟨some a,len,cap⟩,rfl,l,elems.map λy=>Rows.uptoBulk y.1,by rw[hl1],hl2,hlc,by rw[ay,hl1,hlen], ?_, ?_,λi h1 h2=> ?_⟩
 ·simp only[Rows.uptoBulk,xc,List.map_map];have:(elems.map λy=>Rows.uptoBulk y.1)=elems.map (Rows.uptoBulk ∘ λx=>x.1):=rfl;rw[this];omega
 ·intro x hx;obtain⟨y,_,rfl⟩:=aJ.1 hx;exact CT _
 rw[aW];exact hl3 i h1 (by simpa using h2)
theorem jm.le{t:TypeId}{m m' C:Nat}{α:Type}{E:α->List Value}{Q:α->Nat->Prop}(h:jm enc w base spare held t m C E Q)(hm:m'<=m):jm enc w base spare held t m' C E Q:=
 λn cs y hn hl ht=>h n cs y (bm hn hm) hl ht
theorem EL(m:Nat):jm enc w base spare held 29 m 2 fQ (λc b=>c.name.size<=b/\ve c.typ):=by
 intro n cs y hn hl h;obtain⟨ys,n',rfl,rfl, -,hyl,hf⟩:=df Tryz.underlying29 h;obtain⟨c0,c1,rfl⟩:∃c0 c1,cs=[c0,c1]:=by
  match cs,hl with
  | [c0,c1],_=>exact⟨c0,c1,rfl⟩
 have hyn:ys.length=2:=hyl;obtain⟨y0,y1,rfl⟩:∃y0 y1,ys=[y0,y1]:=by
  match ys,hyn with
  | [y0,y1],_=>exact⟨y0,y1,rfl⟩
 have z0:Tryz.prog.cellsOf 9=1:=by kernel_rfl
 have z1:Tryz.prog.cellsOf 3=1:=by kernel_rfl
 have h0:DataW.trod enc Tryz.prog w base spare held n' 9 (List.take (Tryz.prog.cellsOf 9) (List.drop 0 [c0,c1]))=some y0:=hf 0 _ rfl;rw[z0] at h0;obtain⟨a0,e0,q0⟩:=(jh _ _ _ _ _ n') n' [c0] y0 (by omega) rfl h0;have h1:DataW.trod enc Tryz.prog w base spare held n' 3 (List.take (Tryz.prog.cellsOf 3) (List.drop 1 [c0,c1]))=some y1:=hf 1 _ rfl;rw[z1] at h1;obtain⟨a1,e1,q1⟩:=(mL _ _ _ _ _ n') n' [c1] y1 (by omega) rfl h1;cases e0;cases e1;have hb:Rows.uptoBulk (DataW.agg (List.map (fun x:DataW H × List MemPlace=>x.1) [y0,y1]))=Rows.uptoBulk y0.1+Rows.uptoBulk y1.1+1:=by simp[Rows.uptoBulk,Rows.uptoBulkAll];try omega
 refine⟨⟨a0,a1⟩,rfl, ?_⟩;rw[hb];exact⟨by dsimp only;omega,q1⟩
theorem xT(m:Nat):jm enc w base spare held 31 m 3 ff (λv b=>v.Ok b):=by
 intro n cs y hn hl h;obtain⟨ys,n',rfl,rfl, -,hyl,hf⟩:=df bA h;obtain⟨c0,c1,c2,rfl⟩:∃c0 c1 c2,cs=[c0,c1,c2]:=by
  match cs,hl with
  | [c0,c1,c2],_=>exact⟨c0,c1,c2,rfl⟩
 have hyn:ys.length=3:=hyl;obtain⟨y0,y1,y2,rfl⟩:∃y0 y1 y2,ys=[y0,y1,y2]:=by
  match ys,hyn with
  | [y0,y1,y2],_=>exact⟨y0,y1,y2,rfl⟩
 have z0:Tryz.prog.cellsOf 3=1:=by kernel_rfl
 have z1:Tryz.prog.cellsOf 9=1:=by kernel_rfl
 have h0:DataW.trod enc Tryz.prog w base spare held n' 3 (List.take (Tryz.prog.cellsOf 3) (List.drop 0 [c0,c1,c2]))=some y0:=hf 0 _ rfl;rw[z0] at h0;obtain⟨a0,e0,q0⟩:=(mL _ _ _ _ _ n') n' [c0] y0 (by omega) rfl h0;have h1:DataW.trod enc Tryz.prog w base spare held n' 3 (List.take (Tryz.prog.cellsOf 3) (List.drop 1 [c0,c1,c2]))=some y1:=hf 1 _ rfl;rw[z0] at h1;obtain⟨a1,e1,q1⟩:=(mL _ _ _ _ _ n') n' [c1] y1 (by omega) rfl h1;have h2:DataW.trod enc Tryz.prog w base spare held n' 9 (List.take (Tryz.prog.cellsOf 9) (List.drop 2 [c0,c1,c2]))=some y2:=hf 2 _ rfl;rw[z1] at h2;obtain⟨a2,e2,q2⟩:=(jh _ _ _ _ _ n') n' [c2] y2 (by omega) rfl h2;cases e0;cases e1;cases e2;have hb:Rows.uptoBulk (DataW.agg (List.map (fun x:DataW H × List MemPlace=>x.1) [y0,y1,y2]))=Rows.uptoBulk y0.1+Rows.uptoBulk y1.1+Rows.uptoBulk y2.1+1:=by simp[Rows.uptoBulk,Rows.uptoBulkAll];try omega
 refine⟨⟨a0,a1,a2⟩,rfl, ?_⟩;rw[hb];exact⟨q0,q1,by dsimp only;omega⟩
theorem DB(m:Nat):jm enc w base spare held 39 m 2 nz (λp b=>p.1.size<=b/\p.2.size<=b):=by
 intro n cs y hn hl h;obtain⟨ys,n',rfl,rfl, -,hyl,hf⟩:=df Tryz.underlying39 h;obtain⟨c0,c1,rfl⟩:∃c0 c1,cs=[c0,c1]:=by
  match cs,hl with
  | [c0,c1],_=>exact⟨c0,c1,rfl⟩
 have hyn:ys.length=2:=hyl;obtain⟨y0,y1,rfl⟩:∃y0 y1,ys=[y0,y1]:=by
  match ys,hyn with
  | [y0,y1],_=>exact⟨y0,y1,rfl⟩
 have z0:Tryz.prog.cellsOf 9=1:=by kernel_rfl
 have h0:DataW.trod enc Tryz.prog w base spare held n' 9 (List.take (Tryz.prog.cellsOf 9) (List.drop 0 [c0,c1]))=some y0:=hf 0 _ rfl;rw[z0] at h0;obtain⟨a0,e0,q0⟩:=(jh _ _ _ _ _ n') n' [c0] y0 (by omega) rfl h0;have h1:DataW.trod enc Tryz.prog w base spare held n' 9 (List.take (Tryz.prog.cellsOf 9) (List.drop 1 [c0,c1]))=some y1:=hf 1 _ rfl;rw[z0] at h1;obtain⟨a1,e1,q1⟩:=(jh _ _ _ _ _ n') n' [c1] y1 (by omega) rfl h1;cases e0;cases e1;have hb:Rows.uptoBulk (DataW.agg (List.map (fun x:DataW H × List MemPlace=>x.1) [y0,y1]))=Rows.uptoBulk y0.1+Rows.uptoBulk y1.1+1:=by simp[Rows.uptoBulk,Rows.uptoBulkAll];try omega
 refine⟨(a0,a1),rfl, ?_⟩;rw[hb];exact⟨by dsimp only;omega,by dsimp only;omega⟩
theorem EG(m:Nat):jm enc w base spare held 79 m 3 lK (λa b=>a.op.size<=b/\a.col.size<=b/\a.name.size<=b):=by
 intro n cs y hn hl h;obtain⟨ys,n',rfl,rfl, -,hyl,hf⟩:=df Tryz.underlying79 h;obtain⟨c0,c1,c2,rfl⟩:∃c0 c1 c2,cs=[c0,c1,c2]:=by
  match cs,hl with
  | [c0,c1,c2],_=>exact⟨c0,c1,c2,rfl⟩
 have hyn:ys.length=3:=hyl;obtain⟨y0,y1,y2,rfl⟩:∃y0 y1 y2,ys=[y0,y1,y2]:=by
  match ys,hyn with
  | [y0,y1,y2],_=>exact⟨y0,y1,y2,rfl⟩
 have z0:Tryz.prog.cellsOf 9=1:=by kernel_rfl
 have h0:DataW.trod enc Tryz.prog w base spare held n' 9 (List.take (Tryz.prog.cellsOf 9) (List.drop 0 [c0,c1,c2]))=some y0:=hf 0 _ rfl;rw[z0] at h0;obtain⟨a0,e0,q0⟩:=(jh _ _ _ _ _ n') n' [c0] y0 (by omega) rfl h0;have h1:DataW.trod enc Tryz.prog w base spare held n' 9 (List.take (Tryz.prog.cellsOf 9) (List.drop 1 [c0,c1,c2]))=some y1:=hf 1 _ rfl;rw[z0] at h1;obtain⟨a1,e1,q1⟩:=(jh _ _ _ _ _ n') n' [c1] y1 (by omega) rfl h1;have h2:DataW.trod enc Tryz.prog w base spare held n' 9 (List.take (Tryz.prog.cellsOf 9) (List.drop 2 [c0,c1,c2]))=some y2:=hf 2 _ rfl;rw[z0] at h2;obtain⟨a2,e2,q2⟩:=(jh _ _ _ _ _ n') n' [c2] y2 (by omega) rfl h2;cases e0;cases e1;cases e2;have hb:Rows.uptoBulk (DataW.agg (List.map (fun x:DataW H × List MemPlace=>x.1) [y0,y1,y2]))=Rows.uptoBulk y0.1+Rows.uptoBulk y1.1+Rows.uptoBulk y2.1+1:=by simp[Rows.uptoBulk,Rows.uptoBulkAll];try omega
 refine⟨⟨a0,a1,a2⟩,rfl, ?_⟩;rw[hb];exact⟨by dsimp only;omega,by dsimp only;omega,by dsimp only;omega⟩
theorem Ay(m:Nat):jm enc w base spare held 94 m 2 pg (λp b=>p.1.size<=b):=by
 intro n cs y hn hl h;obtain⟨ys,n',rfl,rfl, -,hyl,hf⟩:=df Tryz.underlying94 h;obtain⟨c0,c1,rfl⟩:∃c0 c1,cs=[c0,c1]:=by
  match cs,hl with
  | [c0,c1],_=>exact⟨c0,c1,rfl⟩
 have hyn:ys.length=2:=hyl;obtain⟨y0,y1,rfl⟩:∃y0 y1,ys=[y0,y1]:=by
  match ys,hyn with
  | [y0,y1],_=>exact⟨y0,y1,rfl⟩
 have z0:Tryz.prog.cellsOf 9=1:=by kernel_rfl
 have z1:Tryz.prog.cellsOf 4=1:=by kernel_rfl
 have h0:DataW.trod enc Tryz.prog w base spare held n' 9 (List.take (Tryz.prog.cellsOf 9) (List.drop 0 [c0,c1]))=some y0:=hf 0 _ rfl;rw[z0] at h0;obtain⟨a0,e0,q0⟩:=(jh _ _ _ _ _ n') n' [c0] y0 (by omega) rfl h0;have h1:DataW.trod enc Tryz.prog w base spare held n' 4 (List.take (Tryz.prog.cellsOf 4) (List.drop 1 [c0,c1]))=some y1:=hf 1 _ rfl;rw[z1] at h1;obtain⟨a1,e1,q1⟩:=(De _ _ _ _ _ n') n' [c1] y1 (by omega) rfl h1;cases e0;cases e1;have hb:Rows.uptoBulk (DataW.agg (List.map (fun x:DataW H × List MemPlace=>x.1) [y0,y1]))=Rows.uptoBulk y0.1+Rows.uptoBulk y1.1+1:=by simp[Rows.uptoBulk,Rows.uptoBulkAll];try omega
 refine⟨(a0,a1),rfl, ?_⟩;rw[hb];dsimp only;omega
def QX(w:World)(m:Nat)(x:XC)(b:Nat):Prop:=∃e:TX m,iJ iX jf m w x e/\fj m e<=b/\(b<=1048576->gj (λq=>q.Ok 1048576) m e)
theorem QX.args{m:Nat}{s:SL}{b:Nat}(h:mr w iX (QX w m) s b):∃es:List (TX m),s.n=es.length/\ki iX jf m w s.A es/\(es.map (fj m)).sum<b/\(b<=1048576->∀e∈es,gj (λq=>q.Ok 1048576) m e):=by obtain⟨l,bs,h1,h2,_,h4,h5,_,h7⟩:=h;obtain⟨es,g1,g2⟩:=qF (λx b e=>iJ iX jf m w x e/\fj m e<=b/\(b<=1048576->gj (λq=>q.Ok 1048576) m e)) l bs h4 h7;refine⟨es,by rw[h1,g1],⟨l,g1.symm,h2,λi a b=>(g2 i a (by omega) b).1⟩,Nat.lt_of_le_of_lt (ub (fj m) es bs (by omega) λi a b=>(g2 i (by omega) b a).2.1) h5,λhb e he=> ?_⟩;obtain⟨i,hi,rfl⟩:=aU.1 he;exact(g2 i (by omega) (by omega) hi).2.2 (by have:=mz bs i (by omega);omega)
theorem uz(m:Nat)(ih:jm enc w base spare held 44 m 7 iX (QX w m)):jm enc w base spare held 44 (m+1) 7 iX (QX w (m+1)):=by
 intro n cs y hn hl h;obtain⟨ys,n',rfl,rfl, -,hyl,hf⟩:=df Tryz.underlying44 h;obtain⟨c0,c1,c2,c3,c4,c5,c6,rfl⟩:∃c0 c1 c2 c3 c4 c5 c6,cs=[c0,c1,c2,c3,c4,c5,c6]:=by
  match cs,hl with
  | [c0,c1,c2,c3,c4,c5,c6],_=>exact⟨c0,c1,c2,c3,c4,c5,c6,rfl⟩
 have hyn:ys.length=5:=hyl;obtain⟨y0,y1,y2,y3,y4,rfl⟩:∃y0 y1 y2 y3 y4,ys=[y0,y1,y2,y3,y4]:=by
  match ys,hyn with
  | [y0,y1,y2,y3,y4],_=>exact⟨y0,y1,y2,y3,y4,rfl⟩
 have z0:Tryz.prog.cellsOf 3=1:=by kernel_rfl
 have z1:Tryz.prog.cellsOf 9=1:=by kernel_rfl
 have z2:Tryz.prog.cellsOf 31=3:=by kernel_rfl
 have z3:Tryz.prog.cellsOf 42=1:=by kernel_rfl
 have h0:DataW.trod enc Tryz.prog w base spare held n' 3 (List.take (Tryz.prog.cellsOf 3) (List.drop 0 [c0,c1,c2,c3,c4,c5,c6]))=some y0:=hf 0 _ rfl;rw[z0] at h0;obtain⟨a0,e0,q0⟩:=(mL _ _ _ _ _ n') n' [c0] y0 (by omega) rfl h0;have h1:DataW.trod enc Tryz.prog w base spare held n' 9 (List.take (Tryz.prog.cellsOf 9) (List.drop 1 [c0,c1,c2,c3,c4,c5,c6]))=some y1:=hf 1 _ rfl;rw[z1] at h1;obtain⟨a1,e1,q1⟩:=(jh _ _ _ _ _ n') n' [c1] y1 (by omega) rfl h1;have h2:DataW.trod enc Tryz.prog w base spare held n' 31 (List.take (Tryz.prog.cellsOf 31) (List.drop 2 [c0,c1,c2,c3,c4,c5,c6]))=some y2:=hf 2 _ rfl;rw[z2] at h2;obtain⟨a2,e2,q2⟩:=(xT n') n' [c2,c3,c4] y2 (by omega) rfl h2;have h3:DataW.trod enc Tryz.prog w base spare held n' 9 (List.take (Tryz.prog.cellsOf 9) (List.drop 5 [c0,c1,c2,c3,c4,c5,c6]))=some y3:=hf 3 _ rfl;rw[z1] at h3;obtain⟨a3,e3,q3⟩:=(jh _ _ _ _ _ n') n' [c5] y3 (by omega) rfl h3;have h4:DataW.trod enc Tryz.prog w base spare held n' 42 (List.take (Tryz.prog.cellsOf 42) (List.drop 6 [c0,c1,c2,c3,c4,c5,c6]))=some y4:=hf 4 _ rfl;rw[z3] at h4;obtain⟨a4,e4,q4⟩:=((jq Tryz.underlying42 (by kernel_rfl) (by omega) gW ih).le (by omega:n'<=m+1)) n' [c6] y4 (by omega) rfl h4;obtain⟨v0,v1,v2⟩:=a2;obtain⟨A,k,c⟩:=a4;cases e0;cases e1;cases e2;cases e3;cases e4
 have hb:Rows.uptoBulk (DataW.agg (List.map (fun x:DataW H × List MemPlace=>x.1) [y0,y1,y2,y3,y4]))=Rows.uptoBulk y0.1+Rows.uptoBulk y1.1+Rows.uptoBulk y2.1+Rows.uptoBulk y3.1+Rows.uptoBulk y4.1+1:=by simp[Rows.uptoBulk,Rows.uptoBulkAll];try omega
 refine⟨⟨⟨a0,a1,⟨v0,v1,v2⟩,a3⟩,A,k,c⟩,rfl, ?_⟩;rw[hb];obtain⟨es,g1,g2,g3,g4⟩:=QX.args q4;refine⟨(⟨a0,a1,⟨v0,v1,v2⟩,a3⟩,es),⟨rfl,g1,λ_ _=>trivial,g2⟩, ?_,λhb=>⟨⟨q0, ?_,⟨q2.k,q2.n, ?_⟩, ?_⟩,g4 (by omega)⟩⟩
 ·show 1+(es.map (fj m)).sum<=_;omega
 ·dsimp only;omega
 ·have:=q2.t;dsimp only at this ⊢;omega
 dsimp only;omega
theorem rE:∀m,jm enc w base spare held 44 m 7 iX (QX w m)
 | 0=>λn cs y hn hl h=>by
  obtain rfl:n=0:=by omega
  simp[DataW.trod] at h
 |m+1=>uz m (rE m)
theorem BJ(m:Nat):jm enc w base spare held 42 m 1 eT (mr w iX (QX w m)):=(jq Tryz.underlying42 (by kernel_rfl) (by omega) gW (rE m)).le (Nat.le_succ _)
theorem Dh(m:Nat):jm enc w base spare held 45 m 1 eT (mr w gD (λs b=>s.size<=b)):=(jq Tryz.underlying45 (by kernel_rfl) (by omega) iR (jh _ _ _ _ _ m)).le (Nat.le_succ _)
theorem Ca(m:Nat):jm enc w base spare held 40 m 1 eT (mr w nz (λp b=>p.1.size<=b/\p.2.size<=b)):=(jq Tryz.underlying40 (by kernel_rfl) (by omega) lH (DB m)).le (Nat.le_succ _)
theorem Cn(m:Nat):jm enc w base spare held 46 m 1 eT (mr w lK (λa b=>a.op.size<=b/\a.col.size<=b/\a.name.size<=b)):=(jq Tryz.underlying46 (by kernel_rfl) (by omega) kq (EG m)).le (Nat.le_succ _)
theorem zj(m:Nat):jm enc w base spare held 47 m 1 eT (mr w pg (λp b=>p.1.size<=b)):=(jq Tryz.underlying47 (by kernel_rfl) (by omega) mJ (Ay m)).le (Nat.le_succ _)
theorem Cm(m:Nat):jm enc w base spare held 24 m 1 eT (mr w fQ (λc b=>c.name.size<=b/\ve c.typ)):=(jq bC (by kernel_rfl) (by omega) eZ (EL m)).le (Nat.le_succ _)
theorem CV(m:Nat):jm enc w base spare held 33 m 1 eT (mr w ff (λv b=>v.Ok b)):=(jq cj (by kernel_rfl) (by omega) eO (xT m)).le (Nat.le_succ _)
theorem CM(m:Nat):jm enc w base spare held 25 m 1 eT (mr w eT (mr w ff (λv b=>v.Ok b))):=(jq bp (by kernel_rfl) (by omega) eC (CV m)).le (Nat.le_succ _)
theorem ET{t e:TypeId}(ht:Tryz.prog.underlying t=some (.slice e))(m:Nat):jm enc w base spare held t m 1 eT (λ_ _=>True):=by
 intro n cs y _ _ h;rcases DataW.trod_slice ht h with ⟨hcs,_⟩|⟨a,n,c,_,_,_,_,hcs,_⟩
 ·exact⟨⟨none,0,0⟩,hcs.symm,trivial⟩
 exact⟨⟨some a,n,c⟩,hcs.symm,trivial⟩
theorem mr.mem{α:Type}{E:α->List Value}{Q:α->Nat->Prop}{s:SL}{b:Nat}(h:mr w E Q s b):∃l:List α,s.n=l.length/\d9 E w s.A l/\s.n<=s.c/\l.length<=b/\∀x∈l,∃k,k<=b/\Q x k:=by obtain⟨l,bs,h1,h2,h3,h4,h5,h6,h7⟩:=h;refine⟨l,h1,h2,h3,by have:=pC bs h6;omega,λx hx=> ?_⟩;obtain⟨i,hi,rfl⟩:=aU.1 hx;exact⟨_,by have:=mz bs i (by omega);omega,h7 i hi (by omega)⟩
structure PD.In {m:Nat} (d:PD m):Prop where
 ok:d.Ok
 k:ve d.kind
 nm:d.name.size<=1048576
 q:ve d.count
 c:gj (λq=>q.Ok 1048576) m d.cond
 x:∀e∈d.exprs,gj (λq=>q.Ok 1048576) m e
 n:∀s∈d.names,s.size<=1048576
 o:∀p∈d.on,p.1.size<=1048576/\p.2.size<=1048576
 a:∀p∈d.aggs,p.op.size<=1048576/\p.col.size<=1048576/\p.name.size<=1048576
 b:∀p∈d.by_,p.1.size<=1048576
def QP(w:World)(m:Nat)(x:PC)(b:Nat):Prop:=∃d:PD m,PlanAt w x d/\(b<=1048576->d.In)
theorem Db(m:Nat):jm enc w base spare held 49 m 16 ir (QP w m):=by
 intro n cs y hn hl h;obtain⟨ys,n',rfl,rfl, -,hyl,hf⟩:=df dK h;obtain⟨c0,c1,c2,c3,c4,c5,c6,c7,c8,c9,c10,c11,c12,c13,c14,c15,rfl⟩:∃c0 c1 c2 c3 c4 c5 c6 c7 c8 c9 c10 c11 c12 c13 c14 c15,cs=[c0,c1,c2,c3,c4,c5,c6,c7,c8,c9,c10,c11,c12,c13,c14,c15]:=by
  match cs,hl with
  | [c0,c1,c2,c3,c4,c5,c6,c7,c8,c9,c10,c11,c12,c13,c14,c15],_=>exact⟨c0,c1,c2,c3,c4,c5,c6,c7,c8,c9,c10,c11,c12,c13,c14,c15,rfl⟩
 have hyn:ys.length=10:=hyl;obtain⟨y0,y1,y2,y3,y4,y5,y6,y7,y8,y9,rfl⟩:∃y0 y1 y2 y3 y4 y5 y6 y7 y8 y9,ys=[y0,y1,y2,y3,y4,y5,y6,y7,y8,y9]:=by
  match ys,hyn with
  | [y0,y1,y2,y3,y4,y5,y6,y7,y8,y9],_=>exact⟨y0,y1,y2,y3,y4,y5,y6,y7,y8,y9,rfl⟩
 have z0:Tryz.prog.cellsOf 3=1:=by kernel_rfl
 have z1:Tryz.prog.cellsOf 9=1:=by kernel_rfl
 have z2:Tryz.prog.cellsOf 41=1:=by kernel_rfl
 have z3:Tryz.prog.cellsOf 44=7:=by kernel_rfl
 have z4:Tryz.prog.cellsOf 45=1:=by kernel_rfl
 have z5:Tryz.prog.cellsOf 42=1:=by kernel_rfl
 have z6:Tryz.prog.cellsOf 40=1:=by kernel_rfl
 have z7:Tryz.prog.cellsOf 46=1:=by kernel_rfl
 have z8:Tryz.prog.cellsOf 47=1:=by kernel_rfl
 have h0:DataW.trod enc Tryz.prog w base spare held n' 3 (List.take (Tryz.prog.cellsOf 3) (List.drop 0 [c0,c1,c2,c3,c4,c5,c6,c7,c8,c9,c10,c11,c12,c13,c14,c15]))=some y0:=hf 0 _ rfl;rw[z0] at h0;obtain⟨a0,e0,q0⟩:=(mL _ _ _ _ _ n') n' [c0] y0 (by omega) rfl h0;have h1:DataW.trod enc Tryz.prog w base spare held n' 9 (List.take (Tryz.prog.cellsOf 9) (List.drop 1 [c0,c1,c2,c3,c4,c5,c6,c7,c8,c9,c10,c11,c12,c13,c14,c15]))=some y1:=hf 1 _ rfl;rw[z1] at h1;obtain⟨a1,e1,q1⟩:=(jh _ _ _ _ _ n') n' [c1] y1 (by omega) rfl h1;have h2:DataW.trod enc Tryz.prog w base spare held n' 41 (List.take (Tryz.prog.cellsOf 41) (List.drop 2 [c0,c1,c2,c3,c4,c5,c6,c7,c8,c9,c10,c11,c12,c13,c14,c15]))=some y2:=hf 2 _ rfl;rw[z2] at h2;obtain⟨a2,e2,q2⟩:=(ET Tryz.underlying41 n') n' [c2] y2 (by omega) rfl h2;have h3:DataW.trod enc Tryz.prog w base spare held n' 44 (List.take (Tryz.prog.cellsOf 44) (List.drop 3 [c0,c1,c2,c3,c4,c5,c6,c7,c8,c9,c10,c11,c12,c13,c14,c15]))=some y3:=hf 3 _ rfl;rw[z3] at h3;obtain⟨a3,e3,q3⟩:=((rE m).le (by omega:n'<=m)) n' [c3,c4,c5,c6,c7,c8,c9] y3 (by omega) rfl h3;have h4:DataW.trod enc Tryz.prog w base spare held n' 45 (List.take (Tryz.prog.cellsOf 45) (List.drop 10 [c0,c1,c2,c3,c4,c5,c6,c7,c8,c9,c10,c11,c12,c13,c14,c15]))=some y4:=hf 4 _ rfl;rw[z4] at h4;obtain⟨a4,e4,q4⟩:=(Dh n') n' [c10] y4 (by omega) rfl h4
 have h5:DataW.trod enc Tryz.prog w base spare held n' 42 (List.take (Tryz.prog.cellsOf 42) (List.drop 11 [c0,c1,c2,c3,c4,c5,c6,c7,c8,c9,c10,c11,c12,c13,c14,c15]))=some y5:=hf 5 _ rfl;rw[z5] at h5;obtain⟨a5,e5,q5⟩:=((BJ m).le (by omega:n'<=m)) n' [c11] y5 (by omega) rfl h5;have h6:DataW.trod enc Tryz.prog w base spare held n' 40 (List.take (Tryz.prog.cellsOf 40) (List.drop 12 [c0,c1,c2,c3,c4,c5,c6,c7,c8,c9,c10,c11,c12,c13,c14,c15]))=some y6:=hf 6 _ rfl;rw[z6] at h6;obtain⟨a6,e6,q6⟩:=(Ca n') n' [c12] y6 (by omega) rfl h6;have h7:DataW.trod enc Tryz.prog w base spare held n' 46 (List.take (Tryz.prog.cellsOf 46) (List.drop 13 [c0,c1,c2,c3,c4,c5,c6,c7,c8,c9,c10,c11,c12,c13,c14,c15]))=some y7:=hf 7 _ rfl;rw[z7] at h7;obtain⟨a7,e7,q7⟩:=(Cn n') n' [c13] y7 (by omega) rfl h7;have h8:DataW.trod enc Tryz.prog w base spare held n' 47 (List.take (Tryz.prog.cellsOf 47) (List.drop 14 [c0,c1,c2,c3,c4,c5,c6,c7,c8,c9,c10,c11,c12,c13,c14,c15]))=some y8:=hf 8 _ rfl;rw[z8] at h8;obtain⟨a8,e8,q8⟩:=(zj n') n' [c14] y8 (by omega) rfl h8;have h9:DataW.trod enc Tryz.prog w base spare held n' 3 (List.take (Tryz.prog.cellsOf 3) (List.drop 15 [c0,c1,c2,c3,c4,c5,c6,c7,c8,c9,c10,c11,c12,c13,c14,c15]))=some y9:=hf 9 _ rfl;rw[z0] at h9;obtain⟨a9,e9,q9⟩:=(mL _ _ _ _ _ n') n' [c15] y9 (by omega) rfl h9;obtain⟨A2,n2,c2'⟩:=a2;obtain⟨⟨ck,cn,⟨cvk,cvn,cvt⟩,cop⟩,CA,cnn,cc⟩:=a3;obtain⟨NA,nn,nc⟩:=a4;obtain⟨EA,en,ec⟩:=a5;obtain⟨OA,ol,oc⟩:=a6;obtain⟨GA,gn,gc⟩:=a7;obtain⟨BA,bn,bc⟩:=a8
 cases e0;cases e1;cases e2;cases e3;cases e4;cases e5;cases e6;cases e7;cases e8;cases e9;have hb:Rows.uptoBulk (DataW.agg (List.map (fun x:DataW H × List MemPlace=>x.1) [y0,y1,y2,y3,y4,y5,y6,y7,y8,y9]))=Rows.uptoBulk y0.1+Rows.uptoBulk y1.1+Rows.uptoBulk y2.1+Rows.uptoBulk y3.1+Rows.uptoBulk y4.1+Rows.uptoBulk y5.1+Rows.uptoBulk y6.1+Rows.uptoBulk y7.1+Rows.uptoBulk y8.1+Rows.uptoBulk y9.1+1:=by simp[Rows.uptoBulk,Rows.uptoBulkAll];try omega
 refine⟨⟨a0,a1,⟨A2,n2,c2'⟩,⟨⟨ck,cn,⟨cvk,cvn,cvt⟩,cop⟩,CA,cnn,cc⟩,⟨NA,nn,nc⟩,⟨EA,en,ec⟩,⟨OA,ol,oc⟩,⟨GA,gn,gc⟩,⟨BA,bn,bc⟩,a9⟩,rfl, ?_⟩;rw[hb];obtain⟨ce,x1,x2,x3⟩:=q3;obtain⟨ns,n1,n2', -,n4,n5⟩:=q4.mem;obtain⟨es,g1,g2,g3,g4⟩:=QX.args q5;obtain⟨os,o1,o2, -,o4,o5⟩:=q6.mem;obtain⟨gs,r1,r2, -,r4,r5⟩:=q7.mem;obtain⟨bs,b1,b2, -,b4,b5⟩:=q8.mem;refine⟨⟨a0,a1,ce,ns,es,os,gs,bs,a9⟩,⟨rfl,rfl,x1,n1,n2',g1,g2,o1,o2,r1,r2,b1,b2,rfl⟩,λhb=> ?_⟩;have hge:es.length<=(es.map (fj m)).sum:=oY m es;refine⟨⟨λe he=> ?_, ?_, ?_, ?_, ?_, ?_, ?_⟩,q0, ?_,q9,x3 (by omega),g4 (by omega),λs hs=> ?_,λp hp=> ?_,λp hp=> ?_,λp hp=> ?_⟩
 ·have:fj m e<=(es.map (fj m)).sum:=rF he;omega
 ·dsimp only;omega
 ·dsimp only;omega
 ·dsimp only;omega
 ·dsimp only;omega
 ·dsimp only;omega
 ·dsimp only;omega
 ·dsimp only;omega
 ·obtain⟨k,hk,hq⟩:=n5 s hs;omega
 ·obtain⟨k,hk,hq⟩:=o5 p hp;omega
 ·obtain⟨k,hk,hq⟩:=r5 p hp;omega
 obtain⟨k,hk,hq⟩:=b5 p hp;omega
structure TbIn (cs:List CD) (rows:List (List VD)):Prop where
 n:cs.length<=1048576
 m:rows.length<=1048576
 c:∀c∈cs,c.name.size<=1048576/\ve c.typ
 r:∀r∈rows,r.length<=1048576/\∀v∈r,v.Ok 1048576
def QT(w:World)(x:SL × SL)(b:Nat):Prop:=∃cs rows,TabAt w x.1 x.2 cs rows/\(b<=1048576->TbIn cs rows)
theorem VD.Ok.le{v:VD}{m n:Nat}(h:v.Ok m)(hm:m<=n):v.Ok n:=⟨h.k,h.n,bm h.t hm⟩
theorem mr.rows{s:SL}{b:Nat}(h:mr w eT (mr w ff (fun v b=>v.Ok b)) s b):∃rows:List (List VD),s.n=rows.length/\eW w s.A rows/\rows.length<=b/\∀r∈rows,r.length<=b/\∀v∈r,v.Ok b:=by
 obtain⟨l,bs,h1,h2,h3,h4,h5,h6,h7⟩:=h;obtain⟨es,g1,g2⟩:=qF (λ(x:SL)b(r:List VD)=>x.n=r.length/\eu w x.A r/\r.length<=b/\∀v∈r,v.Ok b) l bs h4 λi a b=>by obtain⟨r,r1,r2,_,r4,r5⟩:=(h7 i a b).mem;exact⟨r,r1,r2,r4,λv hv=>by obtain⟨k,hk,hq⟩:=r5 v hv;exact hq.le hk⟩
 refine⟨es,by rw[h1,g1],⟨l,⟨g1.symm,λi a b=>⟨(g2 i a (by omega) b).1,(g2 i a (by omega) b).2.1⟩⟩,h2⟩,by have:=pC bs h6;omega,λr hr=> ?_⟩;obtain⟨i,hi,rfl⟩:=aU.1 hr;have hi2:i<bs.length:=by omega
 have:=mz bs i hi2;exact⟨by have:=(g2 i (by omega) hi2 hi).2.2.1;omega,λv hv=>((g2 i (by omega) hi2 hi).2.2.2 v hv).le (by omega)⟩
theorem xC(m:Nat):jm enc w base spare held 27 m 2 kZ (QT w):=by
 intro n cs y hn hl h;obtain⟨ys,n',rfl,rfl, -,hyl,hf⟩:=df bV h;obtain⟨c0,c1,rfl⟩:∃c0 c1,cs=[c0,c1]:=by
  match cs,hl with
  | [c0,c1],_=>exact⟨c0,c1,rfl⟩
 have hyn:ys.length=2:=hyl;obtain⟨y0,y1,rfl⟩:∃y0 y1,ys=[y0,y1]:=by
  match ys,hyn with
  | [y0,y1],_=>exact⟨y0,y1,rfl⟩
 have z0:Tryz.prog.cellsOf 24=1:=by kernel_rfl
 have z1:Tryz.prog.cellsOf 25=1:=by kernel_rfl
 have h0:DataW.trod enc Tryz.prog w base spare held n' 24 (List.take (Tryz.prog.cellsOf 24) (List.drop 0 [c0,c1]))=some y0:=hf 0 _ rfl;rw[z0] at h0;obtain⟨a0,e0,q0⟩:=(Cm n') n' [c0] y0 (by omega) rfl h0;have h1:DataW.trod enc Tryz.prog w base spare held n' 25 (List.take (Tryz.prog.cellsOf 25) (List.drop 1 [c0,c1]))=some y1:=hf 1 _ rfl;rw[z1] at h1;obtain⟨a1,e1,q1⟩:=(CM n') n' [c1] y1 (by omega) rfl h1;obtain⟨A,k,c⟩:=a0;obtain⟨B,k2,c2⟩:=a1;cases e0;cases e1;have hb:Rows.uptoBulk (DataW.agg (List.map (fun x:DataW H × List MemPlace=>x.1) [y0,y1]))=Rows.uptoBulk y0.1+Rows.uptoBulk y1.1+1:=by simp[Rows.uptoBulk,Rows.uptoBulkAll];try omega
 refine⟨(⟨A,k,c⟩,⟨B,k2,c2⟩),rfl, ?_⟩;rw[hb];obtain⟨cs,n1,n2,n3,n4,n5⟩:=q0.mem;obtain⟨rows,r1,r2,r3,r4⟩:=q1.rows;refine⟨cs,rows,⟨n1,n3,n2,r1,r2⟩,λhb=>⟨by omega,by omega,λc hc=> ?_,λr hr=>⟨by have:=(r4 r hr).1;omega,λv hv=>((r4 r hr).2 v hv).le (by omega)⟩⟩⟩;obtain⟨k,hk,hq⟩:=n5 c hc;exact⟨by omega,hq.2⟩
def FV(x:PC × (SL × SL) × (SL × SL)):List Value:=ir x.1++(kZ x.2.1++kZ x.2.2)
def QS(w:World)(m:Nat)(x:PC × (SL × SL) × (SL × SL))(b:Nat):Prop:=∃(d:PD m)(a c:List CD)(ra rc:List (List VD)),PlanAt w x.1 d/\TabAt w x.2.1.1 x.2.1.2 a ra/\TabAt w x.2.2.1 x.2.2.2 c rc/\(b<=1048576->d.In/\TbIn a ra/\TbIn c rc)
theorem Dw(m:Nat):jm enc w base spare held 55 m 20 FV (QS w m):=by
 intro n cs y hn hl h;obtain⟨ys,n',rfl,rfl, -,hyl,hf⟩:=df Tryz.underlying55 h;obtain⟨c0,c1,c2,c3,c4,c5,c6,c7,c8,c9,c10,c11,c12,c13,c14,c15,c16,c17,c18,c19,rfl⟩:∃c0 c1 c2 c3 c4 c5 c6 c7 c8 c9 c10 c11 c12 c13 c14 c15 c16 c17 c18 c19,cs=[c0,c1,c2,c3,c4,c5,c6,c7,c8,c9,c10,c11,c12,c13,c14,c15,c16,c17,c18,c19]:=by
  match cs,hl with
  | [c0,c1,c2,c3,c4,c5,c6,c7,c8,c9,c10,c11,c12,c13,c14,c15,c16,c17,c18,c19],_=>exact⟨c0,c1,c2,c3,c4,c5,c6,c7,c8,c9,c10,c11,c12,c13,c14,c15,c16,c17,c18,c19,rfl⟩
 have hyn:ys.length=3:=hyl;obtain⟨y0,y1,y2,rfl⟩:∃y0 y1 y2,ys=[y0,y1,y2]:=by
  match ys,hyn with
  | [y0,y1,y2],_=>exact⟨y0,y1,y2,rfl⟩
 have z0:Tryz.prog.cellsOf 49=16:=by kernel_rfl
 have z1:Tryz.prog.cellsOf 27=2:=by kernel_rfl
 have h0:DataW.trod enc Tryz.prog w base spare held n' 49 (List.take (Tryz.prog.cellsOf 49) (List.drop 0 [c0,c1,c2,c3,c4,c5,c6,c7,c8,c9,c10,c11,c12,c13,c14,c15,c16,c17,c18,c19]))=some y0:=hf 0 _ rfl;rw[z0] at h0;obtain⟨a0,e0,q0⟩:=((Db m).le (by omega:n'<=m)) n' [c0,c1,c2,c3,c4,c5,c6,c7,c8,c9,c10,c11,c12,c13,c14,c15] y0 (by omega) rfl h0;have h1:DataW.trod enc Tryz.prog w base spare held n' 27 (List.take (Tryz.prog.cellsOf 27) (List.drop 16 [c0,c1,c2,c3,c4,c5,c6,c7,c8,c9,c10,c11,c12,c13,c14,c15,c16,c17,c18,c19]))=some y1:=hf 1 _ rfl;rw[z1] at h1;obtain⟨a1,e1,q1⟩:=(xC n') n' [c16,c17] y1 (by omega) rfl h1;have h2:DataW.trod enc Tryz.prog w base spare held n' 27 (List.take (Tryz.prog.cellsOf 27) (List.drop 18 [c0,c1,c2,c3,c4,c5,c6,c7,c8,c9,c10,c11,c12,c13,c14,c15,c16,c17,c18,c19]))=some y2:=hf 2 _ rfl;rw[z1] at h2;obtain⟨a2,e2,q2⟩:=(xC n') n' [c18,c19] y2 (by omega) rfl h2;obtain⟨k0,k1,⟨A2,n2,c2'⟩,⟨⟨ck,cn,⟨cvk,cvn,cvt⟩,cop⟩,CA,cnn,cc⟩,⟨NA,nn,nc⟩,⟨EA,en,ec⟩,⟨OA,ol,oc⟩,⟨GA,gn,gc⟩,⟨BA,bn,bc⟩,count⟩:=a0;obtain⟨⟨A,k,c⟩,⟨B,k2,c2⟩⟩:=a1;obtain⟨⟨A',k',c'⟩,⟨B',k2',c2''⟩⟩:=a2;cases e0;cases e1;cases e2;have hb:Rows.uptoBulk (DataW.agg (List.map (fun x:DataW H × List MemPlace=>x.1) [y0,y1,y2]))=Rows.uptoBulk y0.1+Rows.uptoBulk y1.1+Rows.uptoBulk y2.1+1:=by simp[Rows.uptoBulk,Rows.uptoBulkAll];try omega
 refine⟨(⟨k0,k1,⟨A2,n2,c2'⟩,⟨⟨ck,cn,⟨cvk,cvn,cvt⟩,cop⟩,CA,cnn,cc⟩,⟨NA,nn,nc⟩,⟨EA,en,ec⟩,⟨OA,ol,oc⟩,⟨GA,gn,gc⟩,⟨BA,bn,bc⟩,count⟩,(⟨A,k,c⟩,⟨B,k2,c2⟩),(⟨A',k',c'⟩,⟨B',k2',c2''⟩)),rfl, ?_⟩;rw[hb];obtain⟨d,d1,d2⟩:=q0;obtain⟨a,ra,t1,t2⟩:=q1;obtain⟨b,rb,u1,u2⟩:=q2;exact⟨d,a,b,ra,rb,d1,t1,u1,λhb=>⟨d2 (by omega),t2 (by omega),u2 (by omega)⟩⟩
theorem EC{t:TypeId}{fs:Array Field}{C:Nat}{α:Type}{E:α->List Value}{Q:Nat->α->Nat->Prop}(ht:Tryz.prog.underlying t=some (.struct fs))(hC:Tryz.prog.cellsOf t=C)(ho:∀ m,jm enc w base spare held t m C E (Q m)) {v:Value} {r:Go.Reach} {b0:Nat} {d:DataW H} {p:List MemPlace} (hv:Value.okWide Tryz.prog w r b0 t v) (h:DataW.Trod enc Tryz.prog w base spare held t v d p):∃(m:Nat)(a:α),v=.agg (E a).toArray/\Q m a (Rows.uptoBulk d):=by obtain⟨cs,rfl,hsz⟩:=okWide_struct ht hv;obtain⟨m,hm⟩:=h;rw[hC] at hsz;obtain⟨a,h1,h2⟩:=ho m m cs.toList (d,p) (aL _) (by simpa using hsz) hm;exact⟨m,a,by rw[h1],h2⟩
theorem AC{v:Value}{r:Go.Reach}{b0:Nat}{d:DataW H}{p:List MemPlace}(hv:Value.okWide Tryz.prog w r b0 55 v)(h:DataW.Trod enc Tryz.prog w base spare held 55 v d p):
 ∃(m:Nat)(x:PC × (SL × SL) × (SL × SL)),v=.agg (FV x).toArray/\QS w m x (Rows.uptoBulk d):=EC Tryz.underlying55 (by kernel_rfl) Dw hv h
end
end
section
open Go.RowKit
theorem kJ{w:World}{g:Nat}{l:List Value}{t:TypeId}(h:w.heap[g]?=some (.cells l.toArray t (0,0))):w.rangeAt g 0 l:=λj v hj=>by rw[Nat.zero_add];exact d_ h (by simpa using hj)
theorem TbIn.tb{cs:List CD}{rows:List (List VD)}(h:TbIn cs rows)(hs:gO cs rows=true):TbOk cs rows:=by obtain⟨h1,h2,h3,h4⟩:=xe hs;exact⟨h3,h4,h.c,λr hr=>⟨(h2 r hr).1,(h.r r hr).2⟩⟩
end
section
open Go.RowKit
section
variable {P:Program} {ops:Array Oper} {Q:Exit->Act->World->Prop} {md:Region.Mode} {S:World->Prop} {m:Nat}
def kn(P:Program)(md:Region.Mode)(ops:Array Oper)(Q:Exit->Act->World->Prop)(S:World->Prop)(m:Nat):Nat->Array Bool->Act->World->Prop
 | 0,listed,a,w=>Region.ready md ops listed=[]/\Q .normal a w
 |fuel+1,listed,a,w =>
  (Region.ready md ops listed=[]->Q .normal a w) /\
  ∀i∈Region.ready md ops listed,wpOp P ops Q i (λa' w'=>((listed.setIfInBounds i true).getD m true=false->S w')/\kn P md ops Q S m fuel (listed.setIfInBounds i true) a' w') a w
theorem nW:∀(fuel:Nat)(listed:Array Bool)(a:Act)(w:World),kn P md ops Q S m fuel listed a w->wpAny P md ops Q fuel listed a w
 | 0,_,_,_,h=>h
 |fuel+1,_,_,_,h=>⟨h.1,λi hi=>wpOp_mono (λa' w' h'=>nW fuel _ a' w' h'.2) (h.2 i hi)⟩
theorem wS{i:Nat}{oi om:Oper}{v:Value}(hi:ops[i]?=some oi)(hsel:∀ (j:Nat) (o:Oper) cs b,ops[j]?=some o->o.op≠.select cs b) (hQ:∀c a w,Q (.panic c) (a.put oi.dst v) w->Q (.panic c) a w) (hmi:m≠i) (hom:ops[m]?=some om) (hwait:∃e∈om.after,Region.binds md e=true/\e.on=i) : ∀(fuel:Nat)(listed:Array Bool)(a:Act)(w:World),listed.getD m true=false -> (∀j oj,ops[j]?=some oj->j≠i->listed.getD j true=false->(∀e∈oj.after,Region.binds md e=true->e.on≠i)->oi.apart ops oj=true) -> i∈Region.ready md ops listed->YieldsIf P ops S oi v a->S w -> kn P md ops Q S m fuel (listed.setIfInBounds i true) (a.put oi.dst v) w->kn P md ops Q S m (fuel+1) listed a w:=by
 intro fuel;induction fuel with
 |zero =>
  intro listed a w _ _ hr hy hS H
  refine⟨λh=>(by rw[h] at hr;cases hr),λj hj=> ?_⟩
  by_cases hji:j=i
  ·subst hji;exact hy.wpOp hi hS ⟨λ_=>hS,H⟩
  ·have:=ready_mono hj hji;rw[H.1] at this;cases this
 |succ fuel ih =>
  intro listed a w hml hfree hr hy hS H
  refine⟨λh=>(by rw[h] at hr;cases hr),λj hj=> ?_⟩
  by_cases hji:j=i
  ·subst hji;exact hy.wpOp hi hS ⟨λ_=>hS,H⟩
  ·have h1:=H.2 j (ready_mono hj hji);obtain⟨hjun,oj,hoj,hall⟩:=mem_ready.1 hj;have hnot:∀e∈oj.after,Region.binds md e=true->e.on≠i:=λe he hb heq=>by
    have h1:=hall e he hb;have h0:=(mem_ready.1 hr).1;rw[heq] at h1;rcases Nat.lt_or_ge i listed.size with h'|h'
    ·simp[h'] at h0 h1;rw[h0] at h1;cases h1
    simp[Array.getElem?_eq_none h'] at h1
   have hjm:j≠m:=λe=>by subst e;rw[hoj] at hom;injection hom with hom;subst hom;obtain⟨e,he,hb,heq⟩:=hwait;exact hnot e he hb heq
   have hml':(listed.setIfInBounds j true).getD m true=false:=by rw[getD_set_ne true hjm];exact hml
   have hml2:((listed.setIfInBounds i true).setIfInBounds j true).getD m true=false:=by rw[getD_set_ne true hjm,getD_set_ne true (Ne.symm hmi)];exact hml
   have h2:=wpOp_putIf hoj (hfree j oj hoj hji hjun hnot) (λcs b=>hsel i oi cs b hi) (λcs b=>hsel j oj cs b hoj) hQ hy h1;have hfree':∀k ok,ops[k]?=some ok->k≠i->(listed.setIfInBounds j true).getD k true=false ->
     (∀e∈ok.after,Region.binds md e=true->e.on≠i)->oi.apart ops ok=true:=λk ok hk hki hun hno=>by
    refine hfree k ok hk hki ?_ hno
    by_cases hjk:j=k
    ·subst hjk;exact hjun
    ·rw[getD_set_ne true hjk] at hun;exact hun
   refine wpOp_mono (λa' w' h3=>⟨λ_=>h3.2.1 hml2,ih (listed.setIfInBounds j true) a' w' hml' hfree' (ready_mono hr (Ne.symm hji)) h3.1 (h3.2.1 hml2) ?_⟩) h2;rw[Array.setIfInBounds_comm _ _ hji];exact h3.2.2
theorem kg{i d:Nat}{oi om:Oper}{v:Value}{fuel:Nat}{listed:Array Bool}{a:Act}{w:World}(hi:ops[i]?=some oi)(hd:oi.dst=some d) (hs:Region.noSelect ops=true) (hf:Region.free md ops listed i=true) (hr:(Region.ready md ops listed).contains i=true) (hQ:∀c a w,Q (.panic c) (a.put oi.dst v) w->Q (.panic c) a w) (hmi:m≠i) (hom:ops[m]?=some om) (hwait:(om.after.any λe=>Region.binds md e&&e.on==i)=true) (hml:listed.getD m true=false) (hy:YieldsIf P ops S oi v a) (hS:S w) (h:kn P md ops Q S m fuel (listed.setIfInBounds i true) (a.put (some d) v) w):kn P md ops Q S m (fuel+1) listed a w:=by refine wS hi (Region.noSelect_spec hs) hQ hmi hom ?_ fuel listed a w hml (Region.free_spec hi hf) (by simpa using hr) hy hS (by rw[hd];exact h);obtain⟨k,hk,hb⟩:=Array.any_eq_true.1 hwait;simp only[Bool.and_eq_true,beq_iff_eq] at hb;exact⟨_,Array.getElem_mem _,hb.1,hb.2⟩
theorem ng{i:Nat}{oi:Oper}{fuel:Nat}{listed:Array Bool}{a:Act}{w:World}(hr:Region.ready md ops listed=[i])(hi:ops[i]?=some oi) (h:∀K:Act->World->Prop,(∀a' w',((listed.setIfInBounds i true).getD m true=false->S w')->kn P md ops Q S m fuel (listed.setIfInBounds i true) a' w'->K a' w')->if Region.wanted oi (yielded ops a.tmps)=true then Oper.wp P oi a w K Q else K (a.put oi.dst undef) w):kn P md ops Q S m (fuel+1) listed a w:=by
 refine⟨λh0=>absurd (hr ▸ h0) (by simp),λj hj=> ?_⟩;rw[hr] at hj;obtain rfl:j=i:=by simpa using hj
 have h1:=h (λa' w'=>((listed.setIfInBounds j true).getD m true=false->S w')/\kn P md ops Q S m fuel (listed.setIfInBounds j true) a' w') (λa' w' h1 h2=>⟨h1,h2⟩);unfold wpOp;simp only[hi];split
 ·rename_i hw;rw[ae hw] at h1;exact .inl h1
 rename_i hw;rw[ab hw] at h1;exact h1
theorem D8{listed:Array Bool}{a:Act}{w:World}(hr:Region.ready md ops listed=[])(h:Q .normal a w):∀fuel,kn P md ops Q S m fuel listed a w
 | 0=>⟨hr,h⟩
 | _+1=>⟨λ_=>h,by rw[hr];simp⟩
theorem nu(m:Nat)(S:World->Prop){id:Nat}{a:Act}{w:World}(hm:P.follows .mixedOrders=true)
  (h:kn P .any ops Q S m ops.size (Array.replicate ops.size false) a w.drew):(Code.region id ops true).wp P Q a w:=
 wp_region_any hm (nW _ _ _ _ h)
end
end
end Go.Proofs.YtafoklilkdnepaaGreatDoor
