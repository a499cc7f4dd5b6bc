/- Part 24 of the texts of this proof, one behind the other. No condition beyond those that its theorems state. -/
import Derived.Test.YtafoklilkdnepaaGreatDoorRe23
set_option linter.all false
set_option maxRecDepth 40000
set_option maxHeartbeats 25600000
namespace Go.Proofs.YtafoklilkdnepaaGreatDoor
section
open Go.RowKit
def D7:XC:=⟨⟨0,⟨#[]⟩,⟨0,0,⟨#[]⟩⟩,⟨#[]⟩⟩,none,0,0⟩
def kE:SL:=⟨none,0,0⟩
def eH(s:ByteArray):PC:=⟨1,s,kE,D7,kE,kE,kE,kE,kE,0⟩
def o_(ga gp:Nat):PC:=⟨6,⟨#[]⟩,⟨some ⟨gp,0,none⟩,1,1⟩,D7,kE,kE,kE,⟨some ⟨ga,0,none⟩,1,1⟩,kE,0⟩
def kG:List SrcD:=[⟨⟨#[120]⟩,[⟨⟨#[97]⟩,1⟩],[]⟩]
theorem Ao:iS kG ⟨#[120]⟩=(0,[⟨⟨#[97]⟩,1⟩]):=by
 have h1:j8 kG ⟨#[120]⟩=some 0:=k8 (l:=kG) (k:=0) (by simp[kG]) rfl (λj hj=>absurd hj (by omega));unfold iS;rw[h1];have h2:ft [⟨⟨#[97]⟩,1⟩] []=0:=by decide +kernel
 simp only[kG,List.getElem?_cons_zero];exact ae h2
theorem tL:g_ [⟨⟨#[97]⟩,1⟩] [] [⟨⟨#[99,111,117,110,116]⟩,⟨#[]⟩,⟨#[110]⟩⟩]=(0,[⟨⟨#[110]⟩,1⟩]):=by
 have h:fU [⟨⟨#[97]⟩,1⟩] ⟨⟨#[99,111,117,110,116]⟩,⟨#[]⟩,⟨#[110]⟩⟩=(1,0):=by unfold fU;rw[ab (by decide +kernel),ae rfl];exact ae rfl
 unfold g_;simp only[jQ,jP,h];rfl
theorem Dm(c:CD)(n:Int)(h:c.typ=1):gK c ⟨1,n,⟨#[]⟩⟩=true:=by
 have hr:VD.right ⟨1,n,⟨#[]⟩⟩=true:=by unfold VD.right;rw[jW];rfl
 unfold gK;rw[hr,h];rfl
theorem vx{vs:List (Int × List CD)}{v:Int × List CD}(h1:fI vs=0)(h2:v.1=0)(h3:eB v.2=0):gw vs v=(0,v.2):=by unfold gw;rw[ae h1,ae h2,ae h3]
theorem vF{vs:List (Int × List CD × List (List VD))}{cs:List CD}{rv:Int × List (List VD)}(h1:fI (vs.map fun v=>(v.1,v.2.1))=0)(h2:rv.1=0)(h3:e_ cs rv.2=0):fu vs cs rv=(0,cs,fF rv.2):=by unfold fu;rw[ae h1,ae h2,ae h3]
theorem tU:eB [⟨⟨#[110]⟩,1⟩]=0:=by decide +kernel
theorem Ek:e_ [⟨⟨#[110]⟩,1⟩] [[⟨1,0,⟨#[]⟩⟩]]=0:=by
 unfold e_;rw[ae tU,ab (by simp)];have:[[(⟨1,0,⟨#[]⟩⟩:VD)]].all (fw [⟨⟨#[110]⟩,1⟩])=true:=by have h:=Dm ⟨⟨#[110]⟩,1⟩ 0 rfl;unfold fw;simp[h]
 rw[ae this]
theorem lm(w:World)(hG:gm w):Calls Tryz.prog 9 #[] w λe w'=>e=.returned (.bool true)/\Touch [] w w':=by
 obtain⟨W,hW⟩:∃W,W=(((((w.alloc (.cells #[.string ⟨#[97]⟩,.int .i64 1] 29)).alloc (.cells #[.string ⟨#[120]⟩,.slice (some ⟨w.heap.size,0,none⟩) 1 1,.slice none 0 0] 36)).alloc (.cells #[.string ⟨#[99,111,117,110,116]⟩,.string ⟨#[]⟩,.string ⟨#[110]⟩] 79)).alloc (.cells #[.int .i64 1,.string ⟨#[120]⟩,.slice none 0 0,.int .i64 0,.string ⟨#[]⟩,.int .i64 0,.int .i64 0,.string ⟨#[]⟩,.string ⟨#[]⟩,.slice none 0 0,.slice none 0 0,.slice none 0 0,.slice none 0 0,.slice none 0 0,.slice none 0 0,.int .i64 0] 49)).alloc (.cells #[.int .i64 6,.string ⟨#[]⟩,.slice (some ⟨w.heap.size+1+1+1,0,none⟩) 1 1,.int .i64 0,.string ⟨#[]⟩,.int .i64 0,.int .i64 0,.string ⟨#[]⟩,.string ⟨#[]⟩,.slice none 0 0,.slice none 0 0,.slice none 0 0,.slice none 0 0,.slice (some ⟨w.heap.size+1+1,0,none⟩) 1 1,.slice none 0 0,.int .i64 0] 49)):=⟨_,rfl⟩;have t0:Touch [] w W:=hW ▸ (((((Touch.refl [] w).alloc _).alloc _).alloc _).alloc _).alloc _;have hc:em W (some ⟨w.heap.size,0,none⟩) [⟨⟨#[97]⟩,1⟩]:=hW ▸ d9.touch0 (d9.one (enc:=fQ) w 29 ⟨⟨#[97]⟩,1⟩ _ rfl) (((((Touch.refl [] _).alloc _).alloc _).alloc _).alloc _);have hs:d9 st W (some ⟨w.heap.size+1,0,none⟩) [⟨⟨#[120]⟩,⟨some ⟨w.heap.size,0,none⟩,1,1⟩,kE⟩]:=by
  have h1:=d9.touch0 (d9.one (enc:=st) (w.alloc (.cells #[.string ⟨#[97]⟩,.int .i64 1] 29)) 36 ⟨⟨#[120]⟩,⟨some ⟨w.heap.size,0,none⟩,1,1⟩,kE⟩ #[.string ⟨#[120]⟩,.slice (some ⟨w.heap.size,0,none⟩) 1 1,.slice none 0 0] rfl) ((((Touch.refl [] _).alloc (.cells #[.string ⟨#[99,111,117,110,116]⟩,.string ⟨#[]⟩,.string ⟨#[110]⟩] 79)).alloc (.cells #[.int .i64 1,.string ⟨#[120]⟩,.slice none 0 0,.int .i64 0,.string ⟨#[]⟩,.int .i64 0,.int .i64 0,.string ⟨#[]⟩,.string ⟨#[]⟩,.slice none 0 0,.slice none 0 0,.slice none 0 0,.slice none 0 0,.slice none 0 0,.slice none 0 0,.int .i64 0] 49)).alloc (.cells #[.int .i64 6,.string ⟨#[]⟩,.slice (some ⟨w.heap.size+1+1+1,0,none⟩) 1 1,.int .i64 0,.string ⟨#[]⟩,.int .i64 0,.int .i64 0,.string ⟨#[]⟩,.string ⟨#[]⟩,.slice none 0 0,.slice none 0 0,.slice none 0 0,.slice none 0 0,.slice (some ⟨w.heap.size+1+1,0,none⟩) 1 1,.slice none 0 0,.int .i64 0] 49));rw[ao] at h1;exact hW ▸ h1
 have ha:d9 lK W (some ⟨w.heap.size+1+1,0,none⟩) [⟨⟨#[99,111,117,110,116]⟩,⟨#[]⟩,⟨#[110]⟩⟩]:=by have h1:=d9.touch0 (d9.one (enc:=lK) ((w.alloc (.cells #[.string ⟨#[97]⟩,.int .i64 1] 29)).alloc (.cells #[.string ⟨#[120]⟩,.slice (some ⟨w.heap.size,0,none⟩) 1 1,.slice none 0 0] 36)) 79 ⟨⟨#[99,111,117,110,116]⟩,⟨#[]⟩,⟨#[110]⟩⟩ #[.string ⟨#[99,111,117,110,116]⟩,.string ⟨#[]⟩,.string ⟨#[110]⟩] rfl) (((Touch.refl [] _).alloc (.cells #[.int .i64 1,.string ⟨#[120]⟩,.slice none 0 0,.int .i64 0,.string ⟨#[]⟩,.int .i64 0,.int .i64 0,.string ⟨#[]⟩,.string ⟨#[]⟩,.slice none 0 0,.slice none 0 0,.slice none 0 0,.slice none 0 0,.slice none 0 0,.slice none 0 0,.int .i64 0] 49)).alloc (.cells #[.int .i64 6,.string ⟨#[]⟩,.slice (some ⟨w.heap.size+1+1+1,0,none⟩) 1 1,.int .i64 0,.string ⟨#[]⟩,.int .i64 0,.int .i64 0,.string ⟨#[]⟩,.string ⟨#[]⟩,.slice none 0 0,.slice none 0 0,.slice none 0 0,.slice none 0 0,.slice (some ⟨w.heap.size+1+1,0,none⟩) 1 1,.slice none 0 0,.int .i64 0] 49));rw[ao,ao] at h1;exact hW ▸ h1
 have hp:d9 ir W (some ⟨w.heap.size+1+1+1,0,none⟩) [eH ⟨#[120]⟩]:=by have h1:=d9.touch0 (d9.one (enc:=ir) (((w.alloc (.cells #[.string ⟨#[97]⟩,.int .i64 1] 29)).alloc (.cells #[.string ⟨#[120]⟩,.slice (some ⟨w.heap.size,0,none⟩) 1 1,.slice none 0 0] 36)).alloc (.cells #[.string ⟨#[99,111,117,110,116]⟩,.string ⟨#[]⟩,.string ⟨#[110]⟩] 79)) 49 (eH ⟨#[120]⟩) #[.int .i64 1,.string ⟨#[120]⟩,.slice none 0 0,.int .i64 0,.string ⟨#[]⟩,.int .i64 0,.int .i64 0,.string ⟨#[]⟩,.string ⟨#[]⟩,.slice none 0 0,.slice none 0 0,.slice none 0 0,.slice none 0 0,.slice none 0 0,.slice none 0 0,.int .i64 0] rfl) ((Touch.refl [] _).alloc (.cells #[.int .i64 6,.string ⟨#[]⟩,.slice (some ⟨w.heap.size+1+1+1,0,none⟩) 1 1,.int .i64 0,.string ⟨#[]⟩,.int .i64 0,.int .i64 0,.string ⟨#[]⟩,.string ⟨#[]⟩,.slice none 0 0,.slice none 0 0,.slice none 0 0,.slice none 0 0,.slice (some ⟨w.heap.size+1+1,0,none⟩) 1 1,.slice none 0 0,.int .i64 0] 49));rw[ao,ao,ao] at h1;exact hW ▸ h1
 have hS:iK W (some ⟨w.heap.size+1,0,none⟩) kG:=⟨_,rfl,hs,λi a b=>by
  obtain rfl:i=0:=by simp at a;omega
  exact⟨rfl,rfl,aL _,hc,rfl,[],⟨rfl,λi h=>absurd h (by simp)⟩,d9.nil _ _ _⟩⟩
 have hok:∀d∈kG,d.Ok:=λd hd=>by simp only[kG,List.mem_singleton] at hd;subst hd;exact⟨λc hc=>by simp only[List.mem_singleton] at hc;subst hc;exact⟨by show 1<=_;omega,by constructor<;>(dsimp only;omega)⟩,by simp,λr hr=>by simp at hr,by simp⟩
 have hcok:∀c∈[(⟨⟨#[110]⟩,1⟩:CD)],c.Ok:=λc hc=>by simp only[List.mem_singleton] at hc;subst hc;exact⟨by show 1<=_;omega,by constructor<;>(dsimp only;omega)⟩
 have hszL:∀W',jo W' (eH ⟨#[120]⟩) 1:=λW'=>oP _ rfl W';have hsz:jo W (o_ (w.heap.size+1+1) (w.heap.size+1+1+1)) 2:=mF _ [eH ⟨#[120]⟩] [1] W rfl rfl hp (λi a b=>by
  obtain rfl:i=0:=by simp at a;omega
  exact hszL W) (by simp) (by show 1<=_;omega)
 have hty:gI W (some ⟨w.heap.size+1,0,none⟩) 1 1 (o_ (w.heap.size+1+1) (w.heap.size+1+1+1)) 1 (0,[⟨⟨#[110]⟩,1⟩]):=by
  have h1:=j4 (o_ (w.heap.size+1+1) (w.heap.size+1+1+1)) 6 1 rfl (by omega) (by omega) rfl rfl 1 (by omega) (by omega) (some ⟨w.heap.size+1,0,none⟩) 1 1 W (hG.touch0 t0) [eH ⟨#[120]⟩] [(0,[⟨⟨#[97]⟩,1⟩])] rfl rfl hp (λi a b=>by
   obtain rfl:i=0:=by simp at a;omega
   have:=kL (eH ⟨#[120]⟩) rfl rfl (1+1) (by omega) (some ⟨w.heap.size+1,0,none⟩) 1 1 kG rfl (by omega) hok W (hG.touch0 t0) hS;rw[show (eH ⟨#[120]⟩).name=⟨#[120]⟩ from rfl,Ao] at this;exact this) (0,[⟨⟨#[110]⟩,1⟩]) (λ_=>by
   have:=mi (o_ (w.heap.size+1+1) (w.heap.size+1+1+1)) rfl [] [⟨⟨#[99,111,117,110,116]⟩,⟨#[]⟩,⟨#[110]⟩⟩] rfl rfl (by simp) (by simp) [⟨⟨#[97]⟩,1⟩] (by simp) W (d9.nil _ _ _) ha;rw[tL] at this;exact this) hcok (by simp)
  have h2:gw [(0,[⟨⟨#[97]⟩,1⟩])] (0,[⟨⟨#[110]⟩,1⟩])=(0,[⟨⟨#[110]⟩,1⟩]):=by exact vx rfl rfl tU
  rw[h2] at h1;exact h1
 have hev:gV W (some ⟨w.heap.size+1,0,none⟩) 1 1 (o_ (w.heap.size+1+1) (w.heap.size+1+1+1)) (0,[⟨⟨#[110]⟩,1⟩],[[⟨1,0,⟨#[]⟩⟩]]):=by
  have h1:=jS (o_ (w.heap.size+1+1) (w.heap.size+1+1+1)) 6 1 rfl (by omega) rfl (by omega) (some ⟨w.heap.size+1,0,none⟩) 1 1 W [eH ⟨#[120]⟩] [(0,[⟨⟨#[97]⟩,1⟩],[])] rfl rfl hp (λi a b=>by
   obtain rfl:i=0:=by simp at a;omega
   exact kD (eH ⟨#[120]⟩) rfl rfl (some ⟨w.heap.size+1,0,none⟩) 1 1 kG rfl (by omega) 0 (by simp[kG]) (k8 (l:=kG) (k:=0) (by simp[kG]) rfl (λj hj=>absurd hj (by omega))) (by simp[kG]) (by simp[kG]) (λr hr=>by simp[kG] at hr) W hS) 0 [⟨⟨#[110]⟩,1⟩] (λ_=>by
   have:=mi (o_ (w.heap.size+1+1) (w.heap.size+1+1+1)) rfl [] [⟨⟨#[99,111,117,110,116]⟩,⟨#[]⟩,⟨#[110]⟩⟩] rfl rfl (by simp) (by simp) [⟨⟨#[97]⟩,1⟩] (by simp) W (d9.nil _ _ _) ha;rw[tL] at this;exact this) (0,[[⟨1,0,⟨#[]⟩⟩]]) (λ_=>wH _ rfl rfl rfl _ _ _ (by simp) W ha) hcok (by simp)
   (λr hr=>by simp only[List.mem_singleton] at hr;subst hr;exact⟨by simp,λv hv=>by simp only[List.mem_singleton] at hv;subst hv;exact⟨by constructor<;>(dsimp only;omega),by constructor<;>(dsimp only;omega),aY _⟩⟩)
   (λr hr=>by simp only[List.mem_singleton] at hr;subst hr;simp) (by simp)
  have h2:fu [(0,[⟨⟨#[97]⟩,1⟩],[])] [⟨⟨#[110]⟩,1⟩] (0,[[⟨1,0,⟨#[]⟩⟩]])=(0,[⟨⟨#[110]⟩,1⟩],[[⟨1,0,⟨#[]⟩⟩]]):=by rw[vF rfl rfl Ek,An]
  rw[h2] at h1;exact h1
 have hT:=od (o_ (w.heap.size+1+1) (w.heap.size+1+1+1)) 2 (by omega) (some ⟨w.heap.size+1,0,none⟩) 1 1 (0,[⟨⟨#[110]⟩,1⟩]) (0,[⟨⟨#[110]⟩,1⟩],[[⟨1,0,⟨#[]⟩⟩]]) W hsz hty (λ_=>hev);rw[show kf (0,[⟨⟨#[110]⟩,1⟩]) (0,[⟨⟨#[110]⟩,1⟩],[[⟨1,0,⟨#[]⟩⟩]])=(0,[⟨⟨#[110]⟩,1⟩],[[⟨1,0,⟨#[]⟩⟩]]) from by unfold kf;rw[ae rfl]] at hT;have hT':Calls Tryz.prog 12 #[(o_ (w.heap.size+1+1) (w.heap.size+1+1+1)).val,.slice (some ⟨w.heap.size+1,0,none⟩) 1 1] W λe w'=>∃SA sc RA rc,e=.returned (.tuple #[.agg #[.slice SA 1 sc,.slice RA 1 rc],.int .i64 0])/\NewTab W.heap.size w' ⟨SA,1,sc⟩ ⟨RA,1,rc⟩ [⟨⟨#[110]⟩,1⟩] [[⟨1,0,⟨#[]⟩⟩]]/\Touch [] W w':=by refine hT.mono ?_;rintro e w' ⟨⟨SA,sn,sc⟩,⟨RA,rn,rc⟩,he,hn,ht⟩;have h1:sn=1:=hn.n;have h4:rn=1:=hn.m;subst h1 h4;exact⟨SA,sc,RA,rc,he,hn,ht⟩
 have HT:=lh hT';have HW:=lh hW;have H0:=lh t0;have Hof:=lh λw'=>rS 0 w';clear hT hT' hev hty hsz hszL hcok hok hS hp ha hs hc t0 hW;go_enter Tryz.func9,Tryz.ntmps9;go_wp2_with fail;rw[<- HW.o];refine HT.o.mono ?_;rintro e w1 ⟨SA,sc,RA,rc,rfl,hnt,t1⟩;have hT2:=hnt.tab;obtain⟨h1,h2,h3,h4,h5⟩:=hT2;clear h1 h4;dsimp only at h2 h3 h5;have t2:=(Touch.refl [] w1).alloc (.cells #[.slice SA 1 sc,.slice RA 1 rc] 27);have hb2:=ah w1 (.cells #[.slice SA 1 sc,.slice RA 1 rc] 27);obtain⟨ad,b1,o1,rfl,hadd,c0,c1⟩:=h3.at_ 0 (by simp);obtain⟨bd,A9,c9,rfl,e0,hv⟩:=h5.at_ 0 (by simp);obtain⟨ad9,b9,o9,rfl,hadd9,v0,v1,v2⟩:=hv.at_ 0 (by simp);have ha0:∀x:Addr,x.add 0=x:=λx=>by cases x;simp[Addr.add]
 rw[bQ,ha0] at hadd hadd9;subst hadd hadd9;simp only[List.getElem_cons_zero] at c0 c1 e0 v0 v1 v2;obtain⟨W2,hW2⟩:∃W2,W2=w1.alloc (.cells #[.slice (some ⟨b1,o1,none⟩) 1 sc,.slice (some bd) 1 rc] 27):=⟨_,rfl⟩;rw[<- hW2] at t2 hb2;have e0':=e0;rw[ha0] at e0';have HT1:=lh (t1.trans0 t2);have HG:=Gh t2 hb2 c0 c1 e0' v0 v1 v2;have HW2:=lh hW2;clear ha0 hnt h3 h5 hv e0 e0' c0 c1 v0 v1 v2 t1 t2 hb2 hW2;go_wp2_with fail;rw[<- HW2.o];obtain⟨t2,hb2,c0,c1,e0',v0,v1,v2⟩:=HG.o;obtain⟨q0,q1,_,_⟩:=eL hb2;have g0:=TW.cell q0;have g1:=TW.cell q1;have g2:=TW.cell (t2.cell c0 (by simp));have g3:=TW.cell (t2.cell c1 (by simp));have g4':=TW.cell (t2.cell e0' (by simp));have g5:=TW.cell (t2.cell v0 (by simp));have g6:=TW.cell (t2.cell v1 (by simp));have g7:=TW.cell (t2.cell v2 (by simp));clear t2 hb2 c0 c1 e0' v0 v1 v2 q0 q1;have heq:=λw'=>vo ⟨1,0,⟨#[]⟩⟩ ⟨1,0,⟨#[]⟩⟩ w';have heqv:t_ ⟨1,0,⟨#[]⟩⟩ ⟨1,0,⟨#[]⟩⟩=true:=(xH _ _).2 rfl;rw[heqv] at heq;dsimp only at heq;have hgd:=uh;have hlit:((⟨#[110]⟩:ByteArray).toList==[110])=true:=by rw[jW];rfl
 clear heqv;refine eh W2 (Touch.refl _ _) (by kernel_rfl) (by kernel_rfl) ?_;repeat (go_big_quiet_step (((go_at_call 11;exact Calls.tw _ (Hof.o _)))))
 refine aS ?_;rintro _ ⟨x9,rfl⟩;go_wp2;go_ret;exact⟨rfl,(H0.o.trans0 HT1.o).trans0 x9.t⟩
end
section
open Go.RowKit
def tW(t:Int):Prop:= -9223372036854775808<=t/\t<=9223372036854775807
theorem ld{p q:ND->Prop}(hpq:∀ d,p d->q d):∀(n:Nat)(e:TX n),gj p n e->gj q n e
 | 0,_,_=>trivial
 |n+1,e,h=>⟨hpq _ h.1,λa ha=>ld hpq n a (h.2 a ha)⟩
theorem CD.ok_w{c:CD}(h1:c.name.size<=1048576)(h2:tW c.typ):c.Ok:=⟨by omega,h2⟩
structure TbOk (cs:List CD) (rows:List (List VD)):Prop where
 n:cs.length<=16
 m:rows.length<=30
 c:∀c∈cs,c.name.size<=1048576/\tW c.typ
 r:∀r∈rows,r.length<=20/\∀v∈r,v.Ok 1048576
theorem VD.Ok.le'{v:VD}{m n:Nat}(h:v.Ok m)(hm:m<=n):v.Ok n:=⟨h.k,h.n,bm h.t hm⟩
theorem TbOk.cols{cs:List CD}{rows:List (List VD)}(h:TbOk cs rows):∀c∈cs,c.Ok:=λc hc=>CD.ok_w (h.c c hc).1 (h.c c hc).2
theorem TbOk.rok{cs:List CD}{rows:List (List VD)}(h:TbOk cs rows):fe rows:=λr hr=>⟨by have:=(h.r r hr).1;omega,λv hv=>((h.r r hr).2 v hv).le' (by omega)⟩
theorem TbOk.rle{cs:List CD}{rows:List (List VD)}(h:TbOk cs rows):gR rows:=λr hr=>by have:=(h.r r hr).1;omega
theorem TbOk.src{cs:List CD}{rows:List (List VD)}(h:TbOk cs rows)(nm:ByteArray):SrcD.Ok ⟨nm,cs,rows⟩:=⟨h.cols,by have:=h.n;show cs.length<=_;omega,h.rok,by have:=h.m;show rows.length<=_;omega⟩
theorem TbOk.nil:TbOk [] []:=⟨by simp,by simp,by simp,by simp⟩
end
section
open Go.RowKit
def fT(a:List CD)(ra:List (List VD))(b:List CD)(rb:List (List VD)):List SrcD:=[⟨⟨#[120]⟩,a,ra⟩,⟨⟨#[121]⟩,b,rb⟩,⟨⟨#[120]⟩,[],[]⟩]
def scanT(a:List CD)(ra:List (List VD)):Int × List CD:=if ft a ra=0 then (0,a) else (12,[])
theorem uW(a:List CD)(ra:List (List VD))(b:List CD)(rb:List (List VD)):j8 (fT a ra b rb) ⟨#[120]⟩=some 0:=k8 (l:=fT a ra b rb) (k:=0) (by simp[fT]) rfl (λj hj=>absurd hj (by omega))
theorem wj(a:List CD)(ra:List (List VD))(b:List CD)(rb:List (List VD)):j8 (fT a ra b rb) ⟨#[121]⟩=some 1:=k8 (l:=fT a ra b rb) (k:=1) (by simp[fT]) rfl (λj hj=>by
 obtain rfl:j=0:=by omega
 show (⟨#[120]⟩:ByteArray)≠⟨#[121]⟩;decide)
theorem Ed(a:List CD)(ra:List (List VD))(b:List CD)(rb:List (List VD)):iS (fT a ra b rb) ⟨#[120]⟩=scanT a ra:=by unfold iS;rw[uW];rfl
theorem EY(a:List CD)(ra:List (List VD))(b:List CD)(rb:List (List VD)):iS (fT a ra b rb) ⟨#[121]⟩=scanT b rb:=by unfold iS;rw[wj];rfl
theorem Co(a:List CD)(ra:List (List VD))(b:List CD)(rb:List (List VD))(s:ByteArray)(h1:s≠⟨#[120]⟩)(h2:s≠⟨#[121]⟩):iS (fT a ra b rb) s=(13,[]):=by
 have:j8 (fT a ra b rb) s=none:=tN λj hj=>by
  have:j=0\/j=1\/j=2:=by simp[fT] at hj;omega
  rcases this with rfl|rfl|rfl
  ·exact λq=>h1 q.symm
  ·exact λq=>h2 q.symm
  exact λq=>h1 q.symm
 unfold iS;rw[this]
def eR{m:Nat}(d:PD m)(a b:List CD):Int × List CD:=
 if d.kind=2 then ((gu a m d.cond).2,a) else if d.kind=3 then kh d.names (d.exprs.map (gu a m)) else if d.kind=4\/d.kind=5 then (iY a b d.on,a++b)
 else if d.kind=6 then g_ a d.names d.aggs else if d.kind=7 then (if iH a b=true then (0,a) else (12,[])) else if d.kind=8 then (0,a) else (j0 a d.by_ d.count,a)
def oQ{m:Nat}(d:PD m)(a b:List CD):Int × List CD:=
 if d.kind=4\/d.kind=5 then (if iY a b d.on=0 then (0,a++b) else (iY a b d.on,[])) else if d.kind=9 then (if j0 a d.by_ d.count=0 then (0,a) else (j0 a d.by_ d.count,[])) else eR d a b
def fE{m:Nat}(d:PD m)(a:List CD)(ra:List (List VD))(b:List CD)(rb:List (List VD)):Int × List CD:=
 if d.kind<1\/9<d.kind then (20,[]) else if d.kind=1 then iS (fT a ra b rb) d.name
 else if eN d.kind=2 then gw [scanT a ra,scanT b rb] (eR d a b) else gw [scanT a ra] (eR d a b)
theorem uO(k:Int)(l r:List CD)(h:k≠0):pJ (k,l)=pJ (k,r):=by unfold pJ;rw[ab h,ab h]
theorem E7{m:Nat}(d:PD m)(a b:List CD)(h2:2<=d.kind)(h9:d.kind<=9):pJ (oQ d a b)=pJ (eR d a b):=by
 unfold oQ;by_cases h:d.kind=4\/d.kind=5
 ·have hk:eR d a b=(iY a b d.on,a++b):=by unfold eR;rw[ab (by omega),ab (by omega),ae h]
  rw[ae h,hk];by_cases h0:iY a b d.on=0
  ·rw[ae h0,h0]
  rw[ab h0];exact uO _ _ _ h0
 rw[ab h];by_cases h9:d.kind=9
 ·have hk:eR d a b=(j0 a d.by_ d.count,a):=by unfold eR;rw[ab (by omega),ab (by omega),ab h,ab (by omega),ab (by omega),ab (by omega)]
  rw[ae h9,hk];by_cases h0:j0 a d.by_ d.count=0
  ·rw[ae h0,h0]
  rw[ab h0];exact uO _ _ _ h0
 rw[ab h9]
theorem lg{a:List CD}{ra:List (List VD)}(h:ft a ra=0):scanT a ra=(0,a):=ae h
theorem lO{a:List CD}{ra:List (List VD)}(h:¬ft a ra=0):scanT a ra=(12,[]):=ab h
theorem wE(vs:List (Int × List CD))(v:Int × List CD)(h:fI vs=0):gw vs v=pJ v:=by unfold gw pJ;rw[ae h]
theorem rH(vs:List (Int × List CD))(v:Int × List CD)(k:Int)(h:fI vs=k)(hk:k≠0):gw vs v=(k,[]):=by unfold gw;rw[h,ab hk]
theorem Cx{m:Nat}(d:PD m)(a:List CD)(ra:List (List VD))(b:List CD)(rb:List (List VD))(h1:d.kind=1->d.name≠⟨#[120]⟩/\d.name≠⟨#[121]⟩):k6 d.kind (h_ a ra) (h_ b rb) (oQ d a b)=fE d a ra b rb:=by
 unfold k6 fE;by_cases hk1:d.kind=1
 ·rw[ae (by omega),ae hk1,ab (by omega),ae hk1,Co _ _ _ _ _ (h1 hk1).1 (h1 hk1).2]
 by_cases hw:d.kind<2\/9<d.kind
 ·rw[ae hw,ab hk1,ae (by omega)]
 rw[ab hw,ab (show ¬(d.kind<1\/9<d.kind) by omega),ab hk1];have hf:=E7 d a b (by omega) (by omega);by_cases hx:ft a ra=0
 ·rw[show h_ a ra=true from aF hx,ab (by simp),lg hx];by_cases hn:eN d.kind=2
  ·rw[ae hn];by_cases hy:ft b rb=0
   ·rw[show h_ b rb=true from aF hy,ab (by simp),lg hy,wE _ _ rfl,hf]
   rw[show h_ b rb=false from aC hy,ae ⟨hn,rfl⟩,lO hy,rH _ _ 12 rfl (by decide)]
  rw[ab (λq=>hn q.1),ab hn,wE _ _ rfl,hf]
 rw[show h_ a ra=false from aC hx,ae rfl,lO hx];by_cases hn:eN d.kind=2
 ·rw[ae hn,rH _ _ 12 rfl (by decide)]
 rw[ab hn,rH _ _ 12 rfl (by decide)]
theorem sj:∀(ws ts:List Int)(both:Int),tW both->(∀t∈ts,tW t)->tW (fR ws ts both).1
 | [],_,both,h,_=>by unfold fR;exact h
 | _:: _,[],both,h,_=>by unfold fR;exact h
 |w:: ws,t:: ts,both,h,ht=>by
  unfold fR;have h1:=ht t aK;have h2:∀x∈ts,tW x:=λx hx=>ht x (aP _ hx);split
  ·exact sj ws ts both h h2
  split
  ·constructor<;>(dsimp only;omega)
  split
  ·exact sj ws ts t h1 h2
  exact sj ws ts both h h2
theorem DL{d:ND}{r:RU}(h:jd d=some r):tW r.o:=by
 have key:∀k,∀r∈fC k,tW r.o:=by
  intro k r hr;unfold fC at hr;split at hr
  ·simp only[List.mem_cons,List.not_mem_nil,or_false] at hr;rcases hr with rfl|rfl<;>(constructor<;>(dsimp only;omega))
  split at hr
  ·simp only[List.mem_cons,List.not_mem_nil,or_false] at hr;rcases hr with rfl|rfl|rfl|rfl|rfl|rfl|rfl|rfl|rfl|rfl|rfl|rfl|rfl<;>(constructor<;>(dsimp only;omega))
  split at hr
  ·simp only[List.mem_cons,List.not_mem_nil,or_false] at hr;rcases hr with rfl|rfl|rfl|rfl|rfl|rfl<;>(constructor<;>(dsimp only;omega))
  cases hr
 unfold jd at h;split at h
 ·exact key _ r (cV h)
 cases h
theorem wN(cs:List CD)(hc:∀ c∈cs,tW c.typ):∀(n dp:Nat)(e:TX n),gj (λq=>q.Ok 1048576) n e->tW (eV cs n dp e).1
 | 0,_,e,_=>e.elim
 |n+1,dp,e,h=>by
  have z0:tW 0:=by constructor<;>omega
  unfold eV;split
  ·exact z0
  split
  ·exact z0
  split
  ·exact h.1.v.k
  split
  ·split
   ·rename_i t ht;unfold rg at ht;split at ht
    ·rename_i k _;cases hk:cs[k]? with
     |none=>rw[hk] at ht;cases ht
     |some c=>rw[hk] at ht;cases ht;exact hc c (cV hk)
    cases ht
   exact z0
  split
  ·exact z0
  split
  ·exact z0
  rename_i r hr;have hf:=sj r.args (e.2.map λa=>(eV cs n (dp+1) a).1) 0 z0 (λt ht=>by obtain⟨a,ha,rfl⟩:=aJ.1 ht;exact wN cs hc n (dp+1) a (h.2 a ha))
  split
  ·rename_i both q;rw[q] at hf;split
   ·exact hf
   exact DL hr
  exact z0
theorem E9(cs:List CD)(hc:∀ c∈cs,tW c.typ)(n:Nat)(e:TX n)(h:gj (fun q=>q.Ok 1048576) n e):tW (gu cs n e).1:=by
 have z0:tW 0:=by constructor<;>omega
 unfold gu;split
 ·split
  ·exact z0
  exact wN cs hc n 1 e h
 exact z0
theorem Bz{names:List ByteArray}{ets:List (Int × Int)}{c:CD}(h:c∈fP names ets):c.name∈names/\∃t∈ets,c.typ=t.1:=by unfold fP at h;obtain⟨i,hi,rfl⟩:=aU.1 h;rw[List.getElem_zipWith];exact⟨am _,_,am _,rfl⟩
def tO:CD:=⟨⟨#[]⟩,0⟩
theorem vE{cs:List CD}{P:CD->Prop}(h:∀ c∈cs,P c)(h0:P tO)(i:Nat):P (cs.getD i ⟨⟨#[]⟩,0⟩):=by
 by_cases hi:i<cs.length
 ·have:cs.getD i ⟨⟨#[]⟩,0⟩=cs[i]:=by simp[List.getD,hi]
  rw[this];exact h _ (am hi)
 have:cs.getD i ⟨⟨#[]⟩,0⟩=tO:=by simp[List.getD,List.getElem?_eq_none (Nat.le_of_not_lt hi),tO]
 rw[this];exact h0
theorem xQ{cs:List CD}{P:CD->Prop}(hc:∀ c∈cs,P c)(h0:P tO):∀(names:List ByteArray)(acc l:List CD),jQ cs acc names=some l->(∀c∈acc,P c)->(∀c∈l,P c)/\l.length=acc.length+names.length
 | [],acc,l,h,ha=>by unfold jQ at h;obtain rfl:=bJ h;exact⟨ha,rfl⟩
 |n:: r,acc,l,h,ha=>by
  unfold jQ at h;split at h
  ·cases h
  have:=xQ hc h0 r _ l h (λc hm=>by
   rcases aZ.1 hm with hm|hm
   ·exact ha c hm
   rw[aI.1 hm];exact vE hc h0 _)
  exact⟨this.1,by rw[this.2,az];simp;omega⟩
theorem xO{cs:List CD}{P:CD->Prop}:∀(aggs:List AG)(acc:List CD),(∀c∈acc,P c)->(∀a∈aggs,P ⟨a.name,(fU cs a).1⟩)->(∀c∈(jP cs acc aggs).2,P c)/\(jP cs acc aggs).2.length<=acc.length+aggs.length
 | [],acc,ha,_=>by unfold jP;exact⟨ha,by simp⟩
 |a:: r,acc,ha,hg=>by
  unfold jP;split
  ·have:=xO r (acc++[⟨a.name,(fU cs a).1⟩]) (λc hm=>by
    rcases aZ.1 hm with hm|hm
    ·exact ha c hm
    rw[aI.1 hm];exact hg a aK) (λx hx=>hg x (aP _ hx))
   exact⟨this.1,by have:=this.2;rw[az] at this;simp at this ⊢;omega⟩
  exact⟨by simp,by simp⟩
theorem Fq{cs:List CD}(hc:∀ c∈cs,tW c.typ){s:ByteArray}{t:Int}(h:fA cs s=some t):tW t:=by unfold fA at h;obtain⟨k,_,rfl⟩:=Option.map_eq_some_iff.1 h;exact vE (P:=λc=>tW c.typ) hc (by constructor<;>(simp only[tO];omega)) k
theorem FE{cs:List CD}(hc:∀ c∈cs,tW c.typ)(a:AG):tW (fU cs a).1:=by
 have z0:tW 0:=by constructor<;>omega
 have z1:tW 1:=by constructor<;>omega
 unfold fU;split
 ·exact z0
 split
 ·split
  ·exact z1
  exact z0
 split
 ·exact z0
 rename_i t ht;split
 ·exact z0
 split
 ·exact Fq hc ht
 exact z1
theorem AI{m:Nat}(d:PD m)(a b:List CD)(hla:a.length<=16)(hlb:b.length<=16)(ha:∀ c∈a,c.name.size<=1048576/\tW c.typ)(hb:∀ c∈b,c.name.size<=1048576/\tW c.typ)(hx:∀ e∈d.exprs,gj (fun q=>q.Ok 1048576) m e)(hn:∀ s∈d.names,s.size<=1048576)(hg:∀ p∈d.aggs,p.name.size<=1048576) (hln:d.names.length<=20) (hlg:d.aggs.length<=20) (hle:d.exprs.length<=20):(∀c∈(eR d a b).2,c.name.size<=1048576/\tW c.typ)/\(eR d a b).2.length<=1000:=by
 have hno:tO.name.size<=1048576/\tW tO.typ:=⟨by show 0<=_;omega,by constructor<;>(simp only[tO];omega)⟩;unfold eR;split
 ·exact⟨ha,by dsimp only;omega⟩
 split
 ·unfold kh;split
  ·split
   ·split
    ·exact⟨by simp,by simp⟩
    refine⟨λc hc=> ?_, ?_⟩
    ·obtain⟨h1,t,h2,h3⟩:=Bz hc;obtain⟨e,he,rfl⟩:=aJ.1 h2;exact⟨hn _ h1,h3 ▸ E9 a (λc hc=>(ha c hc).2) m e (hx e he)⟩
    unfold fP;rw[cu];omega
   exact⟨by simp,by simp⟩
  exact⟨by simp,by simp⟩
 split
 ·refine⟨λc hc=> ?_,by rw[az];omega⟩;rcases aZ.1 hc with h|h
  ·exact ha c h
  exact hb c h
 split
 ·unfold g_;split
  ·exact⟨by simp,by simp⟩
  rename_i l hl;have h1:=xQ (P:=λc=>c.name.size<=1048576/\tW c.typ) ha hno d.names [] l hl (by simp);have h2:=xO (cs:=a) (P:=λc=>c.name.size<=1048576/\tW c.typ) d.aggs l h1.1 (λp hp=>⟨hg p hp,FE (λc hc=>(ha c hc).2) p⟩);exact⟨h2.1,by have:=h2.2;have:=h1.2;simp at this;omega⟩
 split
 ·split
  ·exact⟨ha,by dsimp only;omega⟩
  exact⟨by simp,by simp⟩
 split
 ·exact⟨ha,by dsimp only;omega⟩
 exact⟨ha,by dsimp only;omega⟩
theorem ye{m:Nat}(d:PD m)(a b:List CD)(hla:a.length<=16)(hlb:b.length<=16)(ha:∀ c∈a,c.name.size<=1048576/\tW c.typ)(hb:∀ c∈b,c.name.size<=1048576/\tW c.typ)(hx:∀ e∈d.exprs,gj (fun q=>q.Ok 1048576) m e)(hn:∀ s∈d.names,s.size<=1048576)(hg:∀ p∈d.aggs,p.name.size<=1048576) (hln:d.names.length<=20) (hlg:d.aggs.length<=20) (hle:d.exprs.length<=20):(∀c∈(eR d a b).2,c.Ok)/\(eR d a b).2.length<=1000:=by have h:=AI d a b hla hlb ha hb hx hn hg hln hlg hle;exact⟨λc hc=>CD.ok_w (h.1 c hc).1 (h.1 c hc).2,h.2⟩
theorem PlanAt.args{m:Nat}{w:World}{x:PC}{d:PD m}(h:PlanAt w x d)(s:SL):PlanAt w { x with args:=s } d:=⟨h.kind,h.name,h.cond,h.nn,h.names,h.en,h.exprs,h.on',h.on,h.an,h.aggs,h.bn,h.by_,h.count⟩
structure PD.Fine {m:Nat} (d:PD m):Prop where
 sm:d.Small
 k:tW d.kind
 q:tW d.count
 c:gj (λq=>q.Ok 1048576) m d.cond
 x:∀e∈d.exprs,gj (λq=>q.Ok 1048576) m e
 n:∀s∈d.names,s.size<=1048576
 a:∀p∈d.aggs,p.op.size<=1048576/\p.col.size<=1048576/\p.name.size<=1048576
theorem si{m:Nat}{d:PD m}(hd:d.Fine){w:World}{a:List CD}(ha:∀ c∈a,c.Ok)(hla:a.length<=16){x:XC}{e:TX m}(he:gj (fun q=>q.Ok 1048576) m e)(hs:fj m e<=60)(hx:iJ iX jf m w x e):lA w x a (gu a m e):=
 λw' A c t hc=>pX m e x A c a.length a rfl ha w' (hx.touch0 t) hc (by omega) (by omega) (ld (λq hq=>by have:=hq.v.t;omega) m e he)
theorem uM{m:Nat}(d:PD m)(hd:d.Fine)(x:PC)(a b:List CD)(ha:∀ c∈a,c.Ok)(hla:a.length<=16)(hlb:b.length<=16)(h2:2<=d.kind)(h9:d.kind<=9)(w:World)(h:PlanAt w x d): ib w x (if eN d.kind=2 then [a,b] else [a]) (eR d a b):=by
 have hk:=h.kind;have hs:=hd.sm;have:d.kind=2\/d.kind=3\/d.kind=4\/d.kind=5\/d.kind=6\/d.kind=7\/d.kind=8\/d.kind=9:=by omega
 unfold eR;rcases this with q|q|q|q|q|q|q|q<;>rw[q] at hk ⊢<;>simp only[eN]<;>simp +decide only [if_true,dF,or_true,true_or]
 ·exact mf x hk a _ w (si hd ha hla hd.c hs.c h.cond)
 ·obtain⟨xs,e1,e2,e3⟩:=h.exprs;refine wt x hk d.names xs (d.exprs.map (gu a m)) h.nn (by rw[h.en,e1]) (by rw[ay,e1]) (by have:=hs.n;omega) (by have:=hs.e;omega) a w h.names e2 λi i1 i2=> ?_;rw[aW];have i3:i<d.exprs.length:=by omega
  exact si hd ha hla (hd.x _ (am i3)) (hs.x _ (am i3)) (e3 i i1 i3)
 ·exact wu x hk d.on h.on' (by have:=hs.o;omega) a b (by omega) (by omega) w h.on
 ·exact vj x hk d.on h.on' (by have:=hs.o;omega) a b (by omega) (by omega) w h.on
 ·exact mi x hk d.names d.aggs h.nn h.an (by have:=hs.n;omega) (by have:=hs.a;omega) a (by omega) w h.names h.aggs
 ·exact pf x hk a b (by omega) (by omega) w
 ·exact rG x hk a w
 rw[<- h.count];exact po x hk d.by_ h.bn (by have:=hs.b;omega) a (by omega) w h.by_
theorem D5(dp:Int)(hp0:0<=dp)(hp:dp<=15){m:Nat}(d:PD m)(hd:d.Fine)(x:PC)(a:List CD)(ra:List (List VD))(b:List CD)(rb:List (List VD))(ta:TbOk a ra)(tb:TbOk b rb)(w:World)(hG:gm w)(h:PlanAt w x d)(I:Option Addr)(ic:Nat)(hS:iK w I (fT a ra b rb)) (hn:(x.args.n:Int)=eN d.kind) (hX:d9 ir w x.args.A ([eH ⟨#[120]⟩,eH ⟨#[121]⟩].take x.args.n)):gI w I ic 3 x dp (fE d a ra b rb):=by
 have hk:=h.kind;have hok:∀s∈fT a ra b rb,s.Ok:=by
  intro s hs;simp only[fT,List.mem_cons,List.not_mem_nil,or_false] at hs;rcases hs with rfl|rfl|rfl
  ·exact ta.src _
  ·exact tb.src _
  exact TbOk.nil.src _
 unfold fE;by_cases hw:d.kind<1\/9<d.kind
 ·rw[ae hw];exact wQ x (by rw[hk];exact hw) dp (by omega) I ic 3 w
 rw[ab hw];by_cases h1:d.kind=1
 ·rw[ae h1,<- h.name];exact kL x (by rw[hk,h1]) (by rw[h1] at hn;simpa [eN] using hn) dp (by omega) I ic 3 _ rfl (by omega) hok w hG hS
 rw[ab h1];have hko:=ye d a b ta.n tb.n ta.c tb.c hd.x hd.n (λp hp=>(hd.a p hp).2.2) hd.sm.n hd.sm.a hd.sm.e;have hkc:=uM d hd x a b ta.cols ta.n tb.n (by omega) (by omega) w h;obtain⟨kk,hkk⟩:=Int.eq_ofNat_of_zero_le (show 0<=d.kind by omega);have hneed:eN d.kind=(lX kk:Int):=by
  rw[hkk];have:kk=2\/kk=3\/kk=4\/kk=5\/kk=6\/kk=7\/kk=8\/kk=9:=by omega
  rcases this with rfl|rfl|rfl|rfl|rfl|rfl|rfl|rfl<;>rfl
 have hsx:gI w I ic 3 (eH ⟨#[120]⟩) (dp+1) (scanT a ra):=Ed a ra b rb ▸ kL (eH ⟨#[120]⟩) rfl rfl (dp+1) (by omega) I ic 3 _ rfl (by omega) hok w hG hS;have hsy:gI w I ic 3 (eH ⟨#[121]⟩) (dp+1) (scanT b rb):=EY a ra b rb ▸ kL (eH ⟨#[121]⟩) rfl rfl (dp+1) (by omega) I ic 3 _ rfl (by omega) hok w hG hS;by_cases hn2:eN d.kind=2
 ·rw[ae hn2];rw[ae hn2] at hkc;have hm:x.args.n=2:=by omega
  rw[hm] at hX;refine j4 x kk 2 (by rw[hk,hkk]) (by omega) (by omega) hm (by omega) dp hp0 (by omega) I ic 3 w hG [eH ⟨#[120]⟩,eH ⟨#[121]⟩] [scanT a ra,scanT b rb] rfl rfl hX (λi i1 i2=> ?_) _ (λhe=> ?_) hko.1 (by have:=hko.2;omega)
  ·have:i=0\/i=1:=by simp at i1;omega
   rcases this with rfl|rfl
   ·exact hsx
   exact hsy
  by_cases hx:ft a ra=0
  ·by_cases hy:ft b rb=0
   ·rw[lg hx,lg hy];exact hkc
   rw[lg hx,lO hy] at he;cases he
  rw[lO hx] at he;cases he
 rw[ab hn2];rw[ab hn2] at hkc;have hm:x.args.n=1:=by
  have:kk=2\/kk=3\/kk=4\/kk=5\/kk=6\/kk=7\/kk=8\/kk=9:=by omega
  rw[hneed] at hn hn2;rcases this with rfl|rfl|rfl|rfl|rfl|rfl|rfl|rfl<;>simp[lX] at hn hn2<;>omega
 rw[hm] at hX;refine j4 x kk 1 (by rw[hk,hkk]) (by omega) (by omega) hm (by omega) dp hp0 (by omega) I ic 3 w hG [eH ⟨#[120]⟩] [scanT a ra] rfl rfl hX (λi i1 i2=> ?_) _ (λhe=> ?_) hko.1 (by have:=hko.2;omega)
 ·obtain rfl:i=0:=by simp at i1;omega
  exact hsx
 by_cases hx:ft a ra=0
 ·rw[lg hx];exact hkc
 rw[lO hx] at he;cases he
theorem BZ(x:PC)(w:World)(hn:x.args.n<=2)(hX:d9 ir w x.args.A ([eH ⟨#[120]⟩,eH ⟨#[121]⟩].take x.args.n)):jo w x (1+x.args.n):=by
 have hl:([eH ⟨#[120]⟩,eH ⟨#[121]⟩].take x.args.n).length=x.args.n:=by rw[aO];simp;omega
 have hsum:(List.replicate x.args.n 1).sum=x.args.n:=by simp
 have h:=mF x ([eH ⟨#[120]⟩,eH ⟨#[121]⟩].take x.args.n) (List.replicate x.args.n 1) w hl (by simp) hX (λi i1 i2=>by
  rw[List.getElem_replicate];have hi:i=0\/i=1:=by rw[hl] at i1;omega
  rcases hi with rfl|rfl<;>(rw[List.getElem_take];exact oP _ rfl w)) (by rw[hsum];omega) (by omega)
 rw[hsum] at h;exact h
end
section
open Go.RowKit
def iP(v:VD):Prop:=v.Ok 140737000000000
theorem kI(n:Int)(h : -9223372036854775808<=n/\n<=9223372036854775807):iP (ofV n):=⟨⟨by show (-9223372036854775808:Int)<=1;omega,by show (1:Int)<=_;omega⟩,h,aY _⟩
theorem fV:iP eQ:=⟨⟨by show (-9223372036854775808:Int)<=0;omega,by show (0:Int)<=_;omega⟩,⟨by show (-9223372036854775808:Int)<=0;omega,by show (0:Int)<=_;omega⟩,aY _⟩
theorem qt(b:Bool):iP (iL b):=by
 unfold iL;split
 ·exact kI 1 (by omega)
 exact kI 0 (by omega)
theorem pb(x:Int): -9223372036854775808<=wrap64 x/\wrap64 x<=9223372036854775807:=by unfold wrap64;omega
theorem uj(o:Int)(a b:VD)(ha:iP a):iP (fZ o a b).1:=by
 unfold fZ;split
 ·exact fV
 split
 ·exact fV
 split
 ·exact fV
 split
 ·exact fV
 split
 ·refine kI _ ?_;unfold iu i_;have h:=ha.n;split
  ·exact pb _
  split
  ·exact pb _
  split
  ·split
   ·exact⟨by dsimp only;omega,by dsimp only;omega⟩
   split
   ·exact⟨by dsimp only;omega,by dsimp only;omega⟩
   exact pb _
  split
  ·exact pb _
  split
  ·exact⟨by dsimp only;omega,by dsimp only;omega⟩
  dsimp only;have h1:(a.num.tmod b.num).natAbs<=a.num.natAbs:=by rw[Int.natAbs_tmod];exact Nat.mod_le _ _
  have h2:a.num<0\/0<=a.num.tmod b.num:=(Int.lt_or_le a.num 0).imp id λh=>Int.tmod_nonneg _ h;have h3:0<=a.num\/a.num.tmod b.num<=0:=(Int.lt_or_le a.num 0).symm.imp id λh=>by have:=Int.tmod_nonneg b.num (show 0 <= -a.num by omega);rw[Int.neg_tmod] at this;omega
  omega
 exact fV
theorem AL(d:ND)(v:VD)(h:iP v):iP (jM d v).1:=by
 unfold jM;split
 ·exact qt _
 split
 ·exact qt _
 split
 ·exact h
 split
 ·exact kI _ (by have:=h.t;omega)
 split
 ·exact h
 exact uj _ _ _ (kI 0 (by omega))
theorem DD(d:ND)(f s:VD)(hf:iP f):iP (bothV d f s).1:=by
 unfold bothV;split
 ·unfold kF;split
  ·exact fV
  split
  ·exact fV
  rename_i h1 h2;refine⟨⟨by show (-9223372036854775808:Int)<=2;omega,by show (2:Int)<=_;omega⟩,⟨by show (-9223372036854775808:Int)<=0;omega,by show (0:Int)<=_;omega⟩, ?_⟩;show (f.text++s.text).size<=_;rw[ByteArray.size_append];omega
 split
 ·unfold iw;split
  ·exact fV
  exact qt _
 exact uj _ _ _ hf
theorem Cv{α:Type}(ev:α->VD × Int)(d:ND)(args:List α)(f:VD)(hf:iP f)(h:∀ a∈args,iP (ev a).1){z:VD × Int}(hz:gS ev d args f=some z):iP z.1:=by
 unfold gS at hz;split at hz
 ·cases hz
 ·rename_i v hv;obtain rfl:=bJ hz;unfold gv at hv;split at hv
  ·split at hv
   ·cases hv
   cases hv;exact kI 0 (by omega)
  split at hv
  ·split at hv
   ·cases hv;exact kI 1 (by omega)
   cases hv
  split at hv
  ·split at hv
   ·cases hv
   cases hv;exact hf
  split at hv<;>cases hv
 split at hz
 ·obtain rfl:=bJ hz;exact fV
 rename_i a ha;obtain rfl:=bJ hz;unfold nG;split
 ·exact qt _
 exact h a (cV ha)
theorem uY{cs:List CD}{row:List VD}(hr:∀ v∈row,iP v):∀(n:Nat)(e:TX n),gj (λq=>iP q.v) n e->iP (eG cs row n e).1
 | 0,e,_=>e.elim
 |n+1,e,h=>by
  rw[kw];split
  ·dsimp only;by_cases hk:(ef cs e.1.name).getD 0<row.length
   ·have:row.getD ((ef cs e.1.name).getD 0) eQ=row[(ef cs e.1.name).getD 0]:=by simp[List.getD,hk]
    rw[this];exact hr _ (am hk)
   have:row.getD ((ef cs e.1.name).getD 0) eQ=eQ:=by simp[List.getD,List.getElem?_eq_none (Nat.le_of_not_lt hk)]
   rw[this];exact fV
  split
  ·exact h.1
  have ih:=λa ha=>uY (cs:=cs) hr n a (h.2 a ha);split
  ·exact fV
  rename_i a r he;have ha:=ih a (by rw[he];simp);split
  ·exact fV
  split
  ·rename_i z hz;exact Cv _ _ _ _ ha (λb hb=>ih b (by rw[he];exact hb)) hz
  split
  ·exact AL _ _ ha
  split
  ·exact fV
  exact DD _ _ _ ha
theorem Ex{cs:List CD}{row:List VD}(hr:∀ v∈row,iP v)(n:Nat)(e:TX n)(h:gj (fun q=>iP q.v) n e):iP (eP cs row n e).1:=by
 unfold eP;split
 ·exact fV
 split
 ·exact uY hr n e h
 exact fV
end
section
open Go.RowKit
def kU(rows:List (List VD))(i:Nat):Bool:=decide (i=0) || !jJ (rows.getD i []) (rows.getD (i-1) [])
def gQ(rows:List (List VD))(m:Nat):List Nat:=(List.range m).filter (kU rows)
theorem ui(rows:List (List VD))(m:Nat):gQ rows (m+1)=gQ rows m++if kU rows m=true then [m] else []:=by unfold gQ;rw[dg,bZ];congr 1;rw[cG,cE]
theorem EF(rows:List (List VD))(m:Nat):(gQ rows m).length<=m:=by unfold gQ;exact bm (bP _ _) (by rw[cH];exact aL _)
theorem vY(rows:List (List VD))(m:Nat)(h:∀ i,i<m->kU rows i=true):gQ rows m=List.range m:=by unfold gQ;rw[List.filter_eq_self];intro i hi;exact h i (a_.1 hi)
theorem sM{rows:List (List VD)}{m:Nat}:∀i∈gQ rows m,i<m:=λ_ hi=>a_.1 (bE.1 hi).1
theorem zw(A B:Option Addr)(c1 c2 n m:Nat)(l r:List VD)(hn:l.length=n)(hm:r.length=m)(w:World)(h:eu w A l)(h2:eu w B r)(hl:n<=140737000000000)(hl2:m<=140737000000000): Calls Tryz.prog 100 #[.slice A n c1,.slice B m c2] w λe w'=>e=.returned (.bool (jJ l r))/\Touch [] w w':=by have H:=lh (zI A B c1 c2 n m l r hn hm w h h2 hl hl2);clear h h2;go_enter Tryz.func100,Tryz.ntmps100;go_wp2_with fail;refine H.o.mono ?_;rintro e w1 ⟨rfl,t1⟩;go_wp2;go_ret;exact⟨rfl,t1⟩
def D_(S:Nat->SL)(rows:List (List VD))(G n:Nat)(w0:World):Prop:=∀wr,Touch [G] w0 wr->∀x y:Nat,x<n->y<n ->
 Calls Tryz.prog 100 #[(Value.slice (SL.A (S x)) (SL.n (S x)) (SL.c (S x))),(Value.slice (SL.A (S y)) (SL.n (S y)) (SL.c (S y)))] wr λe w'=>e=.returned (.bool (jJ (rows.getD x []) (rows.getD y [])))/\Touch [] wr w'
theorem yh(g:Nat):∀(vs:List Value)(w:World)(o:Nat),Touch [g] w (w.setCells g o vs)
 | [],w,_=>Touch.refl _ _
 |v:: vs,w,o=>((Touch.refl [g] w).setCell (p:=⟨g,o,none⟩) (.inl (by simp)) v).trans (yh g vs _ _) (λb hb=>.inl hb)
theorem DR(w:World):(zeroValue 33).run Tryz.prog w=.ok (.slice none 0 0) w:=by kernel_rfl
theorem uF(A:Option Addr)(n c:Nat)(hn:n<2)(fv:Value)(w:World):Calls Tryz.prog 99 #[.slice A n c,fv] w λe w'=>e=.returned (.slice A n c)/\w'=w:=by have h:((n:Int)<2)=True:=cQ (by omega);go_enter Tryz.func99,Tryz.ntmps99;go_wp2;go_ret;exact⟨rfl,rfl⟩
theorem wX(G c n:Nat)(hn2:2<=n)(hn:n<=100000)(hnc:n<=c)(S:Nat->SL)(rows:List (List VD))(w:World)(hR:fc S w G c n (fun k=>k))(hE:D_ S rows G n w): Calls Tryz.prog 99 #[.slice (some ⟨G,0,none⟩) n c,.func (.func 100) #[] #[]] w λe w'=> e=.returned (.slice (some ⟨G,0,none⟩) (gQ rows n).length c)/\(∀p(h:p<(gQ rows n).length),w'.cell? ⟨G,p,none⟩=some (Value.slice (SL.A (S (gQ rows n)[p])) (SL.n (S (gQ rows n)[p])) (SL.c (S (gQ rows n)[p]))))/\Touch [G] w w':=by
 have HR:=lh hR;have HE:=lh hE;have h2:((n:Int)<2)=False:=bi (by omega);clear hR hE;go_enter Tryz.func99,Tryz.ntmps99;go_wp2_with fail;go_loopw [5] (λx wr=>∃k:Nat,1<=k/\k<=n/\x=.int .i64 k/\Ga (∀i,i<k->kU rows i=true)/\Ga (Touch [] w wr)) (λx _=>n-(intOf x).toNat)
 case atStart=>exact⟨1,by omega,by omega,rfl,lh (λi hi=>by
  have h0:i=0:=by omega
  subst h0;simp[kU]),lh (Touch.refl _ _)⟩
 case round =>
 obtain⟨k,hk1,hk,rfl,HN,HT⟩:=hrel;by_cases hlt:k<n
 ·have hR1:fc S wr G c n (λk=>k):=HR.o.touch0 HT.o;have ca:=TW.cell (hR1.cell k hlt);have cb:=TW.cell (hR1.cell (k-1) (by omega));obtain⟨b,hb⟩:∃b,b=jJ (rows.getD k []) (rows.getD (k-1) []):=⟨_,rfl⟩;have hc:∀x8:TW wr,Calls Tryz.prog 100 #[(Value.slice (SL.A (S k)) (SL.n (S k)) (SL.c (S k))),(Value.slice (SL.A (S (k-1))) (SL.n (S (k-1))) (SL.c (S (k-1))))] x8.w λe w'=>e=.returned (.bool b)/\Touch [] x8.w w':=λx8=>by rw[hb];exact HE.o _ ((HT.o.mono (by simp)).trans x8.t (by simp)) k (k-1) hlt (by omega)
  have HCC:=lh hc;have HB:=lh hb;have hw1:IntKind.i64.wrap ((k:Int)-1)=((k-1:Nat):Int):=by rw[cU _ (by omega)];omega
  have hkk:(k:Int)-1=((k-1:Nat):Int):=by omega
  have hkn:(k:Int)<(n:Int):=by omega
  have hadd0:(⟨G,0,none⟩:Addr).add k=⟨G,k,none⟩:=k7 _ _;have hadd1:(⟨G,0,none⟩:Addr).add (k-1)=⟨G,k-1,none⟩:=k7 _ _;have HR1:=lh hR1;clear hc hb hR1;go_wp2_with fail;refine eh wr (Touch.refl _ _) (by kernel_rfl) (by kernel_rfl) ?_;repeat (go_big_quiet_step (((go_at_call 100;exact Calls.tw _ (HCC.o _)))))
  refine aS ?_;rintro _ ⟨x9,rfl⟩;cases b
  ·go_wp2_with fail;go_roundw
   case rel=>exact⟨k+1,by omega,by omega,by go_num,lh (λi hi=>by
    by_cases hik:i<k
    ·exact HN.o i hik
    obtain rfl:i=k:=by omega
    unfold kU;rw[<- HB.o];simp),lh (HT.o.trans0 x9.t)⟩
   case measure=>simp[intOf];omega
  have hck:(c=k)=False:=bi (by omega);have hkI:(0:Int)<=(k:Int):=by omega
  have hkc:(k:Int)<=(c:Int):=by omega
  have hkn2:(k:Int)<=(n:Int):=by omega
  have hnew0:kU rows k=false:=by unfold kU;rw[<- HB.o];simp;omega
  have hc1:gQ rows (k+1)=List.range k:=by rw[ui,hnew0,vY rows k HN.o];simp
  have HC1:=lh hc1;have HT9:=lh (show Touch [G] w x9.w from (HT.o.trans0 x9.t).mono (by simp));have HR9:=lh (HR1.o.touch0 x9.t);clear hc1 hnew0 ca cb hadd1 hkk hw1;go_wp2_with fail;go_loopw [5,7] (λx y wx=>∃(q k2:Nat)(f:Nat->Nat),1<=k2/\k+k2<=n/\q+1<=k+k2/\x=.int .i64 q/\y=.int .i64 k2/\Ga ((gQ rows (k+k2)).length=q)/\Ga (∀p(h:p<(gQ rows (k+k2)).length),f p=(gQ rows (k+k2))[p])/\Ga (∀p,k+k2-1<=p->p<n->f p=p)/\Ga (fc S wx G c n f)/\Ga (Touch [G] w wx)) (λ_ y _=>n-k-(intOf y).toNat)
  case atStart=>exact⟨k,1,λp=>p,by omega,by omega,by omega,rfl,rfl,lh (by rw[HC1.o,cH]),lh (λp hp=>by simp only[HC1.o,List.getElem_range]),lh (λp _ _=>rfl),HR9,HT9⟩
  case round =>
  obtain⟨q,k2,f,hk2,hkm,hqm,rfl,rfl,HL,HP,HG,HRf,HTf⟩:=hrel;clear HT9 HR9;by_cases hlt2:k2<n-k
  ·have ca:=HRf.o.cell (k+k2) (by omega);have cb:=HRf.o.cell (k+(k2-1)) (by omega);rw[HG.o (k+k2) (by omega) (by omega)] at ca;rw[HG.o (k+(k2-1)) (by omega) (by omega)] at cb;have ga:=TW.cell ca;have gb:=TW.cell cb;obtain⟨b2,hb2⟩:∃b2,b2=jJ (rows.getD (k+k2) []) (rows.getD (k+(k2-1)) []):=⟨_,rfl⟩;have hc:∀x8:TW wr,Calls Tryz.prog 100 #[(Value.slice (SL.A (S (k+k2))) (SL.n (S (k+k2))) (SL.c (S (k+k2)))),(Value.slice (SL.A (S (k+(k2-1)))) (SL.n (S (k+(k2-1)))) (SL.c (S (k+(k2-1)))))] x8.w λe w'=>e=.returned (.bool b2)/\Touch [] x8.w w':=λx8=>by rw[hb2];exact HE.o _ (HTf.o.trans x8.t (by simp)) (k+k2) (k+(k2-1)) (by omega) (by omega)
   have hnw:kU rows (k+k2) = !b2:=by unfold kU;rw[hb2,show k+k2-1=k+(k2-1) by omega,aC (by omega),Bool.false_or]
   have hsc:=ui rows (k+k2);rw[hnw] at hsc;have HCC:=lh hc;have HSC:=lh hsc;have hw2:IntKind.i64.wrap ((k2:Int)-1)=((k2-1:Nat):Int):=by rw[cU _ (by omega)];omega
   have hkk2:(k2:Int)-1=((k2-1:Nat):Int):=by omega
   have hlI:(k2:Int)<((n-k:Nat):Int):=by omega
   have hlI2:((k2-1:Nat):Int)<((n-k:Nat):Int):=by omega
   have hlI0:(0:Int)<=((k2-1:Nat):Int):=by omega
   have hadd2:(⟨G,k,none⟩:Addr).add k2=⟨G,k+k2,none⟩:=by unfold Addr.add;rw[ab (by omega)]
   have hadd3:(⟨G,k,none⟩:Addr).add (k2-1)=⟨G,k+(k2-1),none⟩:=by
    unfold Addr.add;split
    ·rename_i h0;rw[h0];rfl
    rfl
   clear hc hsc hnw ca cb hb2;go_wp2_with fail;refine eh wr (Touch.refl _ _) (by kernel_rfl) (by kernel_rfl) ?_;repeat (go_big_quiet_step (((go_at_call 100;exact Calls.tw _ (HCC.o _)))))
   refine aS ?_;rintro _ ⟨x8,rfl⟩;have HR8:=lh (HRf.o.touch0 x8.t);have HT8:=lh (HTf.o.trans x8.t (by simp));cases b2
   ·have hq1:q<n:=by omega
    have hqI:(q:Int)<(n:Int):=by omega
    have d0:=HR8.o.cell (k+k2) (by omega);rw[HG.o (k+k2) (by omega) (by omega)] at d0;have d1:=HR8.o.cell q hq1;have f1:=HR8.o.free q;have hadd4:(⟨G,0,none⟩:Addr).add q=⟨G,q,none⟩:=k7 _ _;clear ga gb;go_wp2_with fail;go_roundw
    case rel =>
     have hsc:gQ rows (k+(k2+1))=gQ rows (k+k2)++[k+k2]:=HSC.o;have hl:=HL.o;refine⟨q+1,k2+1,mu f q (k+k2),by omega,by omega,by omega,by go_num,by go_num,lh (by rw[hsc,az,hl];rfl),lh (λp hp=> ?_),lh (λp h1 h2=> ?_),lh (HR8.o.set q (k+k2) hq1),lh (HT8.o.setCell (p:=⟨G,q,none⟩) (.inl (by simp)) _)⟩
     ·have hp2:p<q+1:=by rw[hsc,az,hl] at hp;exact hp
      simp only[hsc];by_cases hpq:p<q
      ·rw[bH (by omega)];unfold mu;rw[ab (by omega)];exact HP.o p (by omega)
      obtain rfl:p=q:=by omega
      rw[bM (by omega)];unfold mu;simp
     unfold mu;rw[ab (by omega)];exact HG.o p (by omega) h2
    case measure=>simp[intOf];omega
   clear ga gb;go_wp2_with fail;go_roundw
   case rel =>
    have hsc:gQ rows (k+(k2+1))=gQ rows (k+k2):=by have h:=HSC.o;simp only[Bool.not_true,Bool.false_eq_true,if_false,List.append_nil] at h;exact h
    exact⟨q,k2+1,f,by omega,by omega,by omega,rfl,by go_num,lh (by rw[hsc];exact HL.o),lh (λp hp=>by simp only[hsc] at hp ⊢;exact HP.o p hp),lh (λp h1 h2=>HG.o p (by omega) h2),HR8,HT8⟩
   case measure=>simp[intOf];omega
  have hkn3:k+k2=n:=by omega
  have hq1:q<n:=by omega
  have hl:=HL.o;rw[hkn3] at hl;have hP2:=HP.o;simp only[hkn3] at hP2;have HL2:=lh hl;have HP2:=lh hP2;have hlI:((k2:Int)<((n-k:Nat):Int))=False:=bi (by omega);have hqI:(0:Int)<=(q:Int):=by omega
  have hqn:(q:Int)<=(n:Int):=by omega
  have hqc:(q:Int)<=(c:Int):=by omega
  have hcq:(c=q)=False:=bi (by omega);have hcl:∀ty,(Builtin.clear_ #[25] ty #[.slice (some ⟨G,q,none⟩) (n-q) (c-q)]).run Tryz.prog wr=.ok (.tuple #[]) (wr.setCells G q (List.replicate (n-q) (.slice none 0 0))):=λty=>
   Lib.run_clear_slice wr _ _ ty _ bp (λw0=>DR w0) rfl rfl G q _ _ (by omega) (λj hj=>by rw[HRf.o.cell (q+j) (by omega)];rfl) (λj hj=>HRf.o.free (q+j))
  clear HL HP hl hP2;go_wp2_with fail;go_ret;have hl:=HL2.o;have tC:=yh G (List.replicate (n-q) (.slice none 0 0)) wr q;refine⟨by rw[hl];rfl,λp hp=> ?_,HTf.o.trans tC (λb hb=>.inl hb)⟩;rw[World.cell?_setCells_out G _ q wr ⟨G,p,none⟩ (λ_ _=>.inl (by show p<q;omega)),HRf.o.cell p (by omega),HP2.o p hp]
 obtain rfl:k=n:=by omega
 have HA:=lh (vY rows k HN.o);go_wp2_with fail;go_ret;have hl:(gQ rows k).length=k:=by rw[HA.o,cH]
 refine⟨by rw[hl];rfl,λp hp=> ?_,HT.o.mono (by simp)⟩;have h1:(gQ rows k)[p]=p:=by simp only[HA.o,List.getElem_range]
 rw[h1];exact(HR.o.touch0 HT.o).cell p (by omega)
end
end Go.Proofs.YtafoklilkdnepaaGreatDoor
