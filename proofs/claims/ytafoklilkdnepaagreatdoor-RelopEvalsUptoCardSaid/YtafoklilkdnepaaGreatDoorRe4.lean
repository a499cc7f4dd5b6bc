/- Part 4 of the texts of this proof, one behind the other. No condition beyond those that its theorems state. -/
import Derived.Test.YtafoklilkdnepaaGreatDoorRe3
set_option linter.all false
set_option maxRecDepth 40000
set_option maxHeartbeats 25600000
namespace Go.Proofs.YtafoklilkdnepaaGreatDoor
section
open Go.RowKit
def qG(n:Nat):List Value:=[.int .i64 n]
theorem sw(n:Nat):(qG n).length=1:=rfl
theorem Ec(n:Nat):∀u∈qG n,u.oneCell'=true:=by intro u hu;simp only[qG,List.mem_cons,List.not_mem_nil,or_false] at hu;subst hu;rfl
theorem Fb:(Tryz.prog.info? 3).map (λi=>(i.zero,i.size,i.bytes))=some (some (.int .i64 0),1,8):=by kernel_rfl
def ea(cs:List CD)(names:List ByteArray):List Nat:=names.map λn=>(ef cs n).getD 0
def eE(r:List VD)(at_:List Nat):List VD:=at_.map λi=>r.getD i ⟨0,0,⟨#[]⟩⟩
def iQ(l:List VD):Bool:=l.any λv=>decide (v.kind=0)
theorem mH(SA:Option Addr)(c1 n1:Nat)(a:List CD)(h1:a.length=n1)(hl1:n1<=1000000)(NA:Option Addr)(nc n2:Nat)(names:List ByteArray)(h2:names.length=n2)(hl2:n2<=1000000)(w:World)(ha:em w SA a)(hr:d9 gD w NA names): Calls Tryz.prog 133 #[.slice SA n1 c1,.slice NA n2 nc] w λe w'=>∃A c,e=.returned (.slice A n2 c)/\Made 3 1 qG (ea a names) A c w w':=by
 subst h1 h2;have HRD:=Gb ha hr;clear ha hr;go_enter Tryz.func133,Tryz.ntmps133;go_wp2_with fail;go_loopw [5,12] (λo i wr=>∃(k:Nat)(A:Option Addr)(c:Nat),k<=names.length/\i=.int .i64 k/\o=.slice A k c/\Ga (Made 3 1 qG (ea a (names.take k)) A c w wr)) (λ_ i _=>names.length-(intOf i).toNat)
 case atStart=>exact⟨0,none,0,by omega,rfl,rfl,lh (Made.nil _ _ _ _)⟩
 case round =>
 obtain⟨k,A,c,hk,rfl,rfl,HM⟩:=hrel;by_cases hlt:k<names.length
 ·obtain⟨ad,b1,o1,rfl,hadd,hc⟩:=d9.cells (HRD.o.2.touch0 HM.o.t) 1 iR (by omega) k hlt;rw[bO] at hadd;have e0:=hc 0 _ rfl;rw[aM] at e0;have htk:=au hlt;obtain⟨p,hp⟩:∃p,p=names[k]:=⟨_,rfl⟩;rw[<- hp] at e0 htk;have hfa:=fS SA c1 a.length a rfl p wr (HRD.o.1.touch0 HM.o.t) (by omega);have hnx:ea a (names.take (k+1))=ea a (names.take k)++[(ef a p).getD 0]:=by rw[htk];unfold ea;rw[aT];rfl
  have hln:Ga ((ea a (names.take k)).length=k):=lh (by unfold ea;rw[ay,aO];omega);obtain⟨i,hi⟩:∃i,i=(ef a p).getD 0:=⟨_,rfl⟩;obtain⟨b,hb⟩:∃b,b=(ef a p).isSome:=⟨_,rfl⟩;rw[<- hi,<- hb] at hfa;rw[<- hi] at hnx;have Hfa:=lh hfa;have Hnx:=lh hnx;have hkn:(k:Int)<(names.length:Int):=by omega
  clear hfa hnx htk hc hp hi hb;go_wp2_with fail;refine Hfa.o.mono ?_;rintro e w1 ⟨rfl,t1⟩;have HM1:=lh (HM.o.touch0 t1);clear t1 HM;go_wp2_with (at_builtin;refine ez ?_);refine go ?_;have ta:=(Touch.refl [] w1).alloc (.cells #[.int .i64 i] 3);refine eb (enc:=qG) rfl (.tmp 22) (.tmp 24) 97 rfl 3 _ 1 8 Fb db rfl (by omega) sw Ec A k c _ hln.o rfl (HM1.o.touch0 ta).own
   (some ⟨w1.heap.size,0,none⟩) 1 1 [i] rfl rfl (d9.one (enc:=qG) w1 3 i _ rfl) (by omega) (by omega) ?_
  intro A' c' w' hown ht hf;have HX:=lh ((HM1.o.touch0 ta).step hown ht hf);clear hown ht hf ta;go_wp2_with fail;go_roundw
  case rel=>exact⟨k+1,A',c',by omega,by go_num,rfl,lh (by rw[Hnx.o];exact HX.o)⟩
  case measure=>simp[intOf];omega
 obtain rfl:k=names.length:=by omega
 have HM2:Ga (Made 3 1 qG (ea a names) A c w wr):=lh (by have:=HM.o;rwa[aH] at this);clear HM;go_wp2;go_ret;exact⟨A,c,rfl,HM2.o⟩
theorem oT(RA:Option Addr)(rc n1:Nat)(r:List VD)(h1:r.length=n1)(hl1:n1<=1000000)(PA:Option Addr)(pc n2:Nat)(at_:List Nat)(h2:at_.length=n2)(hl2:n2<=1000000)(hat:∀ i∈at_,i<n1)(w:World)(hr:eu w RA r)(hp:d9 qG w PA at_): Calls Tryz.prog 134 #[.slice RA n1 rc,.slice PA n2 pc] w λe w'=>∃A c,e=.returned (.slice A n2 c)/\Made 31 3 ff (eE r at_) A c w w':=by
 subst h1 h2;have HRD:=Gb hr hp;have Hat:=lh hat;clear hr hp hat;go_enter Tryz.func134,Tryz.ntmps134;go_wp2_with fail;go_loopw [5,10] (λo i wr=>∃(k:Nat)(A:Option Addr)(c:Nat),k<=at_.length/\i=.int .i64 k/\o=.slice A k c/\Ga (Made 31 3 ff (eE r (at_.take k)) A c w wr)) (λ_ i _=>at_.length-(intOf i).toNat)
 case atStart=>exact⟨0,none,0,by omega,rfl,rfl,lh (Made.nil _ _ _ _)⟩
 case round =>
 obtain⟨k,A,c,hk,rfl,rfl,HM⟩:=hrel;by_cases hlt:k<at_.length
 ·obtain⟨ad,b1,o1,rfl,hadd,hc⟩:=d9.cells (HRD.o.2.touch0 HM.o.t) 1 sw (by omega) k hlt;rw[bO] at hadd;have e0:=hc 0 _ rfl;rw[aM] at e0;have htk:=au hlt;have hil:=Hat.o _ (am hlt);obtain⟨i,hi⟩:∃i,i=at_[k]:=⟨_,rfl⟩;rw[<- hi] at e0 htk hil;obtain⟨ad2,b2,o2,rfl,hadd2,c0,c1,c2⟩:=(HRD.o.1.touch0 HM.o.t).at_ i hil;have hnx:eE r (at_.take (k+1))=eE r (at_.take k)++[r[i]]:=by rw[htk];unfold eE;rw[aT];simp[hil]
  have hln:Ga ((eE r (at_.take k)).length=k):=lh (by unfold eE;rw[ay,aO];omega);obtain⟨v,hv⟩:∃v,v=r[i]:=⟨_,rfl⟩;rw[<- hv] at c0 c1 c2 hnx;obtain⟨vk,vn,vt⟩:=v;dsimp only at c0 c1 c2;have Hnx:=lh hnx;have hkn:(k:Int)<(at_.length:Int):=by omega
  have hin:(i:Int)<(r.length:Int):=by omega
  have hi0:(0:Int)<=(i:Int):=by omega
  clear hnx htk hc hi hv;go_wp2_with (at_builtin;refine ez ?_);refine go ?_;have ta:=(Touch.refl [] wr).alloc (.cells #[.int .i64 vk,.int .i64 vn,.string vt] 31);refine eb (enc:=ff) rfl (.tmp 14) (.tmp 19) 33 rfl 31 _ 3 32 jI cj rfl (by omega) eO f8 A k c _ hln.o rfl (HM.o.touch0 ta).own
   (some ⟨wr.heap.size,0,none⟩) 1 1 [⟨vk,vn,vt⟩] rfl rfl (d9.one (enc:=ff) wr 31 ⟨vk,vn,vt⟩ _ rfl) (by omega) (by omega) ?_
  intro A' c' w' hown ht hf;have HX:=lh ((HM.o.touch0 ta).step hown ht hf);clear hown ht hf ta;go_wp2_with fail;go_roundw
  case rel=>exact⟨k+1,A',c',by omega,by go_num,rfl,lh (by rw[Hnx.o];exact HX.o)⟩
  case measure=>simp[intOf];omega
 obtain rfl:k=at_.length:=by omega
 have HM2:Ga (Made 31 3 ff (eE r at_) A c w wr):=lh (by have:=HM.o;rwa[aH] at this);clear HM;go_wp2;go_ret;exact⟨A,c,rfl,HM2.o⟩
theorem AK(v:VD)(w:World): Calls Tryz.prog 169 #[.agg #[.int .i64 v.kind,.int .i64 v.num,.string v.text]] w λe w'=>e=.returned (.bool (decide (v.kind=0)))/\Touch [] w w':=by
 obtain⟨vk,vn,vt⟩:=v;dsimp only;have t0:=(Touch.refl [] w).alloc (.cells #[.int .i64 vk,.int .i64 vn,.string vt] 31);by_cases h:vk=0
 ·subst h;go_enter Tryz.func169,Tryz.ntmps169;go_wp2;go_ret;exact⟨rfl,t0⟩
 have hq:(vk==0)=false:=by rw[aw];exact h
 have hd:=lh (aC h);go_enter Tryz.func169,Tryz.ntmps169;go_wp2;go_ret;exact⟨eo hd.o.symm,t0⟩
theorem uC(A:Option Addr)(c m:Nat)(l:List VD)(hm:l.length=m)(w:World)(hv:eu w A l)(hl2:m<=140737000000000): Calls Tryz.prog 192 #[.slice A m c,.func (.func 169) #[] #[]] w λe w'=> (∃i:Int,e=.returned (.int .i64 i) /\ -1<=i/\i<=m/\(decide (0<=i)=iQ l))/\Touch [] w w':=by
 subst hm;go_enter Tryz.func192,Tryz.ntmps192;go_wp2;go_loopw [8] (λi wr=>∃k:Nat,k<=l.length/\i=.int .i64 k/\Ga (iQ (l.take k)=false)/\Touch [] w wr) (λi _=>l.length-(intOf i).toNat)
 case atStart=>exact⟨0,by omega,rfl,lh rfl,Touch.refl _ _⟩
 case round =>
 obtain⟨k,hk,rfl,Hall,ht⟩:=hrel;by_cases hlt:k<l.length
 ·obtain⟨ad,b,off,rfl,hadd,c0,c1,c2⟩:=(hv.touch0 ht).at_ k hlt;have htk:=au hlt;have hmem:=am hlt;obtain⟨v,hve⟩:∃v,v=l[k]:=⟨_,rfl⟩;rw[<- hve] at c0 c1 c2 htk hmem;have hst:iQ (l.take (k+1))=decide (v.kind=0):=by rw[htk];unfold iQ;rw[List.any_append];have:=Hall.o;unfold iQ at this;rw[this];simp
  have hyes:decide (v.kind=0)=true->iQ l=true:=λh=>cO.2 ⟨v,hmem,h⟩;have Hst:=lh hst;have hf:=λw'=>AK v w';have hkn:(k:Int)<(l.length:Int):=by omega
  have Hyes:=lh hyes;clear hst htk hve hyes hmem Hall;obtain⟨vk,vn,vt⟩:=v;dsimp only at c0 c1 c2 hf Hst Hyes;rcases hb:decide (vk=0) with _|_
  ·rw[hb] at hf;have Hf:=lh hf;have Hs:=lh (Hst.o.trans hb);clear hf hb;go_wp2_with fail;refine(Hf.o _).mono ?_;rintro e w1 ⟨rfl,t1⟩;go_wp2;go_roundw
   case rel=>exact⟨k+1,by omega,by go_num,Hs,ht.trans0 t1⟩
   case measure=>simp[intOf];omega
  rw[hb] at hf;have Hf:=lh hf;have Hs:=lh (Hyes.o hb);clear hf hb;go_wp2_with fail;refine(Hf.o _).mono ?_;rintro e w1 ⟨rfl,t1⟩;go_wp2;go_ret;exact⟨⟨k,rfl,by omega,by omega,by rw[Hs.o];simp⟩,ht.trans0 t1⟩
 obtain rfl:k=l.length:=by omega
 have hall:=Hall.o;rw[aH] at hall;have Hs:=lh hall;clear hall;go_wp2;go_ret;exact⟨⟨-1,rfl,by omega,by omega,by rw[Hs.o];rfl⟩,ht⟩
theorem qY(A:Option Addr)(c m:Nat)(l:List VD)(hm:l.length=m)(w:World)(hv:eu w A l)(hl2:m<=140737000000000): Calls Tryz.prog 168 #[.slice A m c,.func (.func 169) #[] #[]] w λe w'=>e=.returned (.bool (iQ l))/\Touch [] w w':=by have Hi:=lh (uC A c m l hm w hv hl2);go_enter Tryz.func168,Tryz.ntmps168;go_wp2_with fail;refine Hi.o.mono ?_;rintro e w1 ⟨⟨i,rfl,i1,i2,i3⟩,t1⟩;have I3:=lh i3;clear i3;go_wp2;go_ret;exact⟨eo (by rw[<- I3.o]),t1⟩
theorem wv(A:Option Addr)(c m:Nat)(l:List VD)(hm:l.length=m)(w:World)(hv:eu w A l)(hl2:m<=140737000000000): Calls Tryz.prog 135 #[.slice A m c] w λe w'=>e=.returned (.bool (iQ l))/\Touch [] w w':=by have Hi:=lh (qY A c m l hm w hv hl2);go_enter Tryz.func135,Tryz.ntmps135;go_wp2_with fail;refine Hi.o.mono ?_;rintro e w1 ⟨rfl,t1⟩;go_wp2;go_ret;exact⟨rfl,t1⟩
end
section
open Go.RowKit
def jU(s:List UInt8):List UInt8:=34:: (s.flatMap (λc=>if c=34\/c=92 then [92,c] else [c])++[34])
def gM(v:VD):List UInt8:=if v.right=false then [] else if v.kind=0 then [110,117,108,108] else if v.kind=1 then Lib.itoa v.num else jU v.text.data.toList
theorem yf(s:List UInt8):(jU s).length<=2*s.length+2:=by
 have:(s.flatMap (λc=>if c=34\/c=92 then [92,c] else [c])).length<=2*s.length:=by
  induction s with
  |nil=>simp
  |cons a s ih =>
   rw[bB,az,bK]
   split
   ·rw[show ([92,a]:List UInt8).length=2 from rfl];omega
   ·rw[show ([a]:List UInt8).length=1 from rfl];omega
 unfold jU;rw[bK,az,dB];omega
theorem xV(v:VD)(hn : -9223372036854775808<=v.num/\v.num<=9223372036854775807):(gM v).length<=200:=by
 unfold gM;split
 ·simp
 split
 ·simp
 split
 ·have:=Lib.itoa_length_le v.num (by omega) (by omega);omega
 rename_i h1 h2 h3;have hr:v.right=true:=by simpa using h1
 have hp:v.text.data.toList.length<=64:=by
  unfold VD.right at hr;rw[ab h2,ab h3] at hr;split at hr
  ·have:=(d8.1 hr).2;unfold ij at this;exact aN (d8.1 this).2
  cases hr
 have:=yf v.text.data.toList;omega
def fY(l:List VD):List UInt8:=l.flatMap λv=>gM v++[10]
def nq(w:World)(v:VD):Prop:=∀w',Touch [] w w'->Calls Tryz.prog 170 #[v.val] w' λe w''=>e=.returned (.string (S (gM v)))/\Touch [] w' w''
theorem nq.touch0{w w':World}{v:VD}(h:nq w v)(ht:Touch [] w w'):nq w' v:=λw'' t=>h w'' (ht.trans0 t)
theorem zZ(a b:List UInt8):S a++S b=S (a++b):=by apply uJ;simp[S]
theorem pV(A:Option Addr)(c m:Nat)(l:List VD)(hm:l.length=m)(w:World)(hv:eu w A l)(hl2:m<=1000000)(hs:∀ v∈l,nq w v)(hn:∀ v∈l,v.Ok 140737000000000): Calls Tryz.prog 136 #[.slice A m c] w λe w'=>e=.returned (.string (S (fY l)))/\Touch [] w w':=by
 subst hm;have HS:=lh hs;have HN:=lh hn;have HV:=lh hv;clear hs hn hv;go_enter Tryz.func136,Tryz.ntmps136;go_wp2_with fail;go_loopw [3,8] (λo i wr=>∃(k:Nat)(acc:ByteArray),k<=l.length/\acc.size<=201*k/\i=.int .i64 k/\o=.string acc/\Ga (acc=S (fY (l.take k)))/\Ga (Touch [] w wr)) (λ_ i _=>l.length-(intOf i).toNat)
 case atStart=>exact⟨0,⟨#[]⟩,by omega,aL 0,rfl,rfl,lh rfl,lh (Touch.refl _ _)⟩
 case round =>
 obtain⟨k,acc,hk,hac,rfl,rfl,HA,HT⟩:=hrel;by_cases hlt:k<l.length
 ·obtain⟨ad,b,off,rfl,hadd,c0,c1,c2⟩:=(HV.o.touch0 HT.o).at_ k hlt;have htk:=au hlt;have hmem:=am hlt;obtain⟨v,hve⟩:∃v,v=l[k]:=⟨_,rfl⟩;rw[<- hve] at c0 c1 c2 htk hmem;have hsh:=HS.o v hmem;have hle:=xV v (HN.o v hmem).n;have hnx:S (fY (l.take (k+1)))=acc++(S (gM v)++⟨#[10]⟩):=by rw[htk];unfold fY;rw[du,HA.o,show (⟨#[10]⟩:ByteArray)=S [10] from rfl,zZ,zZ];simp[fY]
  have ta:=(Touch.refl [] wr).alloc (.cells #[.int .i64 v.kind,.int .i64 v.num,.string v.text] 31);have hsv:=hsh _ (HT.o.trans0 ta);have hsz:(S (gM v)).size=(gM v).length:=ji _;obtain⟨sv,hsve⟩:∃sv,sv=S (gM v):=⟨_,rfl⟩;rw[<- hsve] at hsv hsz hnx;have hz3:(sv++⟨#[10]⟩:ByteArray).size=sv.size+1:=by rw[ByteArray.size_append];rfl
  have hz4:(acc++(sv++⟨#[10]⟩):ByteArray).size<=201*(k+1):=by rw[ByteArray.size_append,hz3];omega
  have hz1:¬9223372036854775807<sv.size+1:=by omega
  have hz2:¬9223372036854775807<acc.size+(sv++⟨#[10]⟩:ByteArray).size:=by omega
  have hz5:¬9223372036854775807<acc.size+(sv.size+1):=by omega
  have Hnx:=lh hnx;have HTa:=lh ta;have Hz4:=lh hz4;have hkn:(k:Int)<(l.length:Int):=by omega
  clear hnx htk hve hmem hsh hle ta hsz hsve hz4 hz3;obtain⟨vk,vn,vt⟩:=v;dsimp only[VD.val] at c0 c1 c2 hsv;have Hsv:=lh hsv;clear hsv;go_wp2_with fail;refine Hsv.o.mono ?_;rintro e w1 ⟨rfl,t1⟩;have HT1:=lh ((HT.o.trans0 HTa.o).trans0 t1);clear t1;go_wp2_with fail;go_roundw
  case rel=>exact⟨k+1,_,by omega,Hz4.o,by go_num,rfl,lh Hnx.o.symm,HT1⟩
  case measure=>simp[intOf];omega
 obtain rfl:k=l.length:=by omega
 have hA:=HA.o;rw[aH] at hA;have HA2:=lh hA;clear hA HA;go_wp2;go_ret;exact⟨by rw[<- HA2.o];rfl,HT.o⟩
end
section
def mu(f:Nat->Nat)(i v:Nat):Nat->Nat:=λk=>if k=i then v else f k
def me(f:Nat->Nat)(a b q:Nat):Nat->Nat:=λk=>if a<=k/\k<a+q then f (k-a+b) else if b<=k/\k<b+q then f (k-b+a) else f k
theorem Ds(f:Nat->Nat)(a b:Nat):me f a b 0=f:=by funext k;unfold me;rw[ab (by omega),ab (by omega)]
theorem Df(f:Nat->Nat)(a b i:Nat)(h:a+i<b):mu (mu (me f a b i) (a+i) (f (b+i))) (b+i) (f (a+i))=me f a b (i+1):=by
 funext k;simp only[mu,me];repeat' split
 all_goals first
  |rfl
  |(exfalso;omega)
  |(congr 1;omega)
theorem Fy(f:Nat->Nat)(a b i:Nat)(h:a+i<b):me f a b i (a+i)=f (a+i)/\me f a b i (b+i)=f (b+i):=by
 unfold me;constructor
 ·rw[ab (by omega),ab (by omega)]
 rw[ab (by omega),ab (by omega)]
def fM(f:Nat->Nat)(a m b:Nat):Nat->Nat:=λk=>if a<=k/\k<a+(b-m) then f (k-a+m) else if a+(b-m)<=k/\k<b then f (k-(b-m)) else f k
theorem Dd(f:Nat->Nat)(m i j:Nat)(hi:i<=m)(h:j<i):fM (me f (m-i) m j) (m-(i-j)) m (m+j)=fM f (m-i) m (m+j):=by
 funext k;simp only[me,fM];repeat' split
 all_goals first
  |rfl
  |(exfalso;omega)
  |(congr 1;omega)
theorem AX(f:Nat->Nat)(m i j:Nat)(hi:i<=m)(h:i<j):fM (me f (m-i) (m+j-i) i) (m-i) m (m+(j-i))=fM f (m-i) m (m+j):=by
 funext k;simp only[me,fM];repeat' split
 all_goals first
  |rfl
  |(exfalso;omega)
  |(congr 1;omega)
theorem C_(f:Nat->Nat)(m i:Nat)(hi:i<=m):me f (m-i) m i=fM f (m-i) m (m+i):=by
 funext k;simp only[me,fM];repeat' split
 all_goals first
  |rfl
  |(exfalso;omega)
  |(congr 1;omega)
def fW(D:Nat->Nat)(x y:Nat):Prop:=D x<D y\/(D x=D y/\x<y)
theorem fW.trans{D:Nat->Nat}{x y z:Nat}(h:fW D x y)(g:fW D y z):fW D x z:=by unfold fW at *;omega
theorem lI(D:Nat->Nat)(x:Nat):¬fW D x x:=by unfold fW;omega
theorem qm{D:Nat->Nat}{x y:Nat}(h:x<y):fW D x y ↔ ¬D y<D x:=by unfold fW;omega
def lx(D:Nat->Nat)(f:Nat->Nat)(a b:Nat):Prop:=∀i j,a<=i->i<j->j<b->fW D (f i) (f j)
def Lr(f:Nat->Nat)(a m b:Nat):Prop:=∀i j,a<=i->i<m->m<=j->j<b->f i<f j
def pZ(f:Nat->Nat)(a b x:Nat):Prop:=∃i,a<=i/\i<b/\f i=x
structure SM (D:Nat->Nat) (f:Nat->Nat) (a b:Nat) (g:Nat->Nat):Prop where
 o:∀k,k<a\/b<=k->g k=f k
 seg:∀x,pZ g a b x ↔ pZ f a b x
 srt:lx D g a b
theorem sT{f:Nat->Nat}{a b s m e:Nat}(h1:a<=s)(h2:s<=m)(h3:m<=e)(h4:e<=b)(k:Nat)(hk:k<a\/b<=k):fM f s m e k=f k:=by unfold fM;rw[ab (by omega),ab (by omega)]
theorem sJ{f:Nat->Nat}{a b s m e:Nat}(h1:a<=s)(h2:s<=m)(h3:m<=e)(h4:e<=b)(x:Nat):pZ (fM f s m e) a b x ↔ pZ f a b x:=by
 constructor
 ·rintro⟨i,hi1,hi2,rfl⟩;unfold fM;split
  ·exact⟨i-s+m,by omega,by omega,rfl⟩
  split
  ·exact⟨i-(e-m),by omega,by omega,rfl⟩
  exact⟨i,hi1,hi2,rfl⟩
 rintro⟨i,hi1,hi2,rfl⟩;by_cases q1:m<=i/\i<e
 ·refine⟨i-m+s,by omega,by omega, ?_⟩;unfold fM;rw[ae (by omega)];congr 1;omega
 by_cases q2:s<=i/\i<m
 ·refine⟨i+(e-m),by omega,by omega, ?_⟩;unfold fM;rw[ab (by omega),ae (by omega)];congr 1;omega
 refine⟨i,hi1,hi2, ?_⟩;unfold fM;rw[ab (by omega),ab (by omega)]
theorem Fh{D f:Nat->Nat}{a b i:Nat}(_hab:a+1<b)(hs:lx D f (a+1) b)(h1:a+1<=i)(h2:i<=b)(hL:∀ h,a+1<=h->h<i->fW D (f h) (f a))(hR:∀ h,i<=h->h<b->fW D (f a) (f h)):SM D f a b (fM f a (a+1) i) where
 o:=λk hk=>sT (aL _) (by omega) h1 h2 k hk
 seg:=λx=>sJ (aL _) (by omega) h1 h2 x
 srt:=λp q hp hpq hq=>by
  have e:∀k,a<=k->k<b->fM f a (a+1) i k=if k+1<i then f (k+1) else if k+1=i then f a else f k:=λk hk1 hk2=>by
   unfold fM;by_cases z:k+1<i
   ·rw[ae (by omega),ae z];congr 1;omega
   rw[ab (by omega),ab z];by_cases z2:k+1=i
   ·rw[ae (by omega),ae z2];congr 1;omega
   rw[ab (by omega),ab z2]
  rw[e p hp (by omega),e q (by omega) hq];by_cases q1:q+1<i
  ·rw[ae (by omega),ae q1];exact hs _ _ (by omega) (by omega) (by omega)
  rw[ab q1];by_cases q2:q+1=i
  ·rw[ae q2,ae (by omega)];exact hL _ (by omega) (by omega)
  rw[ab q2];by_cases p1:p+1<i
  ·rw[ae p1];exact hs _ _ (by omega) (by omega) hq
  rw[ab p1];by_cases p2:p+1=i
  ·rw[ae p2];exact hR _ (by omega) hq
  rw[ab p2];exact hs _ _ (by omega) hpq hq
theorem sL{D f:Nat->Nat}{a m i:Nat}(_ham:a<m)(hs:lx D f a m)(h1:a<=i)(h2:i<=m)(hL:∀ h,a<=h->h<i->fW D (f h) (f m))(hR:∀ h,i<=h->h<m->fW D (f m) (f h)):SM D f a (m+1) (fM f i m (m+1)) where
 o:=λk hk=>sT h1 h2 (by omega) (aL _) k hk
 seg:=λx=>sJ h1 h2 (by omega) (aL _) x
 srt:=λp q hp hpq hq=>by
  have e:∀k,a<=k->k<m+1->fM f i m (m+1) k=if k<i then f k else if k=i then f m else f (k-1):=λk hk1 hk2=>by
   unfold fM;by_cases z:k<i
   ·rw[ab (by omega),ab (by omega),ae z]
   rw[ab z];by_cases z2:k=i
   ·rw[ae (by omega),ae z2];congr 1;omega
   rw[ab (by omega),ae (by omega),ab z2];congr 1;omega
  rw[e p hp (by omega),e q (by omega) hq];by_cases q1:q<i
  ·rw[ae (by omega),ae q1];exact hs _ _ hp hpq (by omega)
  rw[ab q1];by_cases q2:q=i
  ·rw[ae q2,ae (by omega)];exact hL _ hp (by omega)
  rw[ab q2];by_cases p1:p<i
  ·rw[ae p1];exact hs _ _ hp (by omega) (by omega)
  rw[ab p1];by_cases p2:p=i
  ·rw[ae p2];exact hR _ (by omega) (by omega)
  rw[ab p2];exact hs _ _ (by omega) (by omega) (by omega)
structure Mid (D f:Nat->Nat) (a m b s e mid:Nat) (g:Nat->Nat):Prop where
 s1:lx D g a s
 s2:lx D g s mid
 s3:lx D g mid e
 s4:lx D g e b
 l1:Lr g a s mid
 l2:Lr g mid e b
 cr:∀i j,a<=i->i<mid->mid<=j->j<b->fW D (g i) (g j)
 o:∀k,k<a\/b<=k->g k=f k
 seg:∀x,pZ g a b x ↔ pZ f a b x
theorem Fm{D f:Nat->Nat}{a m b s mid lo hi:Nat}(ham:a<m)(hmb:m<b)(hs1:lx D f a m)(hs2:lx D f m b)(hlr:Lr f a m b)(hmid:mid=(a+b) / 2) (hlh:(mid<m/\lo=mid+m-b/\hi=mid)\/(m<=mid/\lo=a/\hi=m)) (hsl:lo<=s) (hsh:s<=hi) (hP:∀c,lo<=c->c<s->fW D (f c) (f (mid+m-1-c))) (hN:∀c,s<=c->c<hi->fW D (f (mid+m-1-c)) (f c)) : Mid D f a m b s (mid+m-s) mid (fM f s m (mid+m-s))/\a<=s/\s<=mid/\s<=m/\m<=mid+m-s/\mid+m-s<=b/\mid<=mid+m-s/\a<mid/\mid<b:=by
 have b1:a<mid:=by omega
 have b2:mid<b:=by omega
 have b3:a<=s:=by omega
 have b4:s<=mid:=by omega
 have b5:s<=m:=by omega
 have b6:m<=mid+m-s:=by omega
 have b7:mid+m-s<=b:=by omega
 have e:∀k,a<=k->k<b->fM f s m (mid+m-s) k=if k<s then f k else if k<mid then f (k-s+m) else if k<mid+m-s then f (k-(mid-s)) else f k:=λk _ _=>by
  unfold fM;by_cases z:k<s
  ·rw[ab (by omega),ab (by omega),ae z]
  rw[ab z];by_cases z2:k<mid
  ·rw[ae (by omega),ae z2]
  rw[ab (by omega),ab z2];by_cases z3:k<mid+m-s
  ·rw[ae (by omega),ae z3];congr 1;omega
  rw[ab (by omega),ab z3]
 have g1:∀k,a<=k->k<s->fM f s m (mid+m-s) k=f k:=λk h1 h2=>by rw[e k h1 (by omega),ae h2]
 have g2:∀k,s<=k->k<mid->fM f s m (mid+m-s) k=f (k-s+m):=λk h1 h2=>by rw[e k (by omega) (by omega),ab (by omega),ae h2]
 have g3:∀k,mid<=k->k<mid+m-s->fM f s m (mid+m-s) k=f (k-(mid-s)):=λk h1 h2=>by rw[e k (by omega) (by omega),ab (by omega),ab (by omega),ae h2]
 have g4:∀k,mid+m-s<=k->k<b->fM f s m (mid+m-s) k=f k:=λk h1 h2=>by rw[e k (by omega) h2,ab (by omega),ab (by omega),ab (by omega)]
 have le1:∀i j,a<=i->i<=j->j<m->i=j\/fW D (f i) (f j):=λi j h1 h2 h3=>by
  rcases Nat.eq_or_lt_of_le h2 with q|q
  ·exact .inl q
  exact .inr (hs1 i j h1 q h3)
 have le2:∀i j,m<=i->i<=j->j<b->i=j\/fW D (f i) (f j):=λi j h1 h2 h3=>by
  rcases Nat.eq_or_lt_of_le h2 with q|q
  ·exact .inl q
  exact .inr (hs2 i j h1 q h3)
 have chain:∀{x y z t:Nat},(x=y\/fW D (f x) (f y))->fW D (f y) (f z)->(z=t\/fW D (f z) (f t))->fW D (f x) (f t):=by
  intro x y z t h1 h2 h3;rcases h1 with rfl|h1<;>rcases h3 with rfl|h3
  ·exact h2
  ·exact h2.trans h3
  ·exact h1.trans h2
  exact(h1.trans h2).trans h3
 refine⟨⟨λi j h1 h2 h3=> ?_,λi j h1 h2 h3=> ?_,λi j h1 h2 h3=> ?_,λi j h1 h2 h3=> ?_,λi j h1 h2 h3 h4=> ?_,λi j h1 h2 h3 h4=> ?_,λi j h1 h2 h3 h4=> ?_,λk hk=>sT b3 b5 b6 b7 k hk,λx=>sJ b3 b5 b6 b7 x⟩,b3,b4,b5,b6,b7,by omega,b1,b2⟩
 ·rw[g1 i h1 (by omega),g1 j (by omega) h3];exact hs1 _ _ h1 h2 (by omega)
 ·rw[g2 i h1 (by omega),g2 j (by omega) h3];exact hs2 _ _ (by omega) (by omega) (by omega)
 ·rw[g3 i h1 (by omega),g3 j (by omega) h3];exact hs1 _ _ (by omega) (by omega) (by omega)
 ·rw[g4 i h1 (by omega),g4 j (by omega) h3];exact hs2 _ _ (by omega) h2 h3
 ·rw[g1 i h1 h2,g2 j h3 h4];exact hlr _ _ h1 (by omega) (by omega) (by omega)
 ·rw[g3 i h1 h2,g4 j h3 h4];exact hlr _ _ (by omega) (by omega) (by omega) h4
 by_cases q1:i<s
 ·rw[g1 i h1 q1];by_cases q2:j<mid+m-s
  ·rw[g3 j h3 q2];exact hs1 _ _ h1 (by omega) (by omega)
  rw[g4 j (by omega) h4];have hp:=hP (s-1) (by omega) (by omega);rw[show mid+m-1-(s-1)=mid+m-s by omega] at hp;exact chain (le1 i (s-1) h1 (by omega) (by omega)) hp (le2 (mid+m-s) j b6 (by omega) h4)
 rw[g2 i (by omega) h2];by_cases q2:j<mid+m-s
 ·rw[g3 j h3 q2];have hn:=hN s (aL _) (by omega);exact chain (le2 (i-s+m) (mid+m-1-s) (by omega) (by omega) (by omega)) hn (le1 s (j-(mid-s)) b3 (by omega) (by omega))
 rw[g4 j (by omega) h4];exact hs2 _ _ (by omega) (by omega) h4
theorem CS{D f g g1 g2:Nat->Nat}{a m b s e mid:Nat}(h:Mid D f a m b s e mid g)(ha:a<mid)(hb:mid<b)(h1:SM D g a mid g1)(h2:SM D g1 mid b g2):SM D f a b g2 where
 o:=λk hk=>by rw[h2.o k (by omega),h1.o k (by omega),h.o k hk]
 seg:=λx=>by
  rw[<- h.seg x];constructor
  ·rintro⟨i,q1,q2,rfl⟩;by_cases q:i<mid
   ·have:g2 i=g1 i:=h2.o i (.inl q);rw[this];obtain⟨j,z1,z2,z3⟩:=(h1.seg (g1 i)).1 ⟨i,q1,q,rfl⟩;exact⟨j,z1,by omega,z3⟩
   obtain⟨j,z1,z2,z3⟩:=(h2.seg (g2 i)).1 ⟨i,by omega,q2,rfl⟩;exact⟨j,by omega,z2,by rw[<- z3];exact(h1.o j (.inr z1)).symm⟩
  rintro⟨i,q1,q2,rfl⟩;by_cases q:i<mid
  ·obtain⟨j,z1,z2,z3⟩:=(h1.seg (g i)).2 ⟨i,q1,q,rfl⟩;exact⟨j,z1,by omega,by rw[h2.o j (.inl z2)];exact z3⟩
  have e1:g1 i=g i:=h1.o i (.inr (by omega));obtain⟨j,z1,z2,z3⟩:=(h2.seg (g1 i)).2 ⟨i,by omega,q2,rfl⟩;exact⟨j,by omega,z2,by rw[z3,e1]⟩
 srt:=λi j q1 q2 q3=>by
  by_cases z1:j<mid
  ·rw[h2.o i (.inl (by omega)),h2.o j (.inl z1)];exact h1.srt i j q1 q2 z1
  by_cases z2:i<mid
  ·have e1:g2 i=g1 i:=h2.o i (.inl z2);rw[e1];obtain⟨i',y1,y2,y3⟩:=(h1.seg (g1 i)).1 ⟨i,q1,z2,rfl⟩;obtain⟨j',x1,x2,x3⟩:=(h2.seg (g2 j)).1 ⟨j,by omega,q3,rfl⟩;rw[<- y3,<- x3,h1.o j' (.inr x1)];exact h.cr i' j' y1 y2 x1 x2
  exact h2.srt i j (by omega) q2 q3
theorem SM.self{D f:Nat->Nat}{a b:Nat}(h:lx D f a b):SM D f a b f:=⟨λ_ _=>rfl,λ_=>Iff.rfl,h⟩
theorem D2(f:Nat->Nat)(a m:Nat):fM f a m m=f:=by
 funext k;unfold fM;rw[ab (by omega)];split
 ·rw[Nat.sub_self,Nat.sub_zero]
 rfl
theorem zG(f:Nat->Nat)(m e:Nat):fM f m m e=f:=by
 funext k;unfold fM;split
 ·congr 1;omega
 rw[ab (by omega)]
theorem Fv(f:Nat->Nat)(a k:Nat)(h:a<=k):mu (mu (fM f a (a+1) (k+1)) k (f (k+1))) (k+1) (f a)=fM f a (a+1) (k+2):=by
 funext x;simp only[mu,fM];repeat' split
 all_goals first
  |rfl
  |(exfalso;omega)
  |(congr 1;omega)
theorem AN(f:Nat->Nat)(a k:Nat)(h:a<=k):fM f a (a+1) (k+1) k=f a/\fM f a (a+1) (k+1) (k+1)=f (k+1):=by
 simp only[fM];constructor
 ·rw[ab (by omega),ae (by omega)];congr 1;omega
 rw[ab (by omega),ab (by omega)]
theorem Av(f:Nat->Nat)(m k:Nat)(h:k+1<=m):mu (mu (fM f (k+1) m (m+1)) (k+1) (f k)) k (f m)=fM f k m (m+1):=by
 funext x;simp only[mu,fM];repeat' split
 all_goals first
  |rfl
  |(exfalso;omega)
  |(congr 1;omega)
theorem ud(f:Nat->Nat)(m k:Nat)(_h:k+1<=m):fM f (k+1) m (m+1) k=f k/\fM f (k+1) m (m+1) (k+1)=f m:=by
 simp only[fM];constructor
 ·rw[ab (by omega),ab (by omega)]
 rw[ae (by omega)];congr 1;omega
theorem Ai{D f:Nat->Nat}{a b:Nat}(h:lx D f a b)(i j:Nat)(h1:a<=i)(h2:i<=j)(h3:j<b):i=j\/fW D (f i) (f j):=by
 rcases Nat.eq_or_lt_of_le h2 with q|q
 ·exact .inl q
 exact .inr (h i j h1 q h3)
theorem qj{D f:Nat->Nat}{a b i j z:Nat}(h:lx D f a b)(h1:a<=i)(h2:i<=j)(h3:j<b)(hz:fW D (f j) z):fW D (f i) z:=by
 rcases Ai h i j h1 h2 h3 with rfl|q
 ·exact hz
 exact q.trans hz
theorem pD{D f:Nat->Nat}{a b i j z:Nat}(h:lx D f a b)(h1:a<=i)(h2:i<=j)(h3:j<b)(hz:fW D z (f i)):fW D z (f j):=by
 rcases Ai h i j h1 h2 h3 with rfl|q
 ·exact hz
 exact hz.trans q
theorem EE{D f g:Nat->Nat}{a m b s e mid:Nat}(h:Mid D f a m b s e mid g)(hh:s=a\/s=mid):SM D g a mid g:=by
 refine SM.self ?_;rcases hh with rfl|rfl
 ·exact h.s2
 exact h.s1
theorem Dz{D f g g1:Nat->Nat}{a m b s e mid:Nat}(h:Mid D f a m b s e mid g)(hh:e=mid\/e=b)(h1:∀ k,mid<=k->g1 k=g k):SM D g1 mid b g1:=by
 refine SM.self ?_;intro i j q1 q2 q3;rw[h1 i q1,h1 j (by omega)];rcases hh with rfl|rfl
 ·exact h.s4 i j q1 q2 q3
 exact h.s3 i j q1 q2 q3
theorem lx.cong{D f g:Nat->Nat}{a b:Nat}(h:lx D f a b)(e:∀ k,a<=k->g k=f k):lx D g a b:=λi j q1 q2 q3=>by rw[e i q1,e j (by omega)];exact h i j q1 q2 q3
theorem Lr.cong{f g:Nat->Nat}{a m b:Nat}(h:Lr f a m b)(e:∀ k,a<=k->g k=f k):Lr g a m b:=λi j q1 q2 q3 q4=>by rw[e i q1,e j (by omega)];exact h i j q1 q2 q3 q4
theorem SM.lt{D f g:Nat->Nat}{a b n:Nat}(h:SM D f a b g)(hb:b<=n)(hf:∀ k,k<n->f k<n)(k:Nat)(hk:k<n):g k<n:=by
 by_cases q:a<=k/\k<b
 ·obtain⟨i,q1,q2,q3⟩:=(h.seg (g k)).1 ⟨k,q.1,q.2,rfl⟩;rw[<- q3];exact hf i (by omega)
 rw[h.o k (by omega)];exact hf k hk
theorem Mid.lt{D f g:Nat->Nat}{a m b s e mid n:Nat}(h:Mid D f a m b s e mid g)(hb:b<=n)(hf:∀ k,k<n->f k<n)(k:Nat)(hk:k<n):g k<n:=by
 by_cases q:a<=k/\k<b
 ·obtain⟨i,q1,q2,q3⟩:=(h.seg (g k)).1 ⟨k,q.1,q.2,rfl⟩;rw[<- q3];exact hf i (by omega)
 rw[h.o k (by omega)];exact hf k hk
def Up(f:Nat->Nat)(a b:Nat):Prop:=∀i j,a<=i->i<j->j<b->f i<f j
theorem SM.trans{D f g h:Nat->Nat}{a b:Nat}(h1:SM D f a b g)(h2:SM D g a b h):SM D f a b h where
 o:=λk hk=>by rw[h2.o k hk,h1.o k hk]
 seg:=λx=>(h2.seg x).trans (h1.seg x)
 srt:=h2.srt
theorem Cp{f g:Nat->Nat}{a i:Nat}(hi:a<=i)(h:∀ x,pZ g a i x ↔ pZ f a i x)(e:g i=f i)(x:Nat):pZ g a (i+1) x ↔ pZ f a (i+1) x:=by
 constructor
 ·rintro⟨k,q1,q2,q3⟩;by_cases q:k=i
  ·subst q;exact⟨k,q1,q2,by rw[<- e];exact q3⟩
  obtain⟨j,z1,z2,z3⟩:=(h x).1 ⟨k,q1,by omega,q3⟩;exact⟨j,z1,by omega,z3⟩
 rintro⟨k,q1,q2,q3⟩;by_cases q:k=i
 ·subst q;exact⟨k,q1,q2,by rw[e];exact q3⟩
 obtain⟨j,z1,z2,z3⟩:=(h x).2 ⟨k,q1,by omega,q3⟩;exact⟨j,z1,by omega,z3⟩
theorem yb{D f g g':Nat->Nat}{a i:Nat}(hi:a<=i)(h1:SM D f a i g)(h2:SM D g a (i+1) g'):SM D f a (i+1) g' where
 o:=λk hk=>by rw[h2.o k hk,h1.o k (by omega)]
 seg:=λx=>(h2.seg x).trans (Cp hi h1.seg (h1.o i (.inr (aL _))) x)
 srt:=h2.srt
theorem Fl{D f g:Nat->Nat}{a b i k:Nat}(hup:Up f a b)(h1:SM D f a i g)(hib:i<b)(hk:a<=k)(hki:k<i):g k<g i:=by rw[h1.o i (.inr (aL _))];obtain⟨j,z1,z2,z3⟩:=(h1.seg (g k)).1 ⟨k,hk,hki,rfl⟩;rw[<- z3];exact hup _ _ z1 z2 hib
end
section
open Go.RowKit
abbrev F1 (s:SL):Value:=.slice s.A s.n s.c
def fc(S:Nat->SL)(w:World)(G c n:Nat)(f:Nat->Nat):Prop:=ep 33 1 (λs=>[F1 s]) w (some ⟨G,0,none⟩) c ((List.range n).map λk=>S (f k))
theorem fc.cell{S:Nat->SL}{w:World}{G c n:Nat}{f:Nat->Nat}(h:fc S w G c n f)(k:Nat)(hk:k<n):w.cell? ⟨G,k,none⟩=some (Value.slice (SL.A (S (f k))) (SL.n (S (f k))) (SL.c (S (f k)))):=by have:=ep.cell1 h k (by simpa using hk);simpa using this
theorem fc.free{S:Nat->SL}{w:World}{G c n:Nat}{f:Nat->Nat}(h:fc S w G c n f)(k:Nat):w.frozen? ⟨G,k,none⟩=false:=ep.free_ h k
theorem fc.touch{S:Nat->SL}{w w':World}{G c n:Nat}{f:Nat->Nat}{fp:List Nat}(h:fc S w G c n f)(ht:Touch fp w w')(hn:G∉fp):fc S w' G c n f:=ep.touch h ht (λb hb=>by simp[ed] at hb;subst hb;exact hn)
theorem fc.touch0{S:Nat->SL}{w w':World}{G c n:Nat}{f:Nat->Nat}(h:fc S w G c n f)(ht:Touch [] w w'):fc S w' G c n f:=h.touch ht (by simp)
theorem fc.set{S:Nat->SL}{w:World}{G c n:Nat}{f:Nat->Nat}(h:fc S w G c n f)(i v:Nat)(hi:i<n):fc S (w.setCell ⟨G,i,none⟩ (Value.slice (SL.A (S v)) (SL.n (S v)) (SL.c (S v)))) G c n (mu f i v):=by
 have:=ep.set1 h i (by simpa using hi) (S v);have e:((List.range n).map λk=>S (f k)).set i (S v)=(List.range n).map λk=>S (mu f i v k):=by
  apply List.ext_getElem
  ·simp
  intro j h1 h2;simp only[List.getElem_set,List.getElem_map,List.getElem_range,mu];by_cases q:i=j
  ·subst q;simp
  have q2:¬j=i:=λe=>q e.symm;simp[q,q2]
 unfold fc;rw[<- e];exact this
theorem pS(G c n:Nat)(hn:n<=100000)(S:Nat->SL)(f:Nat->Nat)(a b q:Nat)(hab:a+q<=b)(hb:b+q<=n)(fv:Value)(w:World)(h:fc S w G c n f): Calls Tryz.prog 211 #[.slice (some ⟨G,0,none⟩) n c,.int .i64 a,.int .i64 b,.int .i64 q,fv] w λe w'=>e=.returned (.tuple #[])/\fc S w' G c n (me f a b q)/\Touch [G] w w':=by
 have H0:Ga (fc S w G c n (me f a b 0)):=lh (by rw[Ds];exact h);clear h;go_enter Tryz.func211,Tryz.ntmps211;go_wp2_with fail;go_loopw [10] (λy wr=>∃i:Nat,i<=q/\y=.int .i64 i/\Ga (fc S wr G c n (me f a b i))/\Ga (Touch [G] w wr)) (λy _=>q-(intOf y).toNat)
 case atStart=>exact⟨0,by omega,rfl,H0,lh (Touch.refl _ _)⟩
 case round =>
 clear H0;obtain⟨i,hi,rfl,HR,HT⟩:=hrel;by_cases hlt:i<q
 ·have ca:=HR.o.cell (a+i) (by omega);have cb:=HR.o.cell (b+i) (by omega);have fa:=HR.o.free (a+i);have fb:=HR.o.free (b+i);have hat:=Fy f a b i (by omega);rw[hat.1] at ca;rw[hat.2] at cb;have hne:a+i≠b+i:=by omega
  obtain⟨x,hx⟩:∃x,x=f (a+i):=⟨_,rfl⟩;obtain⟨y,hy⟩:∃y,y=f (b+i):=⟨_,rfl⟩;rw[<- hx] at ca;rw[<- hy] at cb;have hs:=(HR.o.set (a+i) y (by omega)).set (b+i) x (by omega);rw[hx,hy,Df f a b i (by omega),<- hx,<- hy] at hs;have HS:=lh hs;have HT2:=lh ((HT.o.setCell (p:=⟨G,a+i,none⟩) (.inl (by simp)) (Value.slice (SL.A (S y)) (SL.n (S y)) (SL.c (S y)))).setCell (p:=⟨G,b+i,none⟩) (.inl (by simp)) (Value.slice (SL.A (S x)) (SL.n (S x)) (SL.c (S x))));clear hat hx hy hs;go_wp2_with fail;go_region;go_wp2_with fail;go_roundw
  case rel=>exact⟨i+1,by omega,by go_num,lh (HS.o.touch0 (Touch.refl [] _).drew),lh HT2.o.drew⟩
  case measure=>simp[intOf];omega
 obtain rfl:i=q:=by omega
 go_wp2;go_end0;exact⟨rfl,HR.o,HT.o⟩
theorem yZ(G c n:Nat)(hn:n<=100000)(S:Nat->SL)(f:Nat->Nat)(a m b:Nat)(ham:a<m)(hmb:m<b)(hb:b<=n)(fv:Value)(w:World)(h:fc S w G c n f): Calls Tryz.prog 203 #[.slice (some ⟨G,0,none⟩) n c,.int .i64 a,.int .i64 m,.int .i64 b,fv] w λe w'=>e=.returned (.tuple #[])/\fc S w' G c n (fM f a m b)/\Touch [G] w w':=by
 have H0:Ga (fM f (m-(m-a)) m (m+(b-m))=fM f a m b):=lh (by rw[show m-(m-a)=a by omega,show m+(b-m)=b by omega]);have HR0:=lh h;clear h;go_enter Tryz.func203,Tryz.ntmps203;go_wp2_with fail;go_loopw [10,11] (λx y wr=>∃(i j:Nat)(g:Nat->Nat),0<i/\0<j/\i<=m-a/\j<=b-m/\x=.int .i64 i/\y=.int .i64 j/\Ga (fM g (m-i) m (m+j)=fM f a m b)/\Ga (fc S wr G c n g)/\Ga (Touch [G] w wr)) (λx y _=>(intOf x).toNat+(intOf y).toNat)
 case atStart=>exact⟨m-a,b-m,f,by omega,by omega,by omega,by omega,by congr 1;omega,by congr 1;omega,H0,HR0,lh (Touch.refl _ _)⟩
 case round =>
 clear H0 HR0;obtain⟨i,j,g,hi,hj,him,hjb,rfl,rfl,HE,HR,HT⟩:=hrel;have e1:(m:Int)-(i:Int)=((m-i:Nat):Int):=by omega
 by_cases hij:i=j
 ·subst hij;have hS:=pS G c n hn S g (m-i) m i (by omega) (by omega) fv wr HR.o;rw[C_ g m i (by omega),HE.o] at hS;have HS:=lh hS;clear hS;go_wp2_with fail;(try rw[e1]);refine HS.o.mono ?_;rintro e w2 ⟨rfl,hr,ht⟩;go_wp2_with fail;go_end0;exact⟨rfl,hr,HT.o.trans ht (λb hb=>.inl hb)⟩
 have hij':(i:Int)≠j:=by omega
 have hne:((i:Int) != (j:Int))=true:=by simp;omega
 by_cases hlt:j<i
 ·have hS:=pS G c n hn S g (m-i) m j (by omega) (by omega) fv wr HR.o;have HS:=lh hS;have HE2:=lh ((Dd g m i j (by omega) hlt).trans HE.o);have e2:(i:Int)-(j:Int)=((i-j:Nat):Int):=by omega
  have hlt':(j:Int)<(i:Int):=by omega
  clear hS;go_wp2_with fail;(try rw[e1]);refine HS.o.mono ?_;rintro e w2 ⟨rfl,hr,ht⟩;have HR2:=lh hr;have HT2:=lh (HT.o.trans ht (λb hb=>.inl hb));clear hr ht HS;go_wp2_with fail;go_roundw
  case rel=>exact⟨i-j,j,_,by omega,by omega,by omega,by omega,by rw[<- e2],rfl,HE2,HR2,HT2⟩
  case measure=>simp[intOf];omega
 have hlt':((j:Int)<(i:Int))=False:=by simp;omega
 have hS:=pS G c n hn S g (m-i) (m+j-i) i (by omega) (by omega) fv wr HR.o;have HS:=lh hS;have HE2:=lh ((AX g m i j (by omega) (by omega)).trans HE.o);have e2:(j:Int)-(i:Int)=((j-i:Nat):Int):=by omega
 have e3:(m:Int)+(j:Int)-(i:Int)=((m+j-i:Nat):Int):=by omega
 clear hS;go_wp2_with fail;(try rw[e1]);(try rw[e3]);refine HS.o.mono ?_;rintro e w2 ⟨rfl,hr,ht⟩;have HR2:=lh hr;have HT2:=lh (HT.o.trans ht (λb hb=>.inl hb));clear hr ht HS;go_wp2_with fail;go_roundw
 case rel=>exact⟨i,j-i,_,by omega,by omega,by omega,by omega,rfl,by rw[<- e2],HE2,HR2,HT2⟩
 case measure=>simp[intOf];omega
end
section
open Go.RowKit
variable (FN:Nat) (CL:List Value)
def ll(S:Nat->SL)(R:Nat->Nat->Int)(G n:Nat)(w0:World):Prop:=∀wr,Touch [G] w0 wr->∀x y:Nat,x<n->y<n ->
 Calls Tryz.prog FN ((Value.slice (SL.A (S x)) (SL.n (S x)) (SL.c (S x))):: (Value.slice (SL.A (S y)) (SL.n (S y)) (SL.c (S y))):: CL).toArray wr λe w'=>e=.returned (.int .i64 (R x y))/\Touch [] wr w'
def mK(S:Nat->SL)(G c n:Nat)(D:Nat->Nat)(w0:World)(a m b:Nat):Prop:=∀(f:Nat->Nat)(wr:World),fc S wr G c n f->Touch [G] w0 wr->lx D f a m->lx D f m b->Lr f a m b->(∀k,k<n->f k<n) ->
 Calls Tryz.prog 178 #[.slice (some ⟨G,0,none⟩) n c,.int .i64 a,.int .i64 m,.int .i64 b,.func (.func FN) #[] CL.toArray] wr λe w'=>
  e=.returned (.tuple #[])/\∃g,fc S w' G c n g/\SM D f a b g/\Touch [G] wr w'
theorem AO(hFN:∀ (args:Array Value) (wk:World),(callFunc FN args).run Tryz.prog wk=.ok (.enter FN args) wk)(G c n:Nat)(hn:n<=100000)(S:Nat->SL)(R:Nat->Nat->Int)(D:Nat->Nat)(hRD:∀ x y,R x y<0 ↔ D x<D y)(w0:World)(hC:ll FN CL S R G n w0)(a b:Nat)(hab:a+1<b)(hb:b<=n):mK FN CL S G c n D w0 a (a+1) b:=by
 intro f wr hR hT hs1 hs2 hlr hfn;obtain⟨W0,hW0⟩:∃W0,W0=wr:=⟨_,rfl⟩;subst hW0;have HR:=lh hR;have HT:=lh hT;have HS:=Gb hs2 hlr;have HC:=lh hC;have e1:(((a+1:Nat):Int)-(a:Int))=1:=by omega
 clear hR hT hs1 hs2 hlr hC;go_enter Tryz.func178,Tryz.ntmps178;go_wp2_with fail;go_loopw [10,11] (λx y w1=>∃i j:Nat,a+1<=i/\i<=j/\j<=b/\x=.int .i64 i/\y=.int .i64 j/\Ga (∀h,a+1<=h->h<i->fW D (f h) (f a))/\Ga (∀h,j<=h->h<b->fW D (f a) (f h))/\Ga (Touch [] W0 w1)) (λx y _=>(intOf y).toNat-(intOf x).toNat)
 case atStart=>exact⟨a+1,b,by omega,by omega,by omega,by go_num,rfl,lh (λh q1 q2=>absurd q1 (by omega)),lh (λh q1 q2=>absurd q1 (by omega)),lh (Touch.refl _ _)⟩
 case round =>
 obtain⟨i,j,hi,hij,hj,rfl,rfl,HL,HH,HW⟩:=hrel;have hT1:Touch [G] w0 wr:=HT.o.trans HW.o (by simp);have hR1:fc S wr G c n f:=HR.o.touch0 HW.o;by_cases hlt:i<j
 ·obtain⟨h,hh⟩:∃h,h=(i+j) / 2:=⟨_,rfl⟩;have hhi:i<=h:=by omega
  have hhj:h<j:=by omega
  have ch:=TW.cell (hR1.cell h (by omega));have ca:=TW.cell (hR1.cell a (by omega));obtain⟨r,hr⟩:∃r,r=R (f h) (f a):=⟨_,rfl⟩;have hc:∀x8:TW wr,Calls Tryz.prog FN ((Value.slice (SL.A (S (f h))) (SL.n (S (f h))) (SL.c (S (f h)))):: (Value.slice (SL.A (S (f a))) (SL.n (S (f a))) (SL.c (S (f a)))):: CL).toArray x8.w λe w'=>e=.returned (.int .i64 r)/\Touch [] x8.w w':=λx8=>by rw[hr];exact HC.o _ (Touch.trans hT1 x8.t (by simp)) (f h) (f a) (hfn _ (by omega)) (hfn _ (by omega))
  have HR1:=lh hR1;have HT1:=lh hT1;have HCC:=lh hc;have HQ:=lh hr;have he:((i:Int)+(j:Int)) / 2=(h:Int):=by omega
  clear hR1 hT1 hc hr hh;go_wp2_with fail;refine eh wr (Touch.refl _ _) (by kernel_rfl) (by kernel_rfl) ?_;repeat (go_big_quiet_step (((exact Calls.tw _ (HCC.o _)))))
  refine aS ?_;rintro _ ⟨x9,rfl⟩;by_cases hr0:r<0
  ·go_wp2_with fail;go_roundw
   case rel =>have q:=(hRD _ _).1 (HQ.o ▸ hr0);have q2:fW D (f h) (f a):=.inl (by omega);exact⟨h+1,j,by omega,by omega,hj,by go_num,rfl,lh (λx x1 x2=>qj HS.o.1 x1 (by omega) (by omega) q2),HH,lh (HW.o.trans0 x9.t)⟩
   case measure=>simp[intOf];omega
  have hr1:(r<0)=False:=by simp;omega
  go_wp2_with fail;go_roundw
  case rel =>have q:=mt (hRD (f h) (f a)).2 (HQ.o ▸ hr0);have q2:fW D (f a) (f h):=(qm (HS.o.2 a h (by omega) (by omega) (by omega) (by omega))).2 (by omega);exact⟨i,h,by omega,by omega,by omega,rfl,by go_num,HL,lh (λx x1 x2=>pD HS.o.1 (by omega) x1 x2 q2),lh (HW.o.trans0 x9.t)⟩
  case measure=>simp[intOf];omega
 obtain rfl:i=j:=by omega
 have H0:Ga (fc S wr G c n (fM f a (a+1) (a+1))):=lh (by rw[D2];exact hR1);have HT1:=lh hT1;have HW1:Ga (Touch [G] W0 wr):=lh (HW.o.mono (by simp));have e2:(i:Int)-1=((i-1:Nat):Int):=by omega
 clear hR1 hT1;go_wp2_with fail;go_loopw [13] (λy w1=>∃k:Nat,a<=k/\k+1<=i/\y=.int .i64 k/\Ga (fc S w1 G c n (fM f a (a+1) (k+1)))/\Ga (Touch [G] W0 w1)) (λy _=>i-(intOf y).toNat)
 case atStart=>exact⟨a,by omega,by omega,rfl,H0,HW1⟩
 case round =>
 clear H0 HW1 HT1;obtain⟨k,hk,hki,rfl,HRk,HTk⟩:=hrel;by_cases hlt:k+1<i
 ·have hlt2:(k:Int)<((i-1:Nat):Int):=by omega
  have ca:=HRk.o.cell k (by omega);have cb:=HRk.o.cell (k+1) (by omega);have fa:=HRk.o.free k;have fb:=HRk.o.free (k+1);have hat:=AN f a k hk;rw[hat.1] at ca;rw[hat.2] at cb;obtain⟨x,hx⟩:∃x,x=f a:=⟨_,rfl⟩;obtain⟨y,hy⟩:∃y,y=f (k+1):=⟨_,rfl⟩;rw[<- hx] at ca;rw[<- hy] at cb;have hs:=(HRk.o.set k y (by omega)).set (k+1) x (by omega);rw[hx,hy,Fv f a k hk,<- hx,<- hy] at hs;have HS2:=lh hs;have HT2:=lh ((HTk.o.setCell (p:=⟨G,k,none⟩) (.inl (by simp)) (Value.slice (SL.A (S y)) (SL.n (S y)) (SL.c (S y)))).setCell (p:=⟨G,k+1,none⟩) (.inl (by simp)) (Value.slice (SL.A (S x)) (SL.n (S x)) (SL.c (S x))));have hne:k≠k+1:=by omega
  clear hat hx hy hs;go_wp2_with fail;go_region;go_wp2_with fail;go_roundw
  case rel=>exact⟨k+1,by omega,by omega,by go_num,lh (HS2.o.touch0 (Touch.refl [] _).drew),lh HT2.o.drew⟩
  case measure=>simp[intOf];omega
 have hlt2:((k:Int)<((i-1:Nat):Int))=False:=by simp;omega
 go_wp2;refine aG (results_none rfl _ _ _) rfl ?_;obtain rfl:k+1=i:=by omega
 exact⟨rfl,_,HRk.o,Fh hab HS.o.1 (by omega) hj HL.o HH.o,HTk.o⟩
theorem DW(hFN:∀ (args:Array Value) (wk:World),(callFunc FN args).run Tryz.prog wk=.ok (.enter FN args) wk)(G c n:Nat)(hn:n<=100000)(S:Nat->SL)(R:Nat->Nat->Int)(D:Nat->Nat)(hRD:∀ x y,R x y<0 ↔ D x<D y)(w0:World)(hC:ll FN CL S R G n w0)(a m:Nat)(ham:a+1<m)(hb:m+1<=n):mK FN CL S G c n D w0 a m (m+1):=by
 intro f wr hR hT hs1 hs2 hlr hfn;obtain⟨W0,hW0⟩:∃W0,W0=wr:=⟨_,rfl⟩;subst hW0;have HR:=lh hR;have HT:=lh hT;have HS:=Gb hs1 hlr;have HC:=lh hC;have HF:=lh hfn;have e1:((m:Int)-(a:Int)==1)=false:=by simp;omega
 have e2:(((m+1:Nat):Int)-(m:Int))=1:=by omega
 clear hR hT hs1 hs2 hlr hC hfn;go_enter Tryz.func178,Tryz.ntmps178;go_wp2_with fail;go_loopw [14,15] (λx y w1=>∃i j:Nat,a<=i/\i<=j/\j<=m/\x=.int .i64 i/\y=.int .i64 j/\Ga (∀h,a<=h->h<i->fW D (f h) (f m))/\Ga (∀h,j<=h->h<m->fW D (f m) (f h))/\Ga (Touch [] W0 w1)) (λx y _=>(intOf y).toNat-(intOf x).toNat)
 case atStart=>exact⟨a,m,by omega,by omega,by omega,rfl,rfl,lh (λh q1 q2=>absurd q1 (by omega)),lh (λh q1 q2=>absurd q1 (by omega)),lh (Touch.refl _ _)⟩
 case round =>
 obtain⟨i,j,hi,hij,hj,rfl,rfl,HL,HH,HW⟩:=hrel;have hT1:Touch [G] w0 wr:=HT.o.trans HW.o (by simp);have hR1:fc S wr G c n f:=HR.o.touch0 HW.o;by_cases hlt:i<j
 ·obtain⟨h,hh⟩:∃h,h=(i+j) / 2:=⟨_,rfl⟩;have hhi:i<=h:=by omega
  have hhj:h<j:=by omega
  have ch:=TW.cell (hR1.cell h (by omega));have ca:=TW.cell (hR1.cell m (by omega));obtain⟨r,hr⟩:∃r,r=R (f m) (f h):=⟨_,rfl⟩;have hc:∀x8:TW wr,Calls Tryz.prog FN ((Value.slice (SL.A (S (f m))) (SL.n (S (f m))) (SL.c (S (f m)))):: (Value.slice (SL.A (S (f h))) (SL.n (S (f h))) (SL.c (S (f h)))):: CL).toArray x8.w λe w'=>e=.returned (.int .i64 r)/\Touch [] x8.w w':=λx8=>by rw[hr];exact HC.o _ (Touch.trans hT1 x8.t (by simp)) (f m) (f h) (HF.o _ (by omega)) (HF.o _ (by omega))
  have HR1:=lh hR1;have HT1:=lh hT1;have HCC:=lh hc;have HQ:=lh hr;have he:((i:Int)+(j:Int)) / 2=(h:Int):=by omega
  clear hR1 hT1 hc hr hh;go_wp2_with fail;by_cases hr0:r<0
  ·refine eh wr (Touch.refl _ _) (by kernel_rfl) (by kernel_rfl) ?_;repeat (go_big_quiet_step (((exact Calls.tw _ (HCC.o _)))))
   refine aS ?_;rintro _ ⟨x9,rfl⟩;go_wp2_with fail;go_roundw
   case rel =>have q:=(hRD _ _).1 (HQ.o ▸ hr0);have q2:fW D (f m) (f h):=.inl (by omega);exact⟨i,h,by omega,by omega,by omega,rfl,by go_num,HL,lh (λx x1 x2=>pD HS.o.1 (by omega) x1 x2 q2),lh (HW.o.trans0 x9.t)⟩
   case measure=>simp[intOf];omega
  have hr1:(r<0)=False:=by simp;omega
  refine eh wr (Touch.refl _ _) (by kernel_rfl) (by kernel_rfl) ?_;repeat (go_big_quiet_step (((exact Calls.tw _ (HCC.o _)))))
  refine aS ?_;rintro _ ⟨x9,rfl⟩;go_wp2_with fail;go_roundw
  case rel =>have q:=mt (hRD (f m) (f h)).2 (HQ.o ▸ hr0);have q2:fW D (f h) (f m):=(qm (HS.o.2 h m (by omega) (by omega) (by omega) (by omega))).2 (by omega);exact⟨h+1,j,by omega,by omega,hj,by go_num,rfl,lh (λx x1 x2=>qj HS.o.1 x1 (by omega) (by omega) q2),HH,lh (HW.o.trans0 x9.t)⟩
  case measure=>simp[intOf];omega
 obtain rfl:i=j:=by omega
 have H0:Ga (fc S wr G c n (fM f m m (m+1))):=lh (by rw[zG];exact hR1);have HT1:=lh hT1;have HW1:Ga (Touch [G] W0 wr):=lh (HW.o.mono (by simp));clear hR1 hT1;go_wp2_with fail;go_loopw [17] (λy w1=>∃k:Nat,i<=k/\k<=m/\y=.int .i64 k/\Ga (fc S w1 G c n (fM f k m (m+1)))/\Ga (Touch [G] W0 w1)) (λy _=>(intOf y).toNat-i)
 case atStart=>exact⟨m,by omega,by omega,rfl,H0,HW1⟩
 case round =>
 clear H0 HW1 HT1;obtain⟨k',hk,hki,rfl,HRk,HTk⟩:=hrel;by_cases hlt:i<k'
 ·obtain⟨k,rfl⟩:∃k,k'=k+1:=⟨k'-1,by omega⟩;have hlt2:(i:Int)<((k+1:Nat):Int):=by omega
  have ca:=HRk.o.cell k (by omega);have cb:=HRk.o.cell (k+1) (by omega);have fa:=HRk.o.free k;have fb:=HRk.o.free (k+1);have hat:=ud f m k hki;rw[hat.1] at ca;rw[hat.2] at cb;obtain⟨x,hx⟩:∃x,x=f m:=⟨_,rfl⟩;obtain⟨y,hy⟩:∃y,y=f k:=⟨_,rfl⟩;rw[<- hy] at ca;rw[<- hx] at cb;have hs:=(HRk.o.set (k+1) y (by omega)).set k x (by omega);rw[hx,hy,Av f m k hki,<- hx,<- hy] at hs;have HS2:=lh hs;have HT2:=lh ((HTk.o.setCell (p:=⟨G,k+1,none⟩) (.inl (by simp)) (Value.slice (SL.A (S y)) (SL.n (S y)) (SL.c (S y)))).setCell (p:=⟨G,k,none⟩) (.inl (by simp)) (Value.slice (SL.A (S x)) (SL.n (S x)) (SL.c (S x))));have e3:((k+1:Nat):Int)-1=(k:Int):=by omega
  have hne:k+1≠k:=by omega
  clear hat hx hy hs;go_wp2_with fail;go_region;go_wp2_with fail;go_roundw
  case rel=>exact⟨k,by omega,by omega,by go_num,lh (HS2.o.touch0 (Touch.refl [] _).drew),lh HT2.o.drew⟩
  case measure=>simp[intOf];omega
 obtain rfl:i=k':=by omega
 have hlt2:((i:Int)<(i:Int))=False:=by simp
 go_wp2;refine aG (results_none rfl _ _ _) rfl ?_;exact⟨rfl,_,HRk.o,sL (by omega) HS.o.1 hi hj HL.o HH.o,HTk.o⟩
end
end Go.Proofs.YtafoklilkdnepaaGreatDoor
