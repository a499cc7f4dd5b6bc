/- Part 20 of the texts of this proof, one behind the other. No condition beyond those that its theorems state. -/
import Derived.Test.YtafoklilkdnepaaGreatDoorRe19
set_option linter.all false
set_option maxRecDepth 40000
set_option maxHeartbeats 25600000
namespace Go.Proofs.YtafoklilkdnepaaGreatDoor
section
open Go.RowKit
def kN(left:Bool)(wide:Nat)(rowsA rowsB:List (List VD))(at_ bt:List Nat):Int × List (List VD):=if 4096<(fq left wide rowsA rowsB at_ bt).length then (31,[]) else (0,fq left wide rowsA rowsB at_ bt)
theorem qo.post{left:Bool}{wide:Nat}{rowsA rowsB:List (List VD)}{at_ bt:List Nat}{w:World}{e:Ending}{w':World}(h:qo left wide rowsA rowsB at_ bt w e w'):eX (kN left wide rowsA rowsB at_ bt) w e w':=by
 obtain⟨h1,h2⟩:=h;unfold kN;by_cases hb:4096<(fq left wide rowsA rowsB at_ bt).length
 ·rw[ae hb] at h2;rw[ae hb];exact⟨⟨none,0,0⟩,h2,rfl,⟨[],⟨rfl,λi h=>absurd h (by simp)⟩,d9.nil _ _ _⟩,h1⟩
 rw[ab hb] at h2;rw[ab hb];obtain⟨B,c,he,hr⟩:=h2;exact⟨⟨B,_,c⟩,he,rfl,hr,h1⟩
theorem Fo{w w':World}(ht:Touch [] w w'){a0 a1 a2 a3 a4 a5 a6 a7 a8 a9 a10 a11 a12 a13 a14 a15 a16 a17 a18 a19:Addr}{v0 v1 v2 v3 v4 v5 v6 v7 v8 v9 v10 v11 v12 v13 v14 v15 v16 v17 v18 v19:Value}(h:w.cell? a0=some v0/\w.cell? a1=some v1/\w.cell? a2=some v2/\w.cell? a3=some v3/\w.cell? a4=some v4/\w.cell? a5=some v5/\w.cell? a6=some v6/\w.cell? a7=some v7/\w.cell? a8=some v8/\w.cell? a9=some v9/\w.cell? a10=some v10/\w.cell? a11=some v11/\w.cell? a12=some v12/\w.cell? a13=some v13/\w.cell? a14=some v14/\w.cell? a15=some v15/\w.cell? a16=some v16/\w.cell? a17=some v17/\w.cell? a18=some v18/\w.cell? a19=some v19):w'.cell? a0=some v0/\w'.cell? a1=some v1/\w'.cell? a2=some v2/\w'.cell? a3=some v3/\w'.cell? a4=some v4/\w'.cell? a5=some v5/\w'.cell? a6=some v6/\w'.cell? a7=some v7/\w'.cell? a8=some v8/\w'.cell? a9=some v9/\w'.cell? a10=some v10/\w'.cell? a11=some v11/\w'.cell? a12=some v12/\w'.cell? a13=some v13/\w'.cell? a14=some v14/\w'.cell? a15=some v15/\w'.cell? a16=some v16/\w'.cell? a17=some v17/\w'.cell? a18=some v18/\w'.cell? a19=some v19:=by
 obtain⟨h0,h1,h2,h3,h4,h5,h6,h7,h8,h9,h10,h11,h12,h13,h14,h15,h16,h17,h18,h19⟩:=h;exact⟨ht.cell h0 (by simp),ht.cell h1 (by simp),ht.cell h2 (by simp),ht.cell h3 (by simp),ht.cell h4 (by simp),ht.cell h5 (by simp),ht.cell h6 (by simp),ht.cell h7 (by simp),ht.cell h8 (by simp),ht.cell h9 (by simp),ht.cell h10 (by simp),ht.cell h11 (by simp),ht.cell h12 (by simp),ht.cell h13 (by simp),ht.cell h14 (by simp),ht.cell h15 (by simp),ht.cell h16 (by simp),ht.cell h17 (by simp),ht.cell h18 (by simp),ht.cell h19 (by simp)⟩
theorem zR(x:PC)(kk:Int)(hk0:kk=x.kind)(hk45:kk=4\/kk=5)(on:List (ByteArray × ByteArray))(ho:x.on.n=on.length)(hlo:on.length<=1000)(L:Option Addr)(lc:Nat)(ta tb:SL × SL)(csA csB:List CD)(rowsA rowsB:List (List VD))(w:World) (hL:d9 kZ w L [ta,tb]) (hTA:TabAt w ta.1 ta.2 csA rowsA) (hTB:TabAt w tb.1 tb.2 csB rowsB) (hr:d9 nz w x.on.A on) (hgA:kQ w rowsA csA.length) (hgB:kQ w rowsB csB.length) (hA0:0<csA.length) (hB0:0<csB.length) (hA1:csA.length<=16) (hB1:csB.length<=16) (hA2:rowsA.length<=4096) (hB2:rowsB.length<=4096) : Calls Tryz.prog 65 #[x.val,.slice L 2 lc] w (eX (kN (decide (kk=5)) csB.length rowsA rowsB (ea csA (on.map (·.1))) (ea csB (on.map (·.2)))) w):=by
 obtain⟨⟨SA,sn,sc⟩,⟨RA,rn,rc⟩⟩:=ta;obtain⟨⟨SB,tn,tc⟩,⟨RB,un,uc⟩⟩:=tb;obtain⟨k0,k1,⟨A2,n2,c2'⟩,⟨⟨ck,cn,⟨cvk,cvn,cvt⟩,cop⟩,CA,cnn,cc⟩,⟨NA,nn,nc⟩,⟨EA,en,ec⟩,⟨OA,ol,oc⟩,⟨GA,gn,gc⟩,⟨BA,bn,bc⟩,count⟩:=x;dsimp only at hk0 ho hr hTA hTB;subst hk0;obtain⟨ad,bl,bo,rfl,hadd0,hc0⟩:=d9.cells hL 2 gi (by omega) 0 (by simp);obtain⟨ad',bl',bo',e',hadd1,hc1⟩:=d9.cells hL 2 gi (by omega) 1 (by simp);obtain rfl:ad=ad':=by injection e'
 have l0:=hc0 0 _ rfl;have l1:=hc0 1 _ rfl;have l2:=hc1 0 _ rfl;have l3:=hc1 1 _ rfl;simp only[Nat.zero_mul,Nat.one_mul,Nat.add_zero] at hadd0 hadd1 l0 l1 l2 l3;simp only[List.getElem_cons_zero,List.getElem_cons_succ] at l0 l1 l2 l3;have Hj:=lh λw'(t:Touch [] w w')=>(Dq ⟨kk,k1,⟨A2,n2,c2'⟩,⟨⟨ck,cn,⟨cvk,cvn,cvt⟩,cop⟩,CA,cnn,cc⟩,⟨NA,nn,nc⟩,⟨EA,en,ec⟩,⟨OA,ol,oc⟩,⟨GA,gn,gc⟩,⟨BA,bn,bc⟩,count⟩ kk (decide (kk=5)) rfl rfl on ho hlo ⟨SA,sn,sc⟩ ⟨RA,rn,rc⟩ ⟨SB,tn,tc⟩ ⟨RB,un,uc⟩ csA csB rowsA rowsB w' (hTA.touch0 t) (hTB.touch0 t) (d9.touch0 hr t) (hgA.touch0 t) (hgB.touch0 t) hA0 hB0 hA1 hB1 hA2 hB2).mono λe w'' h=>qo.post h;simp only[PC.val] at *;obtain⟨V,hV⟩:∃V,V=kN (decide (kk=5)) csB.length rowsA rowsB (ea csA (on.map (·.1))) (ea csB (on.map (·.2))):=⟨_,rfl⟩;rw[<- hV] at Hj ⊢;obtain⟨W,hW⟩:∃W,W=w.alloc (.cells #[.int .i64 kk,.string k1,.slice A2 n2 c2',.int .i64 ck,.string cn,.int .i64 cvk,.int .i64 cvn,.string cvt,.string cop,.slice CA cnn cc,.slice NA nn nc,.slice EA en ec,.slice OA ol oc,.slice GA gn gc,.slice BA bn bc,.int .i64 count] 49):=⟨_,rfl⟩;have t0:Touch [] w W:=hW ▸ (Touch.refl [] w).alloc _;have hb0:=hW ▸ ah w (.cells #[.int .i64 kk,.string k1,.slice A2 n2 c2',.int .i64 ck,.string cn,.int .i64 cvk,.int .i64 cvn,.string cvt,.string cop,.slice CA cnn cc,.slice NA nn nc,.slice EA en ec,.slice OA ol oc,.slice GA gn gc,.slice BA bn bc,.int .i64 count] 49);have l0d:=t0.drew.cell l0 (by simp);have l1d:=t0.drew.cell l1 (by simp)
 have l2d:=t0.drew.cell l2 (by simp);have l3d:=t0.drew.cell l3 (by simp);obtain⟨p0,p1,p2,p3,p4,p5,p6,p7,p8,p9,p10,p11,p12,p13,p14,p15⟩:=fg ((Touch.refl [] W).drew.blk hb0 (by simp));have HP:Ga (W.drew.cell? ⟨w.heap.size,0,none⟩=some (.int .i64 kk)/\W.drew.cell? ⟨w.heap.size,1,none⟩=some (.string k1)/\W.drew.cell? ⟨w.heap.size,2,none⟩=some (.slice A2 n2 c2')/\W.drew.cell? ⟨w.heap.size,3,none⟩=some (.int .i64 ck)/\W.drew.cell? ⟨w.heap.size,4,none⟩=some (.string cn)/\W.drew.cell? ⟨w.heap.size,5,none⟩=some (.int .i64 cvk)/\W.drew.cell? ⟨w.heap.size,6,none⟩=some (.int .i64 cvn)/\W.drew.cell? ⟨w.heap.size,7,none⟩=some (.string cvt)/\W.drew.cell? ⟨w.heap.size,8,none⟩=some (.string cop)/\W.drew.cell? ⟨w.heap.size,9,none⟩=some (.slice CA cnn cc)/\W.drew.cell? ⟨w.heap.size,10,none⟩=some (.slice NA nn nc)/\W.drew.cell? ⟨w.heap.size,11,none⟩=some (.slice EA en ec)/\W.drew.cell? ⟨w.heap.size,12,none⟩=some (.slice OA ol oc)/\W.drew.cell? ⟨w.heap.size,13,none⟩=some (.slice GA gn gc)/\W.drew.cell? ⟨w.heap.size,14,none⟩=some (.slice BA bn bc)/\W.drew.cell? ⟨w.heap.size,15,none⟩=some (.int .i64 count)/\W.drew.cell? ⟨bl,bo,none⟩=some (.slice SA sn sc)/\W.drew.cell? ⟨bl,bo+1,none⟩=some (.slice RA rn rc)/\W.drew.cell? ⟨bl',bo',none⟩=some (.slice SB tn tc)/\W.drew.cell? ⟨bl',bo'+1,none⟩=some (.slice RB un uc)):=lh ⟨p0,p1,p2,p3,p4,p5,p6,p7,p8,p9,p10,p11,p12,p13,p14,p15,l0d,l1d,l2d,l3d⟩;have HW:=lh hW;have HT0:=lh t0.drew
 clear ho hr hTA hTB hgA hgB hL hc0 hc1 hV hW t0 l0 l1 l2 l3 e' hb0 l0d l1d l2d l3d p0 p1 p2 p3 p4 p5 p6 p7 p8 p9 p10 p11 p12 p13 p14 p15;have hq2:(kk==2)=false:=by rw[aw];omega
 have hq3:(kk==3)=false:=by rw[aw];omega
 have h45:(kk==4)=true\/(kk==4)=false/\(kk==5)=true:=by
  rcases hk45 with rfl|rfl
  ·exact .inl rfl
  exact .inr ⟨rfl,rfl⟩
 clear hk45;rcases h45 with hq4|⟨hq4,hq5⟩;all_goals
 go_enter Tryz.func65,Tryz.ntmps65;go_wp2_with fail;rw[<- HW.o];go_region_held3 (λw'=>w'.cell? ⟨w.heap.size,0,none⟩=some (.int .i64 kk)/\w'.cell? ⟨w.heap.size,1,none⟩=some (.string k1)/\w'.cell? ⟨w.heap.size,2,none⟩=some (.slice A2 n2 c2')/\w'.cell? ⟨w.heap.size,3,none⟩=some (.int .i64 ck)/\w'.cell? ⟨w.heap.size,4,none⟩=some (.string cn)/\w'.cell? ⟨w.heap.size,5,none⟩=some (.int .i64 cvk)/\w'.cell? ⟨w.heap.size,6,none⟩=some (.int .i64 cvn)/\w'.cell? ⟨w.heap.size,7,none⟩=some (.string cvt)/\w'.cell? ⟨w.heap.size,8,none⟩=some (.string cop)/\w'.cell? ⟨w.heap.size,9,none⟩=some (.slice CA cnn cc)/\w'.cell? ⟨w.heap.size,10,none⟩=some (.slice NA nn nc)/\w'.cell? ⟨w.heap.size,11,none⟩=some (.slice EA en ec)/\w'.cell? ⟨w.heap.size,12,none⟩=some (.slice OA ol oc)/\w'.cell? ⟨w.heap.size,13,none⟩=some (.slice GA gn gc)/\w'.cell? ⟨w.heap.size,14,none⟩=some (.slice BA bn bc)/\w'.cell? ⟨w.heap.size,15,none⟩=some (.int .i64 count)/\w'.cell? ⟨bl,bo,none⟩=some (.slice SA sn sc)/\w'.cell? ⟨bl,bo+1,none⟩=some (.slice RA rn rc)/\w'.cell? ⟨bl',bo',none⟩=some (.slice SB tn tc)/\w'.cell? ⟨bl',bo'+1,none⟩=some (.slice RB un uc)) (first | exact HP.o | exact Fo M1.o.2.2 HP.o) (first
  |(go_at_call 96;refine(Hj.o _ HT0.o).mono ?_;rintro e w1 ⟨⟨A1,n1,c1⟩,rfl,m1⟩;have M1:=lh m1;clear m1))
 go_wp2_with fail;go_ret2;exact⟨⟨A1,n1,c1⟩,rfl,M1.o.1,M1.o.2.1,HT0.o.trans0 M1.o.2.2⟩
end
section
open Go.RowKit
theorem rR(x:PC)(kk:Int)(hk0:kk=x.kind)(hk45:kk=4\/kk=5)(on:List (ByteArray × ByteArray))(ho:x.on.n=on.length)(hlo:on.length<=1000)(csA csB:List CD)(rowsA rowsB:List (List VD))(w:World) (hr:d9 nz w x.on.A on) (hgA:kQ w rowsA csA.length) (hgB:kQ w rowsB csB.length) (hA0:0<csA.length) (hB0:0<csB.length) (hA1:csA.length<=16) (hB1:csB.length<=16) (hA2:rowsA.length<=4096) (hB2:rowsB.length<=4096) : lS w x [(csA,rowsA),(csB,rowsB)] (kN (decide (kk=5)) csB.length rowsA rowsB (ea csA (on.map (·.1))) (ea csB (on.map (·.2)))):=by
 intro w' L lc tl t hs hL;obtain⟨hs1,hs2⟩:=hs;match tl,hs1 with
 | [t1,t2],_=>exact zR x kk hk0 hk45 on ho hlo L lc t1 t2 csA csB rowsA rowsB w' hL (hs2 0 (by simp) (by simp)) (hs2 1 (by simp) (by simp)) (d9.touch0 hr t) (hgA.touch0 t) (hgB.touch0 t) hA0 hB0 hA1 hB1 hA2 hB2
end
section
open Go.RowKit
theorem sp(n:Int):(inE n).length=1:=rfl
theorem Em(n:Int):∀u∈inE n,u.oneCell'=true:=by intro u hu;simp only[inE,List.mem_cons,List.not_mem_nil,or_false] at hu;subst hu;rfl
theorem E8:(Tryz.prog.info? 3).map (λi=>(i.zero,i.size,i.bytes))=some (some (.int .i64 0),1,8):=by kernel_rfl
theorem yy(SA:Option Addr)(c1 n1:Nat)(a:List CD)(h1:a.length=n1)(hl1:n1<=1000000)(w:World)(ha:em w SA a): Calls Tryz.prog 128 #[.slice SA n1 c1] w λe w'=>∃A c,e=.returned (.slice A n1 c)/\Made 3 1 inE (a.map (·.typ)) A c w w':=by
 subst h1;have HRD:=lh ha;clear ha;go_enter Tryz.func128,Tryz.ntmps128;go_wp2_with fail;go_loopw [3,8] (λo i wr=>∃(k:Nat)(A:Option Addr)(c:Nat),k<=a.length/\i=.int .i64 k/\o=.slice A k c/\Ga (Made 3 1 inE ((a.take k).map (·.typ)) A c w wr)) (λ_ i _=>a.length-(intOf i).toNat)
 case atStart=>exact⟨0,none,0,by omega,rfl,rfl,lh (Made.nil _ _ _ _)⟩
 case round =>
 obtain⟨k,A,c,hk,rfl,rfl,HM⟩:=hrel;by_cases hlt:k<a.length
 ·obtain⟨ad,b1,o1,rfl,hadd,e0,e1⟩:=(HRD.o.touch0 HM.o.t).at_ k hlt;have htk:=au hlt;obtain⟨p,hp⟩:∃p,p=a[k]:=⟨_,rfl⟩;rw[<- hp] at e0 e1 htk;obtain⟨nm,ty⟩:=p;dsimp only at e0 e1;have Hnx:Ga ((a.take (k+1)).map (·.typ)=(a.take k).map (·.typ)++[ty]):=lh (by rw[htk,aT];rfl);have hln:Ga (((a.take k).map (·.typ)).length=k):=lh (by rw[ay,aO];omega);have hkn:(k:Int)<(a.length:Int):=by omega
  clear htk hp;go_wp2_with (at_builtin;refine ez ?_);refine go ?_;have ta:=((Touch.refl [] wr).alloc (.cells #[.string nm,.int .i64 ty] 29)).alloc (.cells #[.int .i64 ty] 3);have hrd1:=d9.one (enc:=inE) (wr.alloc (.cells #[.string nm,.int .i64 ty] 29)) 3 ty #[.int .i64 ty] rfl;rw[ao] at hrd1;refine eb (enc:=inE) rfl (.tmp 12) (.tmp 15) 97 rfl 3 _ 1 8 E8 db rfl (by omega) sp Em A k c _ hln.o rfl (HM.o.touch0 ta).own
   (some ⟨wr.heap.size+1,0,none⟩) 1 1 [ty] rfl rfl hrd1 (by omega) (by omega) ?_
  intro A' c' w' hown ht hf;have HX:=lh ((HM.o.touch0 ta).step hown ht hf);clear hown ht hf ta hrd1;go_wp2_with fail;go_roundw
  case rel=>exact⟨k+1,A',c',by omega,by go_num,rfl,lh (by rw[Hnx.o];exact HX.o)⟩
  case measure=>simp[intOf];omega
 obtain rfl:k=a.length:=by omega
 have HM2:Ga (Made 3 1 inE (a.map (·.typ)) A c w wr):=lh (by have:=HM.o;rwa[aH] at this);clear HM;go_wp2;go_ret;exact⟨A,c,rfl,HM2.o⟩
def vC(l:List Int)(z:Int):Option Nat:=l.findIdx? λx=>decide (z=x)
def qM(l:List Int)(z:Int):Int:=match vC l z with | some k=>(k:Int) | none => -1
def jL(l:List Int)(z:Int):Bool:=l.any λx=>decide (z=x)
theorem Ee(l:List Int)(z:Int):decide (0<=qM l z)=jL l z:=by
 rcases hs:vC l z with _|k
 ·have h2:jL l z=false:=List.any_eq_false.2 λx hx=>by have:=cW.1 hs x hx;simpa using this
  unfold qM;rw[hs,h2];simp
 have h:=bw.1 hs;obtain⟨hk,hp,_⟩:=h;have h2:jL l z=true:=cO.2 ⟨_,am hk,hp⟩;unfold qM;rw[hs,h2];simp
theorem FF(l:List Int)(z:Int): -1<=qM l z/\qM l z<=l.length:=by
 unfold qM;rcases hs:vC l z with _|k
 ·dsimp only;omega
 have:=(bw.1 hs).1;dsimp only;omega
theorem CR{l:List Int}{z:Int}{k:Nat}(h:k<l.length)(hk:z=l[k])(hno:∀ j (hj:j<k),z≠l[j]):vC l z=some k:=by unfold vC;rw[bw];exact⟨h,by simpa using hk,λj hj=>by simpa using hno j hj⟩
theorem C9{l:List Int}{z:Int}(hno:∀ j (hj:j<l.length),z≠l[j]):vC l z=none:=by unfold vC;rw[cW];intro c hc;obtain⟨j,hj,rfl⟩:=aU.1 hc;simpa using hno j hj
theorem yT(A:Option Addr)(c n:Nat)(l:List Int)(hn:l.length=n)(z:Int)(w:World)(h:d9 inE w A l)(hl:n<=140737000000000): Calls Tryz.prog 164 #[.slice A n c,.int .i64 z] w λe w'=>e=.returned (.int .i64 (qM l z))/\Touch [] w w':=by
 subst hn;go_enter Tryz.func164,Tryz.ntmps164;go_wp2;go_loopw [8] (λi wr=>∃k:Nat,k<=l.length/\i=.int .i64 k/\Ga (∀j(hj:j<k)(hl:j<l.length),z≠l[j])/\Touch [] w wr) (λi _=>l.length-(intOf i).toNat)
 case atStart=>exact⟨0,by omega,rfl,lh (λj hj=>absurd hj (by omega)),Touch.refl _ _⟩
 case round =>
 obtain⟨k,hk,rfl,Hno,ht⟩:=hrel;by_cases hlt:k<l.length
 ·obtain⟨ad,b,off,rfl,hadd,hc⟩:=d9.cells (h.touch0 ht) 1 sp (by omega) k hlt;rw[bO] at hadd;have c0:=hc 0 _ rfl;rw[aM] at c0;have hyes:=CR (z:=z) hlt;obtain⟨x,hx⟩:∃x,x=l[k]:=⟨_,rfl⟩;rw[<- hx] at c0 hyes;have Hx:=lh hx;have Hyes:=lh hyes;clear hx hyes hc;by_cases hcs:z=x
  ·have Hp:=lh (Hyes.o hcs (λj hj=>Hno.o j hj (by omega)));have hb:(z==x)=true:=by rw[dx];exact hcs
   clear hcs;go_wp2;go_ret;exact⟨ew (by unfold qM;rw[Hp.o]),ht⟩
  have hb:(z==x)=false:=by rw[aw];exact hcs
  have Hcs:=lh hcs;clear hcs;go_wp2;go_roundw
  case rel=>exact⟨k+1,by omega,by go_num,lh (λj hj hl=>by
   by_cases hjk:j=k
   ·subst hjk;rw[<- Hx.o];exact Hcs.o
   exact Hno.o j (by omega) hl),ht⟩
  case measure=>simp[intOf];omega
 obtain rfl:k=l.length:=by omega
 have Hp:=lh (C9 (l:=l) (z:=z) (λj hj=>Hno.o j hj hj));go_wp2;go_ret;exact⟨ew (by unfold qM;rw[Hp.o]),ht⟩
theorem ph(A:Option Addr)(c n:Nat)(l:List Int)(hn:l.length=n)(z:Int)(w:World)(h:d9 inE w A l)(hl:n<=140737000000000): Calls Tryz.prog 127 #[.slice A n c,.int .i64 z] w λe w'=>e=.returned (.bool (jL l z))/\Touch [] w w':=by have hi:=yT A c n l hn z w h hl;have hm:=Ee l z;have hb:=FF l z;obtain⟨i,hie⟩:∃i,i=qM l z:=⟨_,rfl⟩;rw[<- hie] at hi hm hb;have Hi:=lh hi;have Hm:=lh hm;clear hi hm hie;go_enter Tryz.func127,Tryz.ntmps127;go_wp2_with fail;refine Hi.o.mono ?_;rintro e w1 ⟨rfl,t1⟩;go_wp2;go_ret;exact⟨eo (by rw[<- Hm.o]),t1⟩
def j0(cs:List CD)(by_:List (ByteArray × Bool))(count:Int):Int:=if count<0 then 20 else if by_.all (λp=>(ef cs p.1).isSome)=true then 0 else 13
theorem xg(x:PC)(l:List (ByteArray × Bool))(hlb:x.by_.n=l.length)(SA:Option Addr)(c1 n1:Nat)(a:List CD)(h1:a.length=n1)(hl1:n1<=1000000)(hll:l.length<=1000000)(w:World) (hr:d9 pg w x.by_.A l) (ha:em w SA a) : Calls Tryz.prog 93 #[x.val,.slice SA n1 c1] w λe w'=>e=.returned (.int .i64 (j0 a l x.count))/\Touch [] w w':=by
 subst h1;have HRD:=Gb hr ha;have Hv:=lh (show j0 a l x.count=if x.count<0 then 20 else if l.all (λp=>(ef a p.1).isSome)=true then 0 else 13 from rfl);obtain⟨V,hV⟩:∃V,V=j0 a l x.count:=⟨_,rfl⟩;rw[<- hV] at Hv ⊢;clear hV hr ha;obtain⟨k0,k1,⟨A2,n2,c2'⟩,⟨⟨ck,cn,⟨cvk,cvn,cvt⟩,cop⟩,CA,cnn,cc⟩,⟨NA,nn,nc⟩,⟨EA,en,ec⟩,⟨OA,ol,oc⟩,⟨GA,gn,gc⟩,⟨BA,bn,bc⟩,count⟩:=x;simp only[PC.val] at *;subst hlb;have HT0:=lh ((Touch.refl [] w).alloc (.cells #[.int .i64 k0,.string k1,.slice A2 n2 c2',.int .i64 ck,.string cn,.int .i64 cvk,.int .i64 cvn,.string cvt,.string cop,.slice CA cnn cc,.slice NA nn nc,.slice EA en ec,.slice OA ol oc,.slice GA gn gc,.slice BA l.length bc,.int .i64 count] 49));by_cases hc:count<0
 ·have Hq:=lh (show V=20 by rw[Hv.o,ae hc]);go_enter Tryz.func93,Tryz.ntmps93;go_wp2;go_ret;exact⟨ew Hq.o.symm,HT0.o⟩
 have Hq:=lh (show V=if l.all (λp=>(ef a p.1).isSome)=true then 0 else 13 by rw[Hv.o,ab hc]);have hc':(count<0)=False:=bi hc;clear Hv;go_enter Tryz.func93,Tryz.ntmps93;go_wp2_with fail;go_loopw [15] (λi wr=>∃k:Nat,k<=l.length/\i=.int .i64 k/\Ga ((l.take k).all (λp=>(ef a p.1).isSome)=true)/\Ga (Touch [] w wr)) (λi _=>l.length-(intOf i).toNat)
 case atStart=>exact⟨0,by omega,rfl,lh rfl,HT0⟩
 case round =>
 obtain⟨k,hk,rfl,Hall,HT⟩:=hrel;by_cases hlt:k<l.length
 ·obtain⟨ad,b1,o1,rfl,hadd,hcx⟩:=d9.cells (HRD.o.1.touch0 HT.o) 2 mJ (by omega) k hlt;have hno:=lu (p:=fun p:ByteArray × Bool=>(ef a p.1).isSome) hlt;have hyes:=jt (p:=fun p:ByteArray × Bool=>(ef a p.1).isSome) hlt Hall.o;obtain⟨p,hp⟩:∃p,p=l[k]:=⟨_,rfl⟩;rw[<- hp] at hcx hno hyes;obtain⟨p1,p2⟩:=p;have e0:=hcx 0 _ rfl;have e1:=hcx 1 _ rfl;rw[aM] at e0;have ta:=(Touch.refl [] wr).alloc (.cells #[.string p1,.bool p2] 94);have hfa:=fS SA c1 a.length a rfl p1 _ (HRD.o.2.touch0 (HT.o.trans0 ta)) (by omega);have hkn:(k:Int)<(l.length:Int):=by omega
  obtain⟨i,hi⟩:∃i,i=(ef a p1).getD 0:=⟨_,rfl⟩;obtain⟨b,hb⟩:∃b,b=(ef a p1).isSome:=⟨_,rfl⟩;rw[<- hi,<- hb] at hfa;dsimp only at hno hyes;rw[<- hb] at hno hyes;have Hfa:=lh hfa;have Hno:=lh hno;have Hyes:=lh hyes;have HTa:=lh ta;clear hfa hno hyes hcx hp ta hi hb Hall;cases b
  ·have Hz:=lh (show V=13 by rw[Hq.o,ab (by rw[Hno.o rfl];simp)]);go_wp2_with fail;refine Hfa.o.mono ?_;rintro e w1 ⟨rfl,t1⟩;go_wp2;go_ret;exact⟨ew Hz.o.symm,(HT.o.trans0 HTa.o).trans0 t1⟩
  go_wp2_with fail;refine Hfa.o.mono ?_;rintro e w1 ⟨rfl,t1⟩;have HT1:=lh ((HT.o.trans0 HTa.o).trans0 t1);clear t1;go_wp2_with fail;go_roundw
  case rel=>exact⟨k+1,by omega,by go_num,lh (Hyes.o (by first | trivial | rfl)),HT1⟩
  case measure=>simp[intOf];omega
 obtain rfl:k=l.length:=by omega
 have Hz:=lh (show V=0 by have:=Hall.o;rw[aH] at this;rw[Hq.o,ae this])
 go_wp2;go_ret;exact⟨ew Hz.o.symm,HT.o⟩
def lq(w:World)(SA:Option Addr)(c n:Nat)(x:XC)(r:Int × Int):Prop:=∀w',Touch [] w w'->Calls Tryz.prog 68 #[x.val,.slice SA n c] w' λe w''=>e=.returned (.tuple #[.int .i64 r.1,.int .i64 r.2])/\Touch [] w' w''
def jB:List (Int × Int)->Int
 | []=>0
 |v:: r=>if v.2=0 then jB r else v.2
theorem pG:∀{l:List (Int × Int)},(∀v∈l,v.2=0)->jB l=0
 | [],_=>rfl
 |v:: l,h=>by rw[jB,ae (h v aK)];exact pG λx hx=>h x (aP _ hx)
theorem sD:∀{l:List (Int × Int)}{j:Nat}(hj:j<l.length),(∀i(hi:i<j),l[i].2=0)->l[j].2≠0->jB l=l[j].2
 |v:: l,0,_,_,h=>by have h:v.2≠0:=h;rw[jB,ab h];rfl
 |v:: l,j+1,hj,h0,h=>by have hz:v.2=0:=h0 0 (by omega);rw[jB,ae hz];exact sD (by simpa using hj) (λi hi=>by have:=h0 (i+1) (by omega);simpa using this) (by simpa using h)
def fP(names:List ByteArray)(ets:List (Int × Int)):List CD:=List.zipWith (λn t=>⟨n,t.1⟩) names ets
def kh(names:List ByteArray)(ets:List (Int × Int)):Int × List CD:=
 if names.length=ets.length then (if jB ets=0 then (if jL ((fP names ets).map (·.typ)) 0=true then (12,[]) else (0,fP names ets)) else (jB ets,[])) else (20,[])
theorem sE(x:PC)(names:List ByteArray)(xs:List XC)(ets:List (Int × Int))(hnn:x.names.n=names.length)(hen:x.exprs.n=xs.length)(hle:ets.length=xs.length)(SA:Option Addr)(c1 n1:Nat)(hln:names.length<=100000)(hlx:xs.length<=100000)(w:World) (hr:d9 gD w x.names.A names) (hx:d9 iX w x.exprs.A xs) (hE:∀i(h1:i<xs.length)(h2:i<ets.length),lq w SA c1 n1 xs[i] ets[i]) : Calls Tryz.prog 89 #[x.val,.slice SA n1 c1] w (fB (kh names ets) w):=by
 have Hv:=lh (show kh names ets=if names.length=ets.length then (if jB ets=0 then (if jL ((fP names ets).map (·.typ)) 0=true then (12,[]) else (0,fP names ets)) else (jB ets,[])) else (20,[]) from rfl);obtain⟨V,hV⟩:∃V,V=kh names ets:=⟨_,rfl⟩;rw[<- hV] at Hv ⊢;clear hV;obtain⟨k0,k1,⟨A2,n2,c2'⟩,⟨⟨ck,cn,⟨cvk,cvn,cvt⟩,cop⟩,CA,cnn,cc⟩,⟨NA,nn,nc⟩,⟨EA,en,ec⟩,⟨OA,ol,oc⟩,⟨GA,gn,gc⟩,⟨BA,bn,bc⟩,count⟩:=x;simp only[PC.val] at *;subst hnn hen;obtain⟨W,hW⟩:∃W,W=w.alloc (.cells #[.int .i64 k0,.string k1,.slice A2 n2 c2',.int .i64 ck,.string cn,.int .i64 cvk,.int .i64 cvn,.string cvt,.string cop,.slice CA cnn cc,.slice NA names.length nc,.slice EA xs.length ec,.slice OA ol oc,.slice GA gn gc,.slice BA bn bc,.int .i64 count] 49):=⟨_,rfl⟩;have t0:Touch [] w W:=hW ▸ (Touch.refl [] w).alloc _;have hb0:=hW ▸ ah w (.cells #[.int .i64 k0,.string k1,.slice A2 n2 c2',.int .i64 ck,.string cn,.int .i64 cvk,.int .i64 cvn,.string cvt,.string cop,.slice CA cnn cc,.slice NA names.length nc,.slice EA xs.length ec,.slice OA ol oc,.slice GA gn gc,.slice BA bn bc,.int .i64 count] 49);have c10:W.cell? ⟨w.heap.size,10,none⟩=some (.slice NA names.length nc):=d_ hb0 rfl;have HW:=lh hW;have HT0:=Gb t0 c10;have HRW:=Gb (hr.touch0 t0) (hx.touch0 t0);have HEt:=lh hE;have Hle:=lh hle;clear t0 hb0 hW c10 hr hx hE hle;by_cases hl:names.length=xs.length
 ·have Hv1:=lh (show V=if jB ets=0 then (if jL ((fP names ets).map (·.typ)) 0=true then (12,[]) else (0,fP names ets)) else (jB ets,[]) by rw[Hv.o,Hle.o,ae hl]);have hlb:((names.length:Int)==(xs.length:Int))=true:=by rw[dx];omega
  have hlb':((names.length:Int) != (xs.length:Int))=false:=by rw[bne,hlb];rfl
  have Hl:=lh hl;clear Hv hl;go_enter Tryz.func89,Tryz.ntmps89;go_wp2_with fail;rw[<- HW.o];clear hlb hlb';go_loopw [6,21] (λo i wr=>∃(k:Nat)(A:Option Addr)(c:Nat)(acc:List CD),k<=xs.length/\i=.int .i64 k/\o=.slice A k c/\Ga (acc=(fP names ets).take k)/\Ga (∀i(hi:i<k)(h2:i<ets.length),ets[i].2=0)/\Ga (Made 29 2 fQ acc A c W wr)) (λ_ i _=>xs.length-(intOf i).toNat)
  case atStart=>exact⟨0,none,0,[],by omega,rfl,rfl,lh rfl,lh (λi h=>absurd h (by omega)),lh (Made.nil _ _ _ _)⟩
  case round =>
  obtain⟨k,A,c,acc,hk,rfl,rfl,HA,HZ,HM⟩:=hrel;have HL:Ga (acc.length=k):=lh (by rw[HA.o,aO];unfold fP;rw[cu,Hle.o,Hl.o];omega);by_cases hlt:k<xs.length
  ·have hke:k<ets.length:=by rw[Hle.o];exact hlt
   have hkn:k<names.length:=by rw[Hl.o];exact hlt
   have hkk:k<(fP names ets).length:=by unfold fP;rw[cu];omega
   obtain⟨ad,b1,o1,rfl,hadd,hc⟩:=d9.cells (HRW.o.2.touch0 HM.o.t) 7 gW (by omega) k hlt;obtain⟨ad2,b2,o2,rfl,hadd2,hc2⟩:=d9.cells (HRW.o.1.touch0 HM.o.t) 1 iR (by omega) k hkn;rw[bO] at hadd2;have f0:=hc2 0 _ rfl;rw[aM] at f0;have het:=HEt.o k hlt hke;have hst:(fP names ets).take (k+1)=acc++[⟨names[k],ets[k].1⟩]:=by
    have hg:(fP names ets)[k]=⟨names[k],ets[k].1⟩:=by simp[fP]
    rw[au hkk,hg,HA.o]
   have her:=λh0=>sD (l:=ets) hke (λi hi=>HZ.o i hi (by omega)) h0;obtain⟨y,hy⟩:∃y,y=xs[k]:=⟨_,rfl⟩;obtain⟨u,hu⟩:∃u,u=ets[k]:=⟨_,rfl⟩;obtain⟨nm,hnm⟩:∃nm,nm=names[k]:=⟨_,rfl⟩;rw[<- hy] at hc het;rw[<- hu] at het hst her;rw[<- hnm] at f0 hst;have Hu:=lh hu;obtain⟨uty,uer⟩:=u;obtain⟨⟨yk,yn,⟨yvk,yvn,yvt⟩,yop⟩,YA,ynn,yc⟩:=y;have e0:=hc 0 _ rfl;have e1:=hc 1 _ rfl;have e2:=hc 2 _ rfl;have e3:=hc 3 _ rfl;have e4:=hc 4 _ rfl;have e5:=hc 5 _ rfl;have e6:=hc 6 _ rfl;rw[aM] at e0;dsimp only at e0 e1 e2 e3 e4 e5 e6 hst her;have ta:=(Touch.refl [] wr).alloc (.cells #[.int .i64 yk,.string yn,.int .i64 yvk,.int .i64 yvn,.string yvt,.string yop,.slice YA ynn yc] 44);have het2:=het _ ((HT0.o.1.trans0 HM.o.t).trans0 ta);simp only[XC.val] at het2;have Het:=lh het2;have Hst:=lh hst;have HTa:=lh ta;have hkn':(k:Int)<(xs.length:Int):=by omega
   have hkn2:(k:Int)<(names.length:Int):=by omega
   have hk0:(0:Int)<=(k:Int):=by omega
   have d10:=(HM.o.t.trans0 ta).cell HT0.o.2 (by simp);have f0':=ta.cell f0 (by simp);clear hc hc2 het het2 hst hy hu hnm ta hkk f0;by_cases hz:uer=0
   ·subst hz;clear her;go_wp2_with fail;refine Het.o.mono ?_;rintro e w1 ⟨rfl,t1⟩;have g10:=t1.cell d10 (by simp);have h0:=t1.cell f0' (by simp);have HM1:=lh ((HM.o.touch0 HTa.o).touch0 t1);clear t1 HM d10 f0';go_wp2_with (at_builtin;refine ez ?_);refine go ?_;have tb:=(Touch.refl [] w1).alloc (.cells #[.string nm,.int .i64 uty] 29);refine eb (enc:=fQ) rfl (.tmp 35) (.tmp 43) 24 rfl 29 _ 2 24 gN bC rfl (by omega) eZ gq A k c acc HL.o rfl (HM1.o.touch0 tb).own
     (some ⟨w1.heap.size,0,none⟩) 1 1 [⟨nm,uty⟩] rfl rfl (d9.one (enc:=fQ) w1 29 ⟨nm,uty⟩ _ rfl) (by omega) (by omega) ?_
    intro A' c' w' hown ht hf;have HX:=lh ((HM1.o.touch0 tb).step hown ht hf);clear hown ht hf tb;go_wp2_with fail;go_roundw
    case rel=>exact⟨k+1,A',c',acc++[⟨nm,uty⟩],by omega,by go_num,rfl,lh Hst.o.symm,lh (λi hi h2=>by
     by_cases hij:i=k
     ·subst hij;rw[<- Hu.o]
     exact HZ.o i (by omega) h2),HX⟩
    case measure=>simp[intOf];omega
   have Hn:=lh (show V=(uer,[]) by rw[Hv1.o,her hz,ab hz]);have hq:(uer==0)=false:=by rw[aw];exact hz
   have hq':(uer != 0)=true:=by rw[bne,hq];rfl
   clear her;go_wp2_with fail;refine Het.o.mono ?_;rintro e w1 ⟨rfl,t1⟩;go_wp2;go_ret2;rw[Hn.o];exact fB.err uer (((HT0.o.1.trans0 HM.o.t).trans0 HTa.o).trans0 t1)
  obtain rfl:k=xs.length:=by omega
  have hz:jB ets=0:=pG λu hu=>by obtain⟨i,hi,rfl⟩:=aU.1 hu;exact HZ.o i (by rw[<- Hle.o];exact hi) hi
  have hacc:acc=fP names ets:=by rw[HA.o,bR];unfold fP;rw[cu,Hle.o];omega
  have Hn:=lh (show V=if jL (acc.map (·.typ)) 0=true then (12,[]) else (0,acc) by rw[Hv1.o,ae hz,hacc]);have Hty:=lh (yy A c xs.length acc HL.o (by omega) wr HM.o.own.rd);obtain⟨B,hB⟩:∃B,B=jL (acc.map (·.typ)) 0:=⟨_,rfl⟩;rw[<- hB] at Hn;have HBb:=lh hB;clear hz hacc HA HZ hB;cases B
  ·have Hn2:=lh (show V=(0,acc) by rw[Hn.o,ab (by simp)]);clear Hn;go_wp2_with fail;refine Hty.o.mono ?_;rintro e w1 ⟨A3,c3,rfl,m3⟩;have hci:=ph A3 c3 xs.length (acc.map (·.typ)) (by rw[ay];exact HL.o) 0 w1 m3.own.rd (by omega);rw[<- HBb.o] at hci;have Hci:=lh hci;have HT3:=lh m3.t;clear m3 hci Hty;go_wp2_with fail;refine Hci.o.mono ?_;rintro e w2 ⟨rfl,t2⟩;have HT4:=lh (HT3.o.trans0 t2);clear t2;go_wp2;go_ret2;rw[Hn2.o];have hm:=HM.o.touch0 HT4.o;have hl:=HL.o;exact⟨A,c,by rw[<- hl];rfl,hm.own,HT0.o.1.trans0 hm.t,λb hb=>bm HT0.o.1.size (hm.f b hb)⟩
  have Hn2:=lh (show V=(12,[]) by rw[Hn.o,ae rfl]);clear Hn;go_wp2_with fail;refine Hty.o.mono ?_;rintro e w1 ⟨A3,c3,rfl,m3⟩;have hci:=ph A3 c3 xs.length (acc.map (·.typ)) (by rw[ay];exact HL.o) 0 w1 m3.own.rd (by omega);rw[<- HBb.o] at hci;have Hci:=lh hci;have HT3:=lh m3.t;clear m3 hci Hty;go_wp2_with fail;refine Hci.o.mono ?_;rintro e w2 ⟨rfl,t2⟩;have HT4:=lh (HT3.o.trans0 t2);clear t2;go_wp2;go_ret2;rw[Hn2.o];exact fB.err 12 ((HT0.o.1.trans0 HM.o.t).trans0 HT4.o)
 have Hn:=lh (show V=(20,[]) by rw[Hv.o,Hle.o,ab hl]);have hlb:((names.length:Int)==(xs.length:Int))=false:=by rw[aw];omega
 have hlb':((names.length:Int) != (xs.length:Int))=true:=by rw[bne,hlb];rfl
 clear Hv hl;go_enter Tryz.func89,Tryz.ntmps89;go_wp2;go_ret2;rw[Hn.o];rw[<- HW.o];exact fB.err 20 HT0.o.1
end
section
open Go.RowKit
def wl(a b:CD):Bool:=decide (a.name=b.name)&&decide (a.typ=b.typ)
theorem Ef(a b:CD):wl a b=true ↔ a=b:=by obtain⟨an,aty⟩:=a;obtain⟨bn,bty⟩:=b;simp[wl]
theorem DC(a b:CD)(w:World):(Op.equalIn 10000 29 (.agg #[.string a.name,.int .i64 a.typ]) (.agg #[.string b.name,.int .i64 b.typ])).run Tryz.prog w=.ok (wl a b) w:=by
 have hS:Tryz.prog.underlying 29=some (.struct (Tryz.prog.fieldsOf 29)):=by kernel_rfl
 have hp:Tryz.prog.stoodInHeld 29=false:=by kernel_rfl
 rw[show (10000:Nat)=9999+1 from rfl,run_equalIn_agg w 9999 29 _ _ hS hp];simp only[Program.fieldsOf,Tryz.underlying29];have hs:=jZ a.name b.name;go_simp;by_cases h1:a.name=b.name<;>by_cases h2:a.typ=b.typ<;>simp[wl,h1,h2]
theorem Aa(op:BinOp)(x y:Operand)(a b:Array Value)(w:World):(eqGuard op 29 x y (.agg a) (.agg b)).run Tryz.prog w=.ok () w:=run_eqGuard_agg w op _ x y _ _ (by kernel_rfl)
def iH:List CD->List CD->Bool
 | [],[]=>true
 |a:: r,b:: s=>wl a b&&iH r s
 | _,_=>false
theorem oZ(l r:List CD):iH l r=true ↔ l=r:=by
 induction l generalizing r with
 |nil=>cases r<;>simp[iH]
 |cons a l ih=>cases r with
  |nil=>simp[iH]
  |cons b r=>simp[iH,ih,Ef]
theorem zv(A B:Option Addr)(c1 c2 n m:Nat)(l r:List CD)(hn:l.length=n)(hm:r.length=m)(w:World)(h:em w A l)(h2:em w B r)(hl:n<=140737000000000)(hl2:m<=140737000000000): Calls Tryz.prog 34 #[.slice A n c1,.slice B m c2] w λe w'=>e=.returned (.bool (iH l r))/\Touch [] w w':=by
 subst hn hm;by_cases hlen:l.length=r.length
 ·have Hlen:=lh hlen;have hq:((l.length:Int)==(r.length:Int))=true:=by rw[dx];omega
  have hq':((l.length:Int) != (r.length:Int))=false:=by rw[bne,hq];rfl
  clear hlen;go_enter Tryz.func34,Tryz.ntmps34;go_wp2;clear hq hq';go_loopw [13] (λi wr=>∃k:Nat,k<=l.length/\i=.int .i64 k/\Ga (iH l r=iH (l.drop k) (r.drop k))/\Touch [] w wr) (λi _=>l.length-(intOf i).toNat)
  case atStart=>exact⟨0,by omega,rfl,lh rfl,Touch.refl _ _⟩
  case round =>
  obtain⟨k,hk,rfl,He,ht⟩:=hrel;by_cases hlt:k<l.length
  ·have hlt2:k<r.length:=by have:=Hlen.o;omega
   obtain⟨ad,b,off,rfl,hadd,c0,c1⟩:=(h.touch0 ht).at_ k hlt;obtain⟨bd,b2,off2,rfl,hadd2,d0,d1⟩:=(h2.touch0 ht).at_ k hlt2;have hst:iH l r=(wl l[k] r[k]&&iH (l.drop (k+1)) (r.drop (k+1))):=by rw[He.o,bj hlt,bj hlt2];rfl
   have heq:=DC l[k] r[k];obtain⟨x,hx⟩:∃x,x=l[k]:=⟨_,rfl⟩;obtain⟨y,hy⟩:∃y,y=r[k]:=⟨_,rfl⟩;rw[<- hx,<- hy] at hst heq;rw[<- hx] at c0 c1;rw[<- hy] at d0 d1;have Hst:=lh hst;have hgd:=Aa;have g0:=TW.cell c0;have g1:=TW.cell c1;have g2:=TW.cell d0;have g3:=TW.cell d1;have hkI0:(0:Int)<=(k:Int):=by omega
   have hkI:(k:Int)<(l.length:Int):=by omega
   have hkI2:(k:Int)<(r.length:Int):=by omega
   clear hst hx hy He c0 c1 d0 d1;rcases hxy:wl x y with _|_
   ·have Hf:=lh (show iH l r=false by rw[Hst.o,hxy];rfl);rw[hxy] at heq;clear hxy;go_wp2;refine eh wr (Touch.refl _ _) (by kernel_rfl) (by kernel_rfl) ?_;repeat (go_big_quiet_step (fail))
    refine aS ?_;rintro _ ⟨x2,rfl⟩;go_wp2;go_ret;exact⟨eo (by rw[Hf.o]),ht.trans0 x2.t⟩
   have Hf:=lh (show iH l r=iH (l.drop (k+1)) (r.drop (k+1)) by rw[Hst.o,hxy];rfl);rw[hxy] at heq;clear hxy;go_wp2;refine eh wr (Touch.refl _ _) (by kernel_rfl) (by kernel_rfl) ?_;repeat (go_big_quiet_step (fail))
   refine aS ?_;rintro _ ⟨x2,rfl⟩;go_wp2;go_roundw
   case rel=>exact⟨k+1,by omega,by go_num,Hf,ht.trans0 x2.t⟩
   case measure=>simp[intOf];omega
  obtain rfl:k=l.length:=by omega
  have Hf:=lh (show iH l r=true by rw[He.o,bY,b_ (by have:=Hlen.o;omega)];rfl);go_wp2;go_ret;exact⟨eo (by rw[Hf.o]),ht⟩
 have Hf:=lh (show iH l r=false by rw[d7];intro h;rw[oZ] at h;exact hlen (by rw[h]))
 have hq:((l.length:Int)==(r.length:Int))=false:=by rw[aw];omega
 have hq':((l.length:Int) != (r.length:Int))=true:=by rw[bne,hq];rfl
 clear hlen;go_enter Tryz.func34,Tryz.ntmps34;go_wp2;go_ret;exact⟨eo (by rw[Hf.o]),Touch.refl _ _⟩
theorem mX(A B:Option Addr)(c1 c2 n m:Nat)(l r:List CD)(hn:l.length=n)(hm:r.length=m)(w:World)(h:em w A l)(h2:em w B r)(hl:n<=140737000000000)(hl2:m<=140737000000000): Calls Tryz.prog 18 #[.slice A n c1,.slice B m c2] w λe w'=>e=.returned (.bool (iH l r))/\Touch [] w w':=by go_enter Tryz.func18,Tryz.ntmps18;go_wp2_with fail;refine(zv A B c1 c2 n m l r hn hm w h h2 hl hl2).mono ?_;rintro e w1 ⟨rfl,t1⟩;go_wp2;go_ret;exact⟨rfl,t1⟩
end
end Go.Proofs.YtafoklilkdnepaaGreatDoor
