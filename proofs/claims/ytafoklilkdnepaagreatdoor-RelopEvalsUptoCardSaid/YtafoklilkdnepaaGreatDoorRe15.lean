/- Part 15 of the texts of this proof, one behind the other. No condition beyond those that its theorems state. -/
import Derived.Test.YtafoklilkdnepaaGreatDoorRe14
set_option linter.all false
set_option maxRecDepth 40000
set_option maxHeartbeats 25600000
namespace Go.Proofs.YtafoklilkdnepaaGreatDoor
section
open Go.RowKit
def pH(cs:List CD)(os:List (ByteArray × Bool))(rows:List (List VD))(count:Int)(w:World)(e:Ending)(w':World):Prop:=∃(q:SL)(g:Nat->Nat),e=.returned (.slice q.A q.n q.c)/\fJ (mq cs os rows) g 0 rows.length/\q.n=((jl [] rows g).take count.toNat).length/\eW w' q.A ((jl [] rows g).take count.toNat)/\Touch [] w w'
theorem d9.taken{α:Type}{enc:α->List Value}{w:World}{A:Option Addr}{xs:List α}(h:d9 enc w A xs)(k:Nat):d9 enc w A (xs.take k):=by
 intro h0;have e:xs.flatMap enc=(xs.take k).flatMap enc++(xs.drop k).flatMap enc:=by rw[<- du,List.take_append_drop]
 have h':Rd w A (xs.flatMap enc):=h;rw[e] at h';obtain⟨ad,hA,hc⟩:=h' (by rw[az];omega);refine⟨ad,hA,λj u hj=>hc j u ?_⟩;have hl:=(bS.1 hj).1;rw[List.getElem?_append_left hl];exact hj
theorem fX.taken{w:World}{sl:List SL}{rows:List (List VD)}(h:fX w sl rows)(k:Nat):fX w (sl.take k) (rows.take k):=by refine⟨by rw[aO,aO,h.1],λi a b=> ?_⟩;rw[List.getElem_take,List.getElem_take];exact h.2 i _ _
theorem y_(x:PC)(s r:SL)(cs:List CD)(os:List (ByteArray × Bool))(rows:List (List VD))(w:World)(hT:TabAt w s r cs rows)(hbn:x.by_.n=os.length)(hby:d9 pg w x.by_.A os)(hct:0<=x.count)(hl1:cs.length<=1000000)(hl2:rows.length<=100000)(hl4:os.length<=1000000) (hin:∀r∈rows,r.length<=140737000000000/\∀o∈os,(ef cs o.1).getD 0<r.length) : Calls Tryz.prog 101 #[x.val,.agg #[.slice s.A s.n s.c,.slice r.A r.n r.c]] w (pH cs os rows x.count w):=by
 obtain⟨tn, -,tcols,tm,sl,hsl,hrd⟩:=hT;have HSL:=lh hsl;have HRD:=lh hrd;have HBY:=lh hby;have HC:=lh tcols;have HIN:=lh hin;clear tcols hsl hrd hby hin;obtain⟨k0,k1,⟨A2,n2,c2'⟩,⟨⟨ck,cn,⟨cvk,cvn,cvt⟩,cop⟩,CA,cnn,cc⟩,⟨NA,nn,nc⟩,⟨EA,en,ec⟩,⟨OA,ol,oc⟩,⟨GA,gn,gc⟩,⟨BA,bn,bc⟩,count⟩:=x;obtain⟨sA,sn,sc⟩:=s;obtain⟨rA,rn,rc⟩:=r;dsimp only at tn tm;subst tn tm;simp only[PC.val,XC.val] at *;obtain⟨W,hW⟩:∃W,W=(w.alloc (.cells #[.int .i64 k0,.string k1,.slice A2 n2 c2',.int .i64 ck,.string cn,.int .i64 cvk,.int .i64 cvn,.string cvt,.string cop,.slice CA cnn cc,.slice NA nn nc,.slice EA en ec,.slice OA ol oc,.slice GA gn gc,.slice BA bn bc,.int .i64 count] 49)).alloc (.cells #[.slice sA cs.length sc,.slice rA rows.length rc] 27):=⟨_,rfl⟩;have t0:Touch [] w W:=hW ▸ ((Touch.refl [] w).alloc _).alloc _;have hb0:=hW ▸ ((Touch.refl [] (w.alloc (.cells #[.int .i64 k0,.string k1,.slice A2 n2 c2',.int .i64 ck,.string cn,.int .i64 cvk,.int .i64 cvn,.string cvt,.string cop,.slice CA cnn cc,.slice NA nn nc,.slice EA en ec,.slice OA ol oc,.slice GA gn gc,.slice BA bn bc,.int .i64 count] 49))).alloc (.cells #[.slice sA cs.length sc,.slice rA rows.length rc] 27)).blk (ah w _) (by simp);have hb1:W.heap[w.heap.size+1]?=some (.cells #[.slice sA cs.length sc,.slice rA rows.length rc] 27 (0,0)):=by
  have h1:=ah (w.alloc (.cells #[.int .i64 k0,.string k1,.slice A2 n2 c2',.int .i64 ck,.string cn,.int .i64 cvk,.int .i64 cvn,.string cvt,.string cop,.slice CA cnn cc,.slice NA nn nc,.slice EA en ec,.slice OA ol oc,.slice GA gn gc,.slice BA bn bc,.int .i64 count] 49)) (.cells #[.slice sA cs.length sc,.slice rA rows.length rc] 27);rw[ao] at h1;exact hW ▸ h1
 have HW:=lh hW;have HT0:=Gc t0 hb0 hb1;have z1:W.cell? ⟨w.heap.size+1,1,none⟩=some (.slice rA rows.length rc):=d_ hb1 rfl;clear hW t0 hb0 hb1;have HB:=Gb HBY.o HC.o;have hcl:=zH rA rc rows.length sl HSL.o.1 (by omega) W (d9.touch0 HRD.o HT0.o.1);have Hcl:=lh hcl;clear hcl;subst hbn;go_enter Tryz.func101,Tryz.ntmps101;go_wp2_with fail;rw[<- HW.o];go_wp2_with (go_at_call 141;refine Hcl.o.mono ?_;rintro e w1 ⟨A',c',rfl,hmd⟩);have hk:∀wr,Touch (ed A') w1 wr->fX wr sl rows/\ByAt w.heap.size (w.heap.size+1) cs os wr:=λwr ht=>by have tw:Touch [] W wr:=hmd.t.trans ht (λb hb=>.inr (hmd.f b hb));have t0:=HT0.o.1.trans0 tw;refine⟨⟨HSL.o.1,λi a b=>⟨(HSL.o.2 i a b).1,eu.touch0 (HSL.o.2 i a b).2 t0⟩⟩,⟨_,_,d_ (tw.blk HT0.o.2.1 (by simp)) rfl,d9.touch0 HBY.o t0⟩,⟨_,_,d_ (tw.blk HT0.o.2.2 (by simp)) rfl,HC.o.touch0 t0⟩⟩
 refine(zz _ _ cs os A' c' rows.length sl rows rfl hl2 HIN.o (by omega) (by omega) w1 HSL.o.1 hmd.own hk).mono ?_;rintro e w2 ⟨rfl,g,hg,hown,hsls,t2⟩;have tw:Touch [] W w2:=hmd.t.trans t2 (λb hb=>.inr (hmd.f b hb));obtain⟨p0,p1,p2,p3,p4,p5,p6,p7,p8,p9,p10,p11,p12,p13,p14,p15⟩:=fg (tw.blk HT0.o.2.1 (by simp));have hle:rows.length<=c':=by have:=hown.le;rw[jK,HSL.o.1] at this;exact this
 have HF:=Gd hg hown hsls (HT0.o.1.trans0 tw);clear hg hown hsls t2 tw hk hmd p0 p1 p2 p3 p4 p5 p6 p7 p8 p9 p10 p11 p12 p13 p14;go_wp2_with fail;go_ret;obtain⟨hg,hown,hsls,tt⟩:=HF.o;have hlen:(min count (rows.length:Int)).toNat=((jl [] rows g).take count.toNat).length:=by rw[aO,jK];omega
 exact⟨⟨A',(min count (rows.length:Int)).toNat,c'⟩,g,rfl,hg,hlen,⟨_,hsls.taken _,hown.rd.taken _⟩,tt⟩
end
section
open Go.RowKit
theorem fJ.one{D g h:Nat->Nat}{n:Nat}(hg:fJ D g 0 n)(hh:fJ D h 0 n):(List.range n).map g=(List.range n).map h:=by
 have pw:∀f,fJ D f 0 n->((List.range n).map f).Pairwise (fW D):=λf hf=>by rw[dJ];refine List.Pairwise.imp_of_mem (R:=(· < ·)) (λ{a b}ha hb hab=> ?_) dQ;exact hf.1 a b (aY _) hab (a_.1 hb)
 have irr:∀x y,fW D x y->fW D y x->False:=λx y h1 h2=>by unfold fW at h1 h2;omega
 have nd:∀f,fJ D f 0 n->((List.range n).map f).Nodup:=λf hf=>by unfold List.Nodup;refine(pw f hf).imp ?_;intro a b hab he;subst he;exact irr _ _ hab hab
 have mem:∀f,fJ D f 0 n->∀x,x∈(List.range n).map f ↔ x<n:=λf hf x=>by
  rw[aJ];constructor
  ·rintro⟨i,hi,rfl⟩;exact((hf.2 (f i)).1 ⟨i,aY _,a_.1 hi,rfl⟩).2
  intro hx;obtain⟨i,_,hi,he⟩:=(hf.2 x).2 ⟨aY _,hx⟩;exact⟨i,a_.2 hi,he⟩
 have hp:((List.range n).map g).Perm ((List.range n).map h):=(dy (nd g hg) (nd h hh)).2 λa=>by rw[mem g hg,mem h hh]
 exact List.Perm.eq_of_pairwise (le:=fW D) (λa b _ _ h1 h2=>absurd h2 (λq=>irr a b h1 q)) (pw g hg) (pw h hh) hp
open Classical in
noncomputable def j2(cs:List CD)(os:List (ByteArray × Bool))(rows:List (List VD))(count:Nat):List (List VD):=if h:∃g,fJ (mq cs os rows) g 0 rows.length then (jl [] rows h.choose).take count else []
theorem qd{cs:List CD}{os:List (ByteArray × Bool)}{rows:List (List VD)}(count:Nat){g:Nat->Nat}(hg:fJ (mq cs os rows) g 0 rows.length):j2 cs os rows count=(jl [] rows g).take count:=by have h:∃g,fJ (mq cs os rows) g 0 rows.length:=⟨g,hg⟩;unfold j2;rw[dif_pos h];congr 1;have e:=fJ.one h.choose_spec hg;unfold jl;have e2:=bf (List.map λk=>rows.getD k []) e;simpa [List.map_map,Function.comp_def] using e2
theorem pH.tell{cs:List CD}{os:List (ByteArray × Bool)}{rows:List (List VD)}{count:Int}{w w':World}{e:Ending}(h:pH cs os rows count w e w'):∃r:SL,e=.returned (.slice r.A r.n r.c)/\r.n=(j2 cs os rows count.toNat).length/\eW w' r.A (j2 cs os rows count.toNat)/\Touch [] w w':=by obtain⟨q,g,h1,h2,h3,h4,h5⟩:=h;rw[qd _ h2];exact⟨q,h1,h3,h4,h5⟩
theorem zp(x:PC)(hk0:x.kind=9)(rv:List (List VD))(L:Option Addr)(lc:Nat)(ta:SL × SL)(w:World)(hL:d9 kZ w L [ta]) (H:∀w',Touch [] w w'->Calls Tryz.prog 101 #[x.val,.agg #[.slice ta.1.A ta.1.n ta.1.c,.slice ta.2.A ta.2.n ta.2.c]] w' (λe w2=>∃r:SL,e=.returned (.slice r.A r.n r.c)/\r.n=rv.length/\eW w2 r.A rv/\Touch [] w' w2)) : Calls Tryz.prog 65 #[x.val,.slice L 1 lc] w (eX (0,rv) w):=by
 obtain⟨⟨SA,sn,sc⟩,⟨RA,rn,rc⟩⟩:=ta;obtain⟨k0,k1,⟨A2,n2,c2'⟩,⟨⟨ck,cn,⟨cvk,cvn,cvt⟩,cop⟩,CA,cnn,cc⟩,⟨NA,nn,nc⟩,⟨EA,en,ec⟩,⟨OA,ol,oc⟩,⟨GA,gn,gc⟩,⟨BA,bn,bc⟩,count⟩:=x;dsimp only at hk0 H;subst hk0;obtain⟨ad,bl,bo,rfl,hadd0,hc0⟩:=d9.cells hL 2 gi (by omega) 0 (by simp);have l0:=hc0 0 _ rfl;have l1:=hc0 1 _ rfl;simp only[Nat.zero_mul,Nat.add_zero] at hadd0 l0 l1;simp only[List.getElem_cons_zero] at l0 l1;have Hj:=lh H;simp only[PC.val] at *;obtain⟨W,hW⟩:∃W,W=w.alloc (.cells #[.int .i64 9,.string k1,.slice A2 n2 c2',.int .i64 ck,.string cn,.int .i64 cvk,.int .i64 cvn,.string cvt,.string cop,.slice CA cnn cc,.slice NA nn nc,.slice EA en ec,.slice OA ol oc,.slice GA gn gc,.slice BA bn bc,.int .i64 count] 49):=⟨_,rfl⟩;have t0:Touch [] w W:=hW ▸ (Touch.refl [] w).alloc _;have hb0:=hW ▸ ah w (.cells #[.int .i64 9,.string k1,.slice A2 n2 c2',.int .i64 ck,.string cn,.int .i64 cvk,.int .i64 cvn,.string cvt,.string cop,.slice CA cnn cc,.slice NA nn nc,.slice EA en ec,.slice OA ol oc,.slice GA gn gc,.slice BA bn bc,.int .i64 count] 49);have l0d:=t0.drew.cell l0 (by simp);have l1d:=t0.drew.cell l1 (by simp);obtain⟨p0,p1,p2,p3,p4,p5,p6,p7,p8,p9,p10,p11,p12,p13,p14,p15⟩:=fg ((Touch.refl [] W).drew.blk hb0 (by simp))
 have HP:Ga (W.drew.cell? ⟨w.heap.size,0,none⟩=some (.int .i64 9)/\W.drew.cell? ⟨w.heap.size,1,none⟩=some (.string k1)/\W.drew.cell? ⟨w.heap.size,2,none⟩=some (.slice A2 n2 c2')/\W.drew.cell? ⟨w.heap.size,3,none⟩=some (.int .i64 ck)/\W.drew.cell? ⟨w.heap.size,4,none⟩=some (.string cn)/\W.drew.cell? ⟨w.heap.size,5,none⟩=some (.int .i64 cvk)/\W.drew.cell? ⟨w.heap.size,6,none⟩=some (.int .i64 cvn)/\W.drew.cell? ⟨w.heap.size,7,none⟩=some (.string cvt)/\W.drew.cell? ⟨w.heap.size,8,none⟩=some (.string cop)/\W.drew.cell? ⟨w.heap.size,9,none⟩=some (.slice CA cnn cc)/\W.drew.cell? ⟨w.heap.size,10,none⟩=some (.slice NA nn nc)/\W.drew.cell? ⟨w.heap.size,11,none⟩=some (.slice EA en ec)/\W.drew.cell? ⟨w.heap.size,12,none⟩=some (.slice OA ol oc)/\W.drew.cell? ⟨w.heap.size,13,none⟩=some (.slice GA gn gc)/\W.drew.cell? ⟨w.heap.size,14,none⟩=some (.slice BA bn bc)/\W.drew.cell? ⟨w.heap.size,15,none⟩=some (.int .i64 count)/\W.drew.cell? ⟨bl,bo,none⟩=some (.slice SA sn sc)/\W.drew.cell? ⟨bl,bo+1,none⟩=some (.slice RA rn rc)):=lh ⟨p0,p1,p2,p3,p4,p5,p6,p7,p8,p9,p10,p11,p12,p13,p14,p15,l0d,l1d⟩;have HW:=lh hW;have HT0:=lh t0.drew;clear H hL hc0 hW t0 l0 l1 hb0 l0d l1d p0 p1 p2 p3 p4 p5 p6 p7 p8 p9 p10 p11 p12 p13 p14 p15;go_enter Tryz.func65,Tryz.ntmps65;go_wp2_with fail;rw[<- HW.o]
 go_region_held3 (λw'=>w'.cell? ⟨w.heap.size,0,none⟩=some (.int .i64 9)/\w'.cell? ⟨w.heap.size,1,none⟩=some (.string k1)/\w'.cell? ⟨w.heap.size,2,none⟩=some (.slice A2 n2 c2')/\w'.cell? ⟨w.heap.size,3,none⟩=some (.int .i64 ck)/\w'.cell? ⟨w.heap.size,4,none⟩=some (.string cn)/\w'.cell? ⟨w.heap.size,5,none⟩=some (.int .i64 cvk)/\w'.cell? ⟨w.heap.size,6,none⟩=some (.int .i64 cvn)/\w'.cell? ⟨w.heap.size,7,none⟩=some (.string cvt)/\w'.cell? ⟨w.heap.size,8,none⟩=some (.string cop)/\w'.cell? ⟨w.heap.size,9,none⟩=some (.slice CA cnn cc)/\w'.cell? ⟨w.heap.size,10,none⟩=some (.slice NA nn nc)/\w'.cell? ⟨w.heap.size,11,none⟩=some (.slice EA en ec)/\w'.cell? ⟨w.heap.size,12,none⟩=some (.slice OA ol oc)/\w'.cell? ⟨w.heap.size,13,none⟩=some (.slice GA gn gc)/\w'.cell? ⟨w.heap.size,14,none⟩=some (.slice BA bn bc)/\w'.cell? ⟨w.heap.size,15,none⟩=some (.int .i64 count)/\w'.cell? ⟨bl,bo,none⟩=some (.slice SA sn sc)/\w'.cell? ⟨bl,bo+1,none⟩=some (.slice RA rn rc)) (first | exact HP.o | exact iE M1.o.2.2 HP.o) (first
  |(go_at_call 101;refine(Hj.o _ HT0.o).mono ?_;rintro e w1 ⟨⟨A1,n1,c1⟩,rfl,m1⟩;have M1:=lh m1;clear m1))
 go_wp2_with fail;go_ret2;exact⟨⟨A1,n1,c1⟩,rfl,M1.o.1,M1.o.2.1,HT0.o.trans0 M1.o.2.2⟩
end
section
open Go.RowKit
theorem qN{m:Nat}(x:PC)(hk0:x.kind=2)(e:TX m)(cs:List CD)(rows:List (List VD))(w:World)(hc:iJ iX jf m w x.cond e)(hok:∀ c∈cs,c.Ok)(hl1:cs.length<=1000000)(hl2:rows.length<=1000000)(hrk:fe rows) (hs:fj m e<=1000000) (hall:gj (λq=>q.v.text.size<=140737000000000) m e):lS w x [(cs,rows)] (gP cs e rows):=by
 intro w' L lc tl t hs' hL;obtain⟨hs1,hs2⟩:=hs';match tl,hs1 with
 | [t1],_=>exact zy x hk0 _ L lc t1 w' hL (λw2 t2=>Au x e t1.1 t1.2 cs rows w2 (hc.touch0 (t.trans0 t2)) ((hs2 0 (by simp) (by simp)).touch0 t2) hok hl1 hl2 hrk hs hall)
theorem qD(x:PC)(hk0:x.kind=7)(csA csB:List CD)(rowsA rowsB:List (List VD))(w:World)(hA2:rowsA.length<=100000)(hB2:rowsB.length<=100000):lS w x [(csA,rowsA),(csB,rowsB)] (0,rowsA++rowsB):=by
 intro w' L lc tl t hs hL;obtain⟨hs1,hs2⟩:=hs;match tl,hs1 with
 | [t1,t2],_=>exact zc x hk0 L lc t1 t2 csA csB rowsA rowsB w' hL (hs2 0 (by simp) (by simp)) (hs2 1 (by simp) (by simp)) hA2 hB2
theorem qQ(x:PC)(hk0:x.kind=9)(cs:List CD)(os:List (ByteArray × Bool))(rows:List (List VD))(w:World)(hbn:x.by_.n=os.length)(hby:d9 pg w x.by_.A os)(hct:0<=x.count)(hl1:cs.length<=1000000)(hl2:rows.length<=100000)(hl4:os.length<=1000000) (hin:∀r∈rows,r.length<=140737000000000/\∀o∈os,(ef cs o.1).getD 0<r.length):lS w x [(cs,rows)] (0,j2 cs os rows x.count.toNat):=by
 intro w' L lc tl t hs hL;obtain⟨hs1,hs2⟩:=hs;match tl,hs1 with
 | [t1],_ =>
  exact zp x hk0 _ L lc t1 w' hL (λw2 t2=>(y_ x t1.1 t1.2 cs os rows w2 ((hs2 0 (by simp) (by simp)).touch0 t2) hbn (d9.touch0 hby (t.trans0 t2)) hct hl1 hl2 hl4 hin).mono λe w3 h=>h.tell)
end
section
open Go.RowKit
def f_{m:Nat}(cs:List CD)(es:List (TX m))(r:List VD):List VD:=es.map λe=>(eP cs r m e).1
def io{m:Nat}(cs:List CD)(es:List (TX m))(r:List VD):Int:=fH (λe=>(eP cs r m e).2) es
def ja{m:Nat}(cs:List CD)(es:List (TX m))(rows:List (List VD)):Int × List (List VD):=
 if fH (io cs es) rows=0 then (0,rows.map (f_ cs es)) else (fH (io cs es) rows,[])
theorem Ci{m:Nat}(x:PC)(es:List (TX m))(s r:SL)(cs:List CD)(rows:List (List VD))(w:World)(hen:x.exprs.n=es.length)(hle:es.length<=1000000)(hex:ki iX jf m w x.exprs.A es)(hT:TabAt w s r cs rows)(hok:∀ c∈cs,c.Ok)(hl1:cs.length<=1000000)(hl2:rows.length<=1000000)(hrk:fe rows) (hs:∀e∈es,fj m e<=1000000) (hall:∀e∈es,gj (λq=>q.v.text.size<=140737000000000) m e) : Calls Tryz.prog 95 #[x.val,.agg #[.slice s.A s.n s.c,.slice r.A r.n r.c]] w (eX (ja cs es rows) w):=by
 obtain⟨V,hV⟩:∃V,V=ja cs es rows:=⟨_,rfl⟩;rw[<- hV];obtain⟨PO,hPO⟩:∃PO,PO=eX V w:=⟨_,rfl⟩;rw[<- hPO];have HV:=lh hV;have HPO:=lh hPO;have HRA:=lh hT.rws;obtain⟨tn, -,tcols,tm, -⟩:=hT;have Hev:=lh λ(row:List VD)(B:Option Addr)(rc:Nat)(e:TX m)(y:XC)w'(t:Touch [] w w')(hm:row∈rows)(he:e∈es)(hr:eu w' B row)(hy:iJ iX jf m w' y e)=>oO m e y s.A s.c cs.length cs rfl hok B rc row.length row rfl (λv hv=>(hrk row hm).2 v hv) w' hy (tcols.touch0 t) hr (by omega) (by have:=(hrk row hm).1;omega) (hs e he) (hall e he);have HEX:=lh hex;have Hlr:=lh (show ∀i(h:i<rows.length),rows[i].length<=140737000000000 from λi h=>(hrk _ (am h)).1);clear hV hPO hex tcols hok hrk hs hall;obtain⟨k0,k1,⟨A2,n2,c2'⟩,⟨⟨ck,cn,⟨cvk,cvn,cvt⟩,cop⟩,CA,cnn,cc⟩,⟨NA,nn,nc⟩,⟨EA,en,ec⟩,⟨OA,ol,oc⟩,⟨GA,gn,gc⟩,⟨BA,bn,bc⟩,count⟩:=x;obtain⟨sA,sn,sc⟩:=s;obtain⟨rA,rn,rc⟩:=r;dsimp only at tn tm hen;subst tn tm hen;simp only[PC.val,XC.val] at *;obtain⟨W,hW⟩:∃W,W=(w.alloc (.cells #[.int .i64 k0,.string k1,.slice A2 n2 c2',.int .i64 ck,.string cn,.int .i64 cvk,.int .i64 cvn,.string cvt,.string cop,.slice CA cnn cc,.slice NA nn nc,.slice EA es.length ec,.slice OA ol oc,.slice GA gn gc,.slice BA bn bc,.int .i64 count] 49)).alloc (.cells #[.slice sA cs.length sc,.slice rA rows.length rc] 27):=⟨_,rfl⟩;have t0:Touch [] w W:=hW ▸ ((Touch.refl [] w).alloc _).alloc _
 have hb0:=hW ▸ ((Touch.refl [] (w.alloc (.cells #[.int .i64 k0,.string k1,.slice A2 n2 c2',.int .i64 ck,.string cn,.int .i64 cvk,.int .i64 cvn,.string cvt,.string cop,.slice CA cnn cc,.slice NA nn nc,.slice EA es.length ec,.slice OA ol oc,.slice GA gn gc,.slice BA bn bc,.int .i64 count] 49))).alloc (.cells #[.slice sA cs.length sc,.slice rA rows.length rc] 27)).blk (ah w _) (by simp);have hb1:W.heap[w.heap.size+1]?=some (.cells #[.slice sA cs.length sc,.slice rA rows.length rc] 27 (0,0)):=by have h1:=ah (w.alloc (.cells #[.int .i64 k0,.string k1,.slice A2 n2 c2',.int .i64 ck,.string cn,.int .i64 cvk,.int .i64 cvn,.string cvt,.string cop,.slice CA cnn cc,.slice NA nn nc,.slice EA es.length ec,.slice OA ol oc,.slice GA gn gc,.slice BA bn bc,.int .i64 count] 49)) (.cells #[.slice sA cs.length sc,.slice rA rows.length rc] 27);rw[ao] at h1;exact hW ▸ h1
 have HW:=lh hW;have HT0:=Gc t0 hb0 hb1;have z1:W.cell? ⟨w.heap.size+1,1,none⟩=some (.slice rA rows.length rc):=d_ hb1 rfl;clear hW t0 hb0 hb1;go_enter Tryz.func95,Tryz.ntmps95;go_wp2_with fail;rw[<- HW.o];go_loopw [6,17] (λo i wr=>∃(k:Nat)(B:Option Addr)(c:Nat),k<=rows.length/\i=.int .i64 k/\o=.slice B k c/\Ga (∀i(hi:i<k)(h2:i<rows.length),io cs es rows[i]=0)/\Ga (fl 33 W.heap.size wr B c ((rows.take k).map (f_ cs es)))/\Ga (∀b∈ed B,W.heap.size<=b)/\Ga (Touch [] W wr)) (λ_ i _=>rows.length-(intOf i).toNat)
 case atStart=>exact⟨0,none,0,by omega,rfl,rfl,lh (λi h=>absurd h (by omega)),lh (fl.nil _ _ _),lh (by simp[ed]),lh (Touch.refl _ _)⟩
 case round =>
 obtain⟨k,B,c,hk,rfl,rfl,HZ,HO,HF,HT⟩:=hrel;by_cases hlt:k<rows.length
 ·obtain⟨bd,A1,c1,rfl,e0,hr1⟩:=(HRA.o.touch0 (HT0.o.1.trans0 HT.o)).at_ k hlt;have htk:=au hlt;have hmem:=am hlt;have her:=λh0=>jG (g:=io cs es) hlt (λi hi=>HZ.o i hi (by omega)) h0;obtain⟨row,hre⟩:∃row,row=rows[k]:=⟨_,rfl⟩;rw[<- hre] at e0 hr1 htk hmem her;have HZ2:=lh (fun h0:io cs es row=0=>λi(hi:i<k+1)(h2:i<rows.length)=>show io cs es rows[i]=0 by
   by_cases hik:i<k
   ·exact HZ.o i hik h2
   obtain rfl:i=k:=by omega
   rw[<- hre];exact h0)
  have Htk:=lh htk;have Hmem:=lh hmem;have Her:=lh her;have HR1:=lh hr1;have hkn:(k:Int)<(rows.length:Int):=by omega
  obtain⟨p0,p1,p2,p3,p4,p5,p6,p7,p8,p9,p10,p11,p12,p13,p14,p15⟩:=fg (HT.o.blk HT0.o.2.1 (by simp));clear hre htk hr1 hmem her p0 p1 p2 p3 p4 p5 p6 p7 p8 p9 p10 p12 p13 p14 p15;go_wp2_with fail;clear p11;go_loopw [9,24] (λv i wx=>∃(j:Nat)(A':Option Addr)(c':Nat),j<=es.length/\i=.int .i64 j/\v=.slice A' j c'/\Ga (∀i(hi:i<j)(h2:i<es.length),(eP cs row m es[i]).2=0)/\Ga (Made 31 3 ff ((es.take j).map λe=>(eP cs row m e).1) A' c' wr wx)) (λ_ i _=>es.length-(intOf i).toNat)
  case atStart=>exact⟨0,none,0,by omega,rfl,rfl,lh (λi h=>absurd h (by omega)),lh (Made.nil _ _ _ _)⟩
  case round =>
  obtain⟨j,A',c',hj,rfl,rfl,HZj,HM⟩:=hrel;by_cases hltj:j<es.length
  ·obtain⟨ad,b,off,y,rfl,hadd,hy,hcell⟩:=(HEX.o.touch0 ((HT0.o.1.trans0 HT.o).trans0 HM.o.t)).at_ gW j hltj;have hsn:=au hltj;have hej:=am hltj;have herj:=λh0=>jG (g:=λe=>(eP cs row m e).2) hltj (λi hi=>HZj.o i hi (by omega)) h0;obtain⟨e,he⟩:∃e,e=es[j]:=⟨_,rfl⟩;rw[<- he] at hy hsn hej herj;have HZ3:=lh (fun h0:(eP cs row m e).2=0=>λi(hi:i<j+1)(h2:i<es.length)=>show (eP cs row m es[i]).2=0 by
    by_cases hij:i<j
    ·exact HZj.o i hij h2
    obtain rfl:i=j:=by omega
    rw[<- he];exact h0)
   have f0:=hcell 0 _ rfl;have f1:=hcell 1 _ rfl;have f2:=hcell 2 _ rfl;have f3:=hcell 3 _ rfl;have f4:=hcell 4 _ rfl;have f5:=hcell 5 _ rfl;have f6:=hcell 6 _ rfl;rw[aM] at f0;obtain⟨⟨yk,yn,⟨yvk,yvn,yvt⟩,yop⟩,yA,yl,yc⟩:=y;dsimp only at f0 f1 f2 f3 f4 f5 f6;have ta:=(Touch.refl [] wr).alloc (.cells #[.int .i64 yk,.string yn,.int .i64 yvk,.int .i64 yvn,.string yvt,.string yop,.slice yA yl yc] 44);have hev:=Hev.o row A1 c1 e _ _ (((HT0.o.1.trans0 HT.o).trans0 HM.o.t).trans0 ta) Hmem.o hej (HR1.o.touch0 (HM.o.t.trans0 ta)) (hy.touch0 ta);obtain⟨tv,htv⟩:∃tv,tv=eP cs row m e:=⟨_,rfl⟩;have hmv:(es.take (j+1)).map (λe=>(eP cs row m e).1)=(es.take j).map (λe=>(eP cs row m e).1)++[tv.1]:=by rw[hsn,aT,htv];rfl
   rw[<- htv] at hev herj HZ3;obtain⟨⟨vk,vn,vt⟩,er⟩:=tv;simp only[XC.val,VD.val] at hev;dsimp only at herj HZ3 hmv;obtain⟨q0,q1,_,_⟩:=eL ((HM.o.t.trans0 ta).blk (HT.o.blk HT0.o.2.2 (by simp)) (by simp));have Hev2:=lh hev;have HTa:=lh ta;have Hmv:=lh hmv;have Herj:=lh herj;have hjI:(j:Int)<(es.length:Int):=by omega
   have Hlen:=lh (show ((es.take j).map λe=>(eP cs row m e).1).length=j by rw[ay,aO];omega);clear hcell hy hev ta hmv herj hsn hej he htv;by_cases h0:er=0
   ·subst h0;clear Herj;go_wp2_with fail;refine Hev2.o.mono ?_;rintro e1 w1 ⟨rfl,t1⟩;have U1:=lh (HTa.o.trans0 t1);clear t1 Hev2 q0 q1;go_wp2_with (at_builtin;refine ez ?_);refine go ?_;have tb:=((Touch.refl [] w1).alloc (.cells #[.int .i64 vk,.int .i64 vn,.string vt] 31)).alloc (.cells #[.int .i64 vk,.int .i64 vn,.string vt] 31);have hrd1:=d9.one (enc:=ff) (w1.alloc (.cells #[.int .i64 vk,.int .i64 vn,.string vt] 31)) 31 ⟨vk,vn,vt⟩ #[.int .i64 vk,.int .i64 vn,.string vt] rfl;rw[ao] at hrd1;refine eb (enc:=ff) rfl (.tmp 39) (.tmp 41) 33 rfl 31 _ 3 32 jI cj rfl (by omega) eO f8 A' j c' ((es.take j).map λe=>(eP cs row m e).1) Hlen.o rfl (HM.o.own.touch0 (U1.o.trans0 tb))
     (some ⟨w1.heap.size+1,0,none⟩) 1 1 [⟨vk,vn,vt⟩] rfl rfl hrd1 (by omega) (by omega) ?_
    intro A3 c3 w3 hown3 ht3 hf3;have HX:=lh ((HM.o.touch0 (U1.o.trans0 tb)).step hown3 ht3 hf3);clear hown3 ht3 hf3 tb hrd1;go_wp2_with fail;go_roundw
    case rel=>exact⟨j+1,A3,c3,by omega,by go_num,rfl,lh (HZ3.o (by first | trivial | rfl)),lh (by rw[Hmv.o];exact HX.o)⟩
    case measure=>simp[intOf];omega
   have HVe:=lh (show V=(er,[]) by have h1:io cs es row=er:=Herj.o h0;rw[HV.o];unfold ja;rw[Her.o (by rw[h1];exact h0),h1,ab h0])
   have hq:(er==0)=false:=by rw[aw];exact h0
   have hq':(er != 0)=true:=by rw[bne,hq];rfl
   clear h0 Herj HZ3;go_wp2_with fail;refine Hev2.o.mono ?_;rintro e1 w1 ⟨rfl,t1⟩;have U1:=lh (HTa.o.trans0 t1);clear t1 Hev2 q0 q1;go_wp2_with fail;rw[HPO.o,HVe.o];exact⟨⟨none,0,0⟩,rfl,rfl,⟨[],⟨rfl,λi h=>absurd h (by simp)⟩,d9.nil _ _ _⟩,((HT0.o.1.trans0 HT.o).trans0 HM.o.t).trans0 (U1.o.trans0 ((Touch.refl [] w1).alloc _))⟩
  obtain rfl:j=es.length:=by omega
  have HM2:Ga (Made 31 3 ff (f_ cs es row) A' c' _ wr):=lh (by have:=HM.o;rwa[aH] at this);have hz:io cs es row=0:=iI λe he=>by obtain⟨i,hi,rfl⟩:=aU.1 he;exact HZj.o i hi hi
  have HZ4:=lh (HZ2.o hz);have Hkl:=lh (show (f_ cs es row).length=es.length by unfold f_;rw[ay]);clear HM hz HZ2;go_wp2_with (at_builtin;refine ez ?_);refine go ?_;have hB:=HO.o.lt;have hsz:=HM2.o.t.size;refine gF rfl (.tmp 44) (.tmp 46) 25 rfl 33 gf bp W.heap.size B k c ((rows.take k).map (f_ cs es)) (by rw[ay,aO];omega) rfl (HO.o.touch0 HM2.o.t) A' c' (f_ cs es row) HM2.o.own.rd
   (λb hb=>⟨λq=>by have:=hB b q;have:=HM2.o.f b hb;omega,HM2.o.own.lt b hb,by have:=HM2.o.f b hb;have:=HT.o.size;omega⟩) 1 rfl (by omega) (by rw[Hkl.o]) ?_
  intro B' c3 w' hown ht hf;have HX:=Gc hown ht hf;clear hown ht hf;go_wp2_with fail;go_roundw
  case rel =>
   obtain⟨hown,ht,hf⟩:=HX.o;refine⟨k+1,B',c3,by omega,by go_num,rfl,HZ4,lh (by rw[Htk.o,aT];exact hown),lh (λb hb=> ?_),lh (((HT.o.trans0 HM2.o.t).alloc _).trans ht (λb hb=>.inr (HF.o b hb)))⟩;rcases hf b hb with q|q
   ·exact HF.o b q
   have:=HT.o.size;omega
  case measure=>simp[intOf];omega
 obtain rfl:k=rows.length:=by omega
 have HVe:=lh (show V=(0,rows.map (f_ cs es)) by rw[HV.o];unfold ja;rw[ae (iI λr hr=>by obtain⟨i,hi,rfl⟩:=aU.1 hr;exact HZ.o i hi hi)])
 have HO2:Ga (fl 33 W.heap.size wr B c (rows.map (f_ cs es))):=lh (by have:=HO.o;rwa[aH] at this);clear HO;go_wp2_with fail;rw[HPO.o,HVe.o];exact⟨⟨B,_,c⟩,rfl,by simp,HO2.o.rowsAt,HT0.o.1.trans0 HT.o⟩
end
section
open Go.RowKit
theorem AE(n:Nat)(hn:n<=1000000)(w:World): Calls Tryz.prog 171 #[.slice none 0 0,.int .i64 n] w λe w'=>∃A c,e=.returned (.slice A 0 c)/\Made 31 3 ff [] A c w w':=by
 obtain⟨i0,hi0,hz0,hz1,hz2⟩:=info_parts jI;go_enter Tryz.func171,Tryz.ntmps171;by_cases h0:n=0
 ·subst h0;go_wp2;go_ret;exact⟨none,0,rfl,Made.nil _ _ _ _⟩
 have hn0:0<n:=by omega
 have hge:=grownCap_ge w n 0 31;have hle:=grownCap_le_maxLen w n 0 31 (by simp only[maxLen];omega);have hold:(Builtin.firstCells i0.size 0 (.slice none 0 0)).run Tryz.prog w.drew=.ok ([]:List Value).toArray w.drew:=run_firstCells_none w.drew i0.size 0 0 0;have hrz:∀ty,(Builtin.append_ #[33,3] ty #[.slice none 0 0,.int .i64 (n:Int)]).run Tryz.prog w=_:=λty=>
  Lib.run_append_grow_zeros w 33 3 ty 31 i0 (.agg #[.int .i64 0,.int .i64 0,.string ⟨#[]⟩]) .i64 .i64 cj cN hi0 hz0 none 0 0 [] hold n hn0 (by omega) (by omega) (by omega)
   (by rw[hz2];omega) (by rw[hz2];exact growslice_fits (by omega) (by omega))
 simp only[Nat.zero_add] at hrz;have hsz:(([]:List Value).toArray++Builtin.zeroCells (Value.agg #[.int .i64 0,.int .i64 0,.string ⟨#[]⟩]).cells n++Builtin.zeroCells (Value.agg #[.int .i64 0,.int .i64 0,.string ⟨#[]⟩]).cells (grownCap w n 0 31-n)).size=grownCap w n 0 31*3:=by rw[de,de,size_zeroCells,size_zeroCells];simp[Value.cells];omega
 have hcut:=ep.room 31 3 ff w.drew (grownCap w n 0 31) _ hle hsz;obtain⟨W,hW⟩:∃W,W=w.drew.alloc (.cells (([]:List Value).toArray++Builtin.zeroCells (Value.agg #[.int .i64 0,.int .i64 0,.string ⟨#[]⟩]).cells n++Builtin.zeroCells (Value.agg #[.int .i64 0,.int .i64 0,.string ⟨#[]⟩]).cells (grownCap w n 0 31-n)) 31):=⟨_,rfl⟩;obtain⟨G,hG⟩:∃G,G=grownCap w n 0 31:=⟨_,rfl⟩;have tW:Touch [] w W:=by rw[hW];exact((Touch.refl [] w).drew).alloc _
 rw[<- hW] at hrz hcut;rw[<- hG] at hrz hcut hge hle;have hws:w.drew.heap.size=w.heap.size:=rfl;rw[hws] at hcut;unfold maxLen at hle;clear hW hG hold hsz hws;go_wp2_with (at_builtin;refine Lib.wpList_append_run _ rfl _ _ _ _ rfl _ _ rfl rfl _ _ (hrz _) ?_);go_ret;exact⟨_,G,rfl,hcut,tW,by simp[ed]⟩
theorem nN(A1 A2:Option Addr)(n1 n2 c1 c2:Nat)(l1 l2:List VD)(e1:l1.length=n1)(e2:l2.length=n2)(h1:n1<=1000)(h2:n2<=1000)(w:World)(r1:eu w A1 l1)(r2:eu w A2 l2): Calls Tryz.prog 137 #[.slice (some ⟨w.heap.size,0,none⟩) 2 2] (w.alloc (.cells #[.slice A1 n1 c1,.slice A2 n2 c2] 33)) λe w'=> ∃A c,e=.returned (.slice A (l1++l2).length c)/\Made 31 3 ff (l1++l2) A c w w':=by
 subst e1 e2;have t0:=(Touch.refl [] w).alloc (.cells #[.slice A1 l1.length c1,.slice A2 l2.length c2] 33);have hb:=ah w (.cells #[.slice A1 l1.length c1,.slice A2 l2.length c2] 33);obtain⟨W,hW⟩:∃W,W=w.alloc (.cells #[.slice A1 l1.length c1,.slice A2 l2.length c2] 33):=⟨_,rfl⟩;have hWs:w.heap.size<W.heap.size:=by rw[hW,ao];omega
 rw[<- hW] at t0 hb ⊢;have d0:=d_ hb (i:=0) rfl;have d1:=d_ hb (i:=1) rfl;have hlen:(l1++l2).length=l1.length+l2.length:=az;have Hlen:=lh hlen;clear hW hlen;go_enter Tryz.func137,Tryz.ntmps137;go_wp2;refine b8 3 ?_;rw[bx];go_wp2;rw[bx];go_wp2;rw[bx];go_wp2_with fail;have hgr:=AE (l1.length+l2.length) (by omega) W;rw[Int.natCast_add] at hgr;refine hgr.mono ?_;rintro e w1 ⟨A3,c3,rfl,hm3⟩;have b1:=hm3.t.blk hb (by simp);have f0:=d_ b1 (i:=0) rfl;have f1:=d_ b1 (i:=1) rfl;have T1:=t0.trans0 hm3.t;go_wp2_with fail;refine b8 3 ?_;rw[bx];go_wp2_with (at_builtin;refine ez ?_);refine go ?_;refine eb rfl (.tmp 31) (.tmp 32) 33 rfl 31 _ 3 32 jI cj rfl (by omega) eO f8 A3 0 c3 [] rfl rfl hm3.own
  A1 l1.length c1 l1 rfl rfl (r1.touch0 T1) (by omega) (by omega) ?_
 intro A4 c4 w4 hown4 ht4 hf4;have hm4:=hm3.step hown4 ht4 hf4;have b4:=hm4.t.blk hb (by simp);have g0:=d_ b4 (i:=0) rfl;have g1:=d_ b4 (i:=1) rfl;rw[cw] at hm4;go_wp2_with fail;rw[bx];go_wp2_with (at_builtin;refine ez ?_);refine go ?_;refine eb rfl (.tmp 31) (.tmp 32) 33 rfl 31 _ 3 32 jI cj rfl (by omega) eO f8 A4 l1.length c4 l1 rfl rfl hm4.own
  A2 l2.length c2 l2 rfl rfl (r2.touch0 (t0.trans0 hm4.t)) (by omega) (by omega) ?_
 intro A5 c5 w5 hown5 ht5 hf5;have hm5:=hm4.step hown5 ht5 hf5;go_wp2_with fail;rw[bx];go_wp2;go_ret;exact⟨A5,c5,pu Hlen.o.symm,hm5.own,t0.trans0 hm5.t,λb hb=>by have:=hm5.f b hb;omega⟩
end
section
open Go.RowKit Go.Maps Go.ChangeMaps
theorem us:(Tryz.prog.info? 9).map (λi=>(i.zero,i.size,i.bytes))=some (some (.string ⟨#[]⟩),1,16):=by kernel_rfl
def iC(rows:List (List VD))(at_:List Nat)(i:Nat):Bool:= !iQ (eE (rows.getD i []) at_)
def eF(rows:List (List VD))(at_:List Nat)(i:Nat):List UInt8:=fY (eE (rows.getD i []) at_)
def jp(rowsB:List (List VD))(bt at_:List Nat)(r:List VD):List Nat:=if iQ (eE r at_)=true then [] else iG (iC rowsB bt) (eF rowsB bt) rowsB.length (fY (eE r at_))
def jc(left:Bool)(wide:Nat)(rowsB:List (List VD))(bt at_:List Nat)(r:List VD):List (List VD):=
 if jp rowsB bt at_ r=[]/\left=true then [List.replicate wide ⟨0,0,⟨#[]⟩⟩] else (jp rowsB bt at_ r).map λi=>rowsB.getD i []
def fq(left:Bool)(wide:Nat)(rowsA rowsB:List (List VD))(at_ bt:List Nat):List (List VD):=rowsA.flatMap λr=>(jc left wide rowsB bt at_ r).map λo=>r++o
theorem yB(left:Bool)(wide:Nat)(rowsA rowsB:List (List VD))(at_ bt:List Nat)(k:Nat)(h:k<rowsA.length): fq left wide (rowsA.take (k+1)) rowsB at_ bt=fq left wide (rowsA.take k) rowsB at_ bt++(jc left wide rowsB bt at_ rowsA[k]).map λo=>rowsA[k]++o:=by unfold fq;rw[au h,du];simp
theorem nj(left:Bool)(wide:Nat)(rowsA rowsB:List (List VD))(at_ bt:List Nat)(k:Nat):(fq left wide (rowsA.take k) rowsB at_ bt).length<=(fq left wide rowsA rowsB at_ bt).length:=by
 conv=>rhs;rw[<- List.take_append_drop k rowsA]
 unfold fq;rw[du,az];omega
theorem l_{cs:List CD}{names:List ByteArray}(h:0<cs.length):∀i∈ea cs names,i<cs.length:=by
 intro i hi;obtain⟨n,_,rfl⟩:=aJ.1 hi;rcases hp:ef cs n with _|k
 ·exact h
 exact eS hp
def kQ(w:World)(rows:List (List VD))(n:Nat):Prop:=∀r∈rows,r.length=n/\∀v∈r,nq w v/\v.Ok 140737000000000
theorem kQ.touch0{w w':World}{rows:List (List VD)}{n:Nat}(h:kQ w rows n)(ht:Touch [] w w'):kQ w' rows n:=λr hr=>⟨(h r hr).1,λv hv=>⟨((h r hr).2 v hv).1.touch0 ht,((h r hr).2 v hv).2⟩⟩
theorem mQ{r:List VD}{at_:List Nat}(h:∀ i∈at_,i<r.length):∀v∈eE r at_,v∈r:=by intro v hv;obtain⟨i,hi,rfl⟩:=aJ.1 hv;have:=h i hi;simp[this]
theorem rQ(l:List VD)(h:∀ v∈l,v.Ok 140737000000000):(fY l).length<=201*l.length:=by
 unfold fY;induction l with
 |nil=>simp
 |cons a l ih =>
  have:=xV a (h a aK).n
  have:=ih λv hv=>h v (aP _ hv)
  rw[bB,az,az,bK,bK,List.length_nil]
  omega
theorem rD{w:World}{r:List VD}{at_:List Nat}{n:Nat}(hr:r.length=n)(hat:∀ i∈at_,i<n)(hl:at_.length<=1000000)(hg:∀ v∈r,nq w v/\v.Ok 140737000000000)(A:Option Addr)(c:Nat)(w':World)(ht:Touch [] w w')(hv:eu w' A (eE r at_)): Calls Tryz.prog 136 #[.slice A at_.length c] w' λe w''=>e=.returned (.string (S (fY (eE r at_))))/\Touch [] w' w'':=by have hm:=mQ (r:=r) (at_:=at_) (by rw[hr];exact hat);exact pV A c at_.length (eE r at_) (by unfold eE;rw[ay]) w' hv (by omega) (λv hv=>(hg v (hm v hv)).1.touch0 ht) (λv hv=>(hg v (hm v hv)).2)
def qo(left:Bool)(wide:Nat)(rowsA rowsB:List (List VD))(at_ bt:List Nat)(w:World)(e:Ending)(w':World):Prop:=
 Touch [] w w'/\if 4096<(fq left wide rowsA rowsB at_ bt).length then e=.returned (.tuple #[.slice none 0 0,.int .i64 31])
  else ∃B c,e=.returned (.tuple #[.slice B (fq left wide rowsA rowsB at_ bt).length c,.int .i64 0])/\eW w' B (fq left wide rowsA rowsB at_ bt)
theorem yd(n:Nat)(hn:n<=1000)(w:World):(Instr.makeSlice 33 (.int .i64 (n:Int)) (.int .i64 (n:Int))).run Tryz.prog w=.ok (.slice (some ⟨w.heap.size,0,none⟩) n n) (w.alloc (.cells (madeCells #[.int .i64 0,.int .i64 0,.string ⟨#[]⟩] (n*3)) 31)):=by obtain⟨i0,hi0,hz0,hz1,hz2⟩:=info_parts jI;have h:=run_make (P:=Tryz.prog) w 33 31 i0 _ cj hi0 hz0 .i64 .i64 (n:Int) (n:Int) (by omega) (by omega) (by rw[hz2];omega) (by omega);rw[Int.toNat_natCast,hz1] at h;exact h
theorem tP(n:Nat)(w:World):eu (w.alloc (.cells (madeCells #[.int .i64 0,.int .i64 0,.string ⟨#[]⟩] (n*3)) 31)) (some ⟨w.heap.size,0,none⟩) (List.replicate n ⟨0,0,⟨#[]⟩⟩):=by
 refine d9.row (enc:=ff) w 31 (List.replicate n ⟨0,0,⟨#[]⟩⟩) _ ?_;have hl:((List.replicate n (⟨0,0,⟨#[]⟩⟩:VD)).flatMap ff).length=n*3:=by rw[iW ff 3 eO,dY]
 apply List.ext_getElem?;intro i;by_cases hi:i<n*3
 ·have h3:i / 3<n:=by omega
  have hd:=oJ ff 3 eO (List.replicate n (⟨0,0,⟨#[]⟩⟩:VD)) (i / 3) (i % 3) (by simpa using h3) (Nat.mod_lt _ (by omega));rw[show i / 3*3+i % 3=i by omega] at hd;rw[hd];have hm:i % 3=0\/i % 3=1\/i % 3=2:=by omega
  simp only[madeCells,List.getElem_replicate];rcases hm with q|q|q<;>simp[hi,q,ff]
 rw[bT (by simp[madeCells];omega),bT (by rw[hl];omega)]
end
section
open Go.RowKit
theorem tB(x y c:Int)(hx:0<=x)(hy:0<=y)(hc0:0<=c)(hc:c<=1)(w:World): (callFunc 202 #[.int .u64 x,.int .u64 y,.int .u64 c]).run Tryz.prog w = .ok (.value (.tuple #[.int .u64 ((x+y+c) % 18446744073709551616),.int .u64 ((x+y+c) / 18446744073709551616)])) w:=by rw[run_callFunc_extern Tryz.func202 (by kernel_rfl) (by kernel_rfl) (by kernel_rfl) (e:=add64Entry) (by kernel_rfl),run_add64 x y c hx hy hc0 hc];rfl
def jV:List VD->Int
 | []=>0
 |v:: r=>v.num+jV r
theorem zN(l:List VD)(v:VD):jV (l++[v])=jV l+v.num:=by
 induction l with
 |nil=>simp[jV]
 |cons a l ih=>simp only[List.cons_append,jV,ih];omega
theorem Fw(l:List VD)(h:∀ v∈l, -9223372036854775808<=v.num/\v.num<=9223372036854775807): -(9223372036854775808*l.length:Int)<=jV l/\jV l<=9223372036854775808*l.length:=by
 induction l with
 |nil=>simp[jV]
 |cons a l ih =>
  have h1:=h a aK
  have h2:=ih λv hv=>h v (aP _ hv)
  simp only[jV,List.length_cons]
  omega
def j9(l:List VD):Int × VD:=if -9223372036854775808<=jV l/\jV l<=9223372036854775807 then (0,⟨1,jV l,⟨#[]⟩⟩) else (10,⟨0,0,⟨#[]⟩⟩)
theorem Fc(A:Option Addr)(c n:Nat)(l:List VD)(hn:l.length=n)(hl:n<=1000000)(hok:∀ v∈l,v.Ok 140737000000000)(w:World)(h:eu w A l): Calls Tryz.prog 174 #[.slice A n c] w λe w'=>e=.returned (.tuple #[(j9 l).2.val,.int .i64 (j9 l).1])/\Touch [] w w':=by
 subst hn;obtain⟨W,hW⟩:∃W,W=w.alloc (.cells #[.int .i64 0,.int .i64 0,.string ⟨#[]⟩] 31):=⟨_,rfl⟩;have t0:Touch [] w W:=hW ▸ (Touch.refl [] w).alloc _;have hbr:W.heap[w.heap.size]?=some (.cells #[.int .i64 0,.int .i64 0,.string ⟨#[]⟩] 31 (0,0)):=hW ▸ ah w _;have HV:=lh h;have HT0:=Gb t0 hbr;have HW:=lh hW;have HN:=lh (show ∀v∈l, -9223372036854775808<=v.num/\v.num<=9223372036854775807 from λv hv=>(hok v hv).n);have Hof:=lh λn w'=>rS n w';clear h t0 hbr hW hok;go_enter Tryz.func174,Tryz.ntmps174;go_wp2_with fail;rw[<- HW.o];go_loopw [4,5,11] (λh o i wr=>∃(k:Nat)(hi lo:Nat),k<=l.length/\h=.int .u64 hi/\o=.int .u64 lo/\i=.int .i64 k/\Ga (∃q:Int,hi<18446744073709551616/\lo<18446744073709551616/\(hi:Int)*18446744073709551616+lo=jV (l.take k)+q*340282366920938463463374607431768211456)/\Ga (Touch [] W wr)) (λ_ _ i _=>l.length-(intOf i).toNat)
 case atStart=>exact⟨0,0,0,by omega,rfl,rfl,rfl,lh ⟨0,by omega,by omega,by simp[jV]⟩,lh (Touch.refl _ _)⟩
 case round =>
 obtain⟨k,hi,lo,hk,rfl,rfl,rfl,HQ,HT⟩:=hrel;by_cases hlt:k<l.length
 ·have hva:eu wr A l:=d9.touch0 HV.o (HT0.o.1.trans0 HT.o);obtain⟨ad,b,off,rfl,hadd,c0,c1,c2⟩:=hva.at_ k hlt;have htk:=au hlt;have hnb:=HN.o _ (am hlt);obtain⟨v,hv⟩:∃v,v=l[k]:=⟨_,rfl⟩;rw[<- hv] at c0 c1 c2 htk hnb;have hsn:=zN (l.take k) v;rw[<- htk] at hsn;obtain⟨vk,x,vt⟩:=v;dsimp only at c0 c1 c2 hnb hsn;have Hsn:=lh hsn;have hkI:(k:Int)<(l.length:Int):=by omega
  obtain⟨-,hh,hl', -⟩:=HQ.o;obtain⟨u,hu⟩:∃u:Int,u=if x<0 then x+18446744073709551616 else x:=⟨_,rfl⟩;have hwu:IntKind.u64.wrap x=u:=by
   have h:IntKind.u64.wrap x=x % 18446744073709551616:=by simp[IntKind.wrap,IntKind.bits,IntKind.signed]
   rw[h,hu];split<;>omega
  have hu0:0<=u:=by rw[hu];split<;>omega
  have ha:=λw'=>tB lo u 0 (by omega) hu0 (by omega) (by omega) w';obtain⟨lo',hlo'⟩:∃lo':Nat,(lo':Int)=((lo:Int)+u+0) % 18446744073709551616:=⟨(((lo:Int)+u+0) % 18446744073709551616).toNat,by omega⟩;obtain⟨cy,hcy⟩:∃cy:Int,cy=((lo:Int)+u+0) / 18446744073709551616:=⟨_,rfl⟩;rw[<- hlo',<- hcy] at ha;have hcb:0<=cy/\cy<=1:=by rw[hcy,hu];split<;>omega
  have Ha:=lh ha;obtain⟨s,hs⟩:∃s:Int,s=if x<0 then 18446744073709551615 else 0:=⟨_,rfl⟩;have hws:IntKind.u64.wrap (x / 9223372036854775808)=s:=by
   have h:IntKind.u64.wrap (x / 9223372036854775808)=(x / 9223372036854775808) % 18446744073709551616:=by simp[IntKind.wrap,IntKind.bits,IntKind.signed]
   rw[h,hs];split<;>omega
  have hs0:0<=s:=by rw[hs];split<;>omega
  have hb:=λw'=>tB hi s cy (by omega) hs0 hcb.1 hcb.2 w';obtain⟨hi',hhi'⟩:∃hi':Nat,(hi':Int)=((hi:Int)+s+cy) % 18446744073709551616:=⟨(((hi:Int)+s+cy) % 18446744073709551616).toNat,by omega⟩;obtain⟨cz,hcz⟩:∃cz:Int,cz=((hi:Int)+s+cy) / 18446744073709551616:=⟨_,rfl⟩;rw[<- hhi',<- hcz] at hb;have Hb:=lh hb;have HU:=Gg hu hlo' hcy hs hhi' hcz hnb;clear ha hb htk hv hsn hu hlo' hcy hcb hu0 hh hl' hs hs0 hhi' hcz;go_wp2_with (first | simp only[Ha.o] | simp only[Hb.o]);go_roundw
  case rel =>
   refine⟨k+1,hi',lo',by omega,rfl,rfl,by go_num,lh ?_,lh (HT.o.alloc _)⟩;obtain⟨q,h1,h2,h3⟩:=HQ.o;obtain⟨hu,hlo',hcy,hs,hhi',hcz,hnb⟩:=HU.o;rw[Hsn.o];by_cases hx:x<0
   ·rw[ae hx] at hu hs;subst hu hs;refine⟨q+1-cz,by omega,by omega, ?_⟩;omega
   rw[ab hx] at hu hs;subst hu hs;refine⟨q-cz,by omega,by omega, ?_⟩;omega
  case measure=>simp[intOf];omega
 obtain rfl:k=l.length:=by omega
 obtain⟨q,h1,h2,h3⟩:=HQ.o;rw[aH] at h3;have hSb:=Fw l HN.o;obtain⟨a,ha⟩:∃a:Int,a=if hi<9223372036854775808 then (hi:Int) else (hi:Int)-18446744073709551616:=⟨_,rfl⟩;obtain⟨b,hb⟩:∃b:Int,b=if lo<9223372036854775808 then (lo:Int) else (lo:Int)-18446744073709551616:=⟨_,rfl⟩;have hwa:IntKind.i64.wrap (hi:Int)=a:=by rw[ha];split<;>simp[IntKind.wrap,IntKind.bits,IntKind.signed]<;>omega
 have hwb:IntKind.i64.wrap (lo:Int)=b:=by rw[hb];split<;>simp[IntKind.wrap,IntKind.bits,IntKind.signed]<;>omega
 have hbr:=HT.o.blk HT0.o.2 (by simp);have HBR:=lh hbr;obtain⟨p0,p1,p2,y0,y1,y2⟩:=eJ hbr;have HTW:=lh (HT0.o.1.trans0 HT.o);by_cases hin : -9223372036854775808<=jV l/\jV l<=9223372036854775807
 ·have hab:a=b / 9223372036854775808/\b=jV l:=by rw[ha,hb];split<;>split<;>constructor<;>omega
  have Hv:=lh (show j9 l=(0,⟨1,b,⟨#[]⟩⟩) by unfold j9;rw[ae hin,hab.2]);have hq1:(a==b / 9223372036854775808)=true:=by rw[dx];exact hab.1
  have hq2:(a != b / 9223372036854775808)=false:=by rw[bne,hq1];rfl
  clear hin hab hSb ha hb h1 h2 h3 hbr HQ;go_wp2_with fail;refine(Hof.o _ _).mono ?_;rintro e w1 ⟨rfl,t1⟩;have HT1:=lh (HTW.o.trans0 t1);have HB1:=lh (t1.blk HBR.o (by simp));obtain⟨p0',p1',p2',y0',y1',y2'⟩:=eJ HB1.o;clear t1;go_wp2_with fail;refine aG (eD rfl _ _ w.heap.size _ _ _ _ rfl (kj HB1.o rfl _ _ _) bA rfl rfl) rfl ⟨by rw[Hv.o];rfl,HT1.o.trans (gC _ _ _ _ _) (λb hb=>.inr (by simp at hb;omega))⟩
 have hab:a≠b / 9223372036854775808:=by rw[ha,hb];split<;>split<;>omega
 have Hv:=lh (show j9 l=(10,⟨0,0,⟨#[]⟩⟩) by unfold j9;rw[ab hin]);have hq1:(a==b / 9223372036854775808)=false:=by rw[aw];exact hab
 have hq2:(a != b / 9223372036854775808)=true:=by rw[bne,hq1];rfl
 clear hin hab hSb ha hb h1 h2 h3 hbr HQ;go_wp2_with fail;refine aG (eD rfl _ _ w.heap.size _ _ _ _ rfl (kj HBR.o rfl _ _ _) bA rfl rfl) rfl ⟨by rw[Hv.o];rfl,HTW.o.trans (gC _ _ _ _ _) (λb hb=>.inr (by simp at hb;omega))⟩
end
end Go.Proofs.YtafoklilkdnepaaGreatDoor
