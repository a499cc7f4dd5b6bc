/- Part 16 of the texts of this proof, one behind the other. No condition beyond those that its theorems state. -/
import Derived.Test.YtafoklilkdnepaaGreatDoorRe15
set_option linter.all false
set_option maxRecDepth 40000
set_option maxHeartbeats 25600000
namespace Go.Proofs.YtafoklilkdnepaaGreatDoor
section
open Go.RowKit
def jF(up:Bool)(v m:VD):Prop:=if up=true then 0<eU v m else eU v m<0
instance (up:Bool) (v m:VD):Decidable (jF up v m):=by unfold jF;infer_instance
def gX(up:Bool):List VD->VD
 | []=>⟨0,0,⟨#[]⟩⟩
 |a:: r=>r.foldl (λm v=>if jF up v m then v else m) a
theorem pE(up:Bool)(l:List VD)(v:VD)(h:0<l.length):gX up (l++[v])=if jF up v (gX up l) then v else gX up l:=by
 cases l with
 |nil=>simp at h
 |cons a r =>
  show (r++[v]).foldl _ a=_
  rw[cX];rfl
theorem xa(A:Option Addr)(c n:Nat)(l:List VD)(hn:l.length=n)(h0:0<n)(hl:n<=1000000)(w:World)(h:eu w A l): Calls Tryz.prog 175 #[.slice A n c,.func (.func 112) #[] #[]] w λe w'=>e=.returned (gX false l).val/\Touch [] w w':=by
 subst hn;obtain⟨ad,b0,off0,rfl,hadd0,e0,e1,e2⟩:=h.at_ 0 h0;have hbt:gX false (l.take 1)=l[0]:=by
  cases l with
  |nil=>simp at h0
  |cons a r=>simp[gX]
 obtain⟨v0,hv0⟩:∃v,v=l[0]:=⟨_,rfl⟩;rw[<- hv0] at e0 e1 e2 hbt;obtain⟨k0,n0,s0⟩:=v0;dsimp only at e0 e1 e2;obtain⟨W,hW⟩:∃W,W=(w.alloc (.cells #[.int .i64 0,.int .i64 0,.string ⟨#[]⟩] 31)).alloc (.cells #[.int .i64 k0,.int .i64 n0,.string s0] 31):=⟨_,rfl⟩;have t0:Touch [] w W:=hW ▸ ((Touch.refl [] w).alloc _).alloc _;have hbr:W.heap[w.heap.size]?=some (.cells #[.int .i64 0,.int .i64 0,.string ⟨#[]⟩] 31 (0,0)):=hW ▸ ((Touch.refl [] (w.alloc (.cells #[.int .i64 0,.int .i64 0,.string ⟨#[]⟩] 31))).alloc (.cells #[.int .i64 k0,.int .i64 n0,.string s0] 31)).blk (ah w _) (by simp);have hbm:W.heap[w.heap.size+1]?=some (.cells #[.int .i64 k0,.int .i64 n0,.string s0] 31 (0,0)):=by have:=ah (w.alloc (.cells #[.int .i64 0,.int .i64 0,.string ⟨#[]⟩] 31)) (.cells #[.int .i64 k0,.int .i64 n0,.string s0] 31);rw[ao] at this;exact hW ▸ this
 have hWs:W.heap.size=w.heap.size+2:=by rw[hW];simp
 have hlw:∀b∈ed (some ad),b<w.heap.size:=λb hb=>Rd.lt h (by rw[iW ff 3 eO];omega) b hb;have HV:=Gb h hlw;have HT0:=Gd t0 hbr hbm hWs;have Hbt:=lh hbt;have HW:=lh hW;have hn1:((l.length:Int)<1)=False:=bi (by omega);have ta:=(Touch.refl [] w).alloc (.cells #[.int .i64 0,.int .i64 0,.string ⟨#[]⟩] 31);have e0:=ta.cell e0 (by simp);have e1:=ta.cell e1 (by simp);have e2:=ta.cell e2 (by simp);have h00:(0:Int)<(l.length:Int):=by omega
 clear hbt hv0 h t0 hbr hbm hWs hlw hW ta;go_enter Tryz.func175,Tryz.ntmps175;go_wp2_with fail;rw[<- HW.o];clear e0 e1 e2;go_loopw [6] (λi wr=>∃(k:Nat)(m:VD),1<=k/\k<=l.length/\i=.int .i64 k/\Ga (m=gX false (l.take k))/\Ga (wr.heap[w.heap.size+1]?=some (.cells #[.int .i64 m.kind,.int .i64 m.num,.string m.text] 31 (0,0)))/\Ga (Touch [w.heap.size+1] W wr)) (λi _=>l.length-(intOf i).toNat)
 case atStart=>exact⟨1,⟨k0,n0,s0⟩,by omega,by omega,rfl,lh Hbt.o.symm,lh HT0.o.2.2.1,lh (Touch.refl _ _)⟩
 case round =>
 obtain⟨k,m,hk1,hk,rfl,HM,HB,HT⟩:=hrel;have TW0:=HT0.o.1.trans HT.o (λb hb=>.inr (by simp at hb;omega));by_cases hlt:k<l.length
 ·have hval:eu wr (some ad) l:=d9.touch0 HV.o.1 TW0;obtain⟨ad',b1,off1,had',hadd1,d0,d1,d2⟩:=hval.at_ k hlt;obtain rfl:=bJ had';have htk:=au hlt;have hbs:=pE false (l.take k) l[k] (by rw[aO];omega);rw[<- htk,<- HM.o] at hbs;obtain⟨v,hv⟩:∃v,v=l[k]:=⟨_,rfl⟩;rw[<- hv] at d0 d1 d2 hbs;have hcv:=λw'=>lD v m w';obtain⟨q,hq⟩:∃q,q=eU v m:=⟨_,rfl⟩;have hbe:jF false v m ↔ q<0:=by unfold jF;rw[hq];simp
  rw[<- hq] at hcv;have Hbs:=lh hbs;have Hbe:=lh hbe;obtain⟨vk,vn,vt⟩:=v;obtain⟨mk,mn,mt⟩:=m;simp only[VD.val] at hcv;dsimp only at d0 d1 d2 HB;have Hcv:=lh hcv;obtain⟨q0,q1,q2,_,_,_⟩:=eJ HB.o;have g0:=TW.cell d0;have g1:=TW.cell d1;have g2:=TW.cell d2;have g3:=TW.cell q0;have g4:=TW.cell q1;have g5:=TW.cell q2;have HD:=Gc d0 d1 d2;have hki:(k:Int)<(l.length:Int):=by omega
  have hk0':(0:Int)<=(k:Int):=by omega
  have HTW:=lh TW0;clear hcv hbs hbe hv htk hq hval d0 d1 d2 q0 q1 q2 TW0;by_cases hc:q<0
  ·have hct:=cQ hc;have Hv:=lh (Hbs.o.trans (ae (Hbe.o.2 hc)));clear hc;go_wp2_with fail;refine eh wr (Touch.refl _ _) (by kernel_rfl) (by kernel_rfl) ?_;repeat (go_big_quiet_step (((go_at_call 112;exact Calls.tw _ (Hcv.o _)))))
   refine aS ?_;rintro _ ⟨x9,rfl⟩;have HX:=lh x9.t;have HBx:=lh (x9.t.blk HB.o (by simp));obtain⟨d0,d1,d2⟩:=HD.o;have d0:=HX.o.cell d0 (by simp);have d1:=HX.o.cell d1 (by simp);have d2:=HX.o.cell d2 (by simp);clear g0 g1 g2 g3 g4 g5;obtain⟨q0,q1,q2,z0,z1,z2⟩:=eJ HBx.o;go_wp2_with fail;go_roundw
   case rel =>refine⟨k+1,⟨vk,vn,vt⟩,by omega,by omega,by go_num,lh Hv.o.symm,lh (kj HBx.o rfl _ _ _),lh ?_⟩;exact(HT.o.trans0 HX.o).trans (gC _ _ _ _ _) (λb hb=>.inl hb)
   case measure=>simp[intOf];omega
  have hct:=bi hc;have Hv:=lh (Hbs.o.trans (ab (λh=>hc (Hbe.o.1 h))));clear hc;go_wp2_with fail;refine eh wr (Touch.refl _ _) (by kernel_rfl) (by kernel_rfl) ?_;repeat (go_big_quiet_step (((go_at_call 112;exact Calls.tw _ (Hcv.o _)))))
  refine aS ?_;rintro _ ⟨x9,rfl⟩;have HX:=lh x9.t;have HBx:=lh (x9.t.blk HB.o (by simp));clear g0 g1 g2 g3 g4 g5;go_wp2_with fail;go_roundw
  case rel=>exact⟨k+1,⟨mk,mn,mt⟩,by omega,by omega,by go_num,lh Hv.o.symm,HBx,lh (HT.o.trans0 HX.o)⟩
  case measure=>simp[intOf];omega
 obtain rfl:k=l.length:=by omega
 have hM:=HM.o;rw[aH] at hM;have HM2:=lh hM;have HTW:=lh TW0;have hbr:=HT.o.blk HT0.o.2.1 (by simp);obtain⟨q0,q1,q2,z0,z1,z2⟩:=eJ HB.o;obtain⟨p0,p1,p2,y0,y1,y2⟩:=eJ hbr;have HBR:=lh hbr;clear hM HM TW0 hbr;go_wp2_with fail;refine aG (ci rfl _ _ w.heap.size _ _ _ _ rfl (kj HBR.o rfl _ _ _) bA rfl rfl) rfl ⟨by rw[<- HM2.o];rfl,HTW.o.trans (gC _ _ _ _ _) (λb hb=>.inr (by simp at hb;omega))⟩
theorem xx(A:Option Addr)(c n:Nat)(l:List VD)(hn:l.length=n)(h0:0<n)(hl:n<=1000000)(w:World)(h:eu w A l): Calls Tryz.prog 176 #[.slice A n c,.func (.func 112) #[] #[]] w λe w'=>e=.returned (gX true l).val/\Touch [] w w':=by
 subst hn;obtain⟨ad,b0,off0,rfl,hadd0,e0,e1,e2⟩:=h.at_ 0 h0;have hbt:gX true (l.take 1)=l[0]:=by
  cases l with
  |nil=>simp at h0
  |cons a r=>simp[gX]
 obtain⟨v0,hv0⟩:∃v,v=l[0]:=⟨_,rfl⟩;rw[<- hv0] at e0 e1 e2 hbt;obtain⟨k0,n0,s0⟩:=v0;dsimp only at e0 e1 e2;obtain⟨W,hW⟩:∃W,W=(w.alloc (.cells #[.int .i64 0,.int .i64 0,.string ⟨#[]⟩] 31)).alloc (.cells #[.int .i64 k0,.int .i64 n0,.string s0] 31):=⟨_,rfl⟩;have t0:Touch [] w W:=hW ▸ ((Touch.refl [] w).alloc _).alloc _;have hbr:W.heap[w.heap.size]?=some (.cells #[.int .i64 0,.int .i64 0,.string ⟨#[]⟩] 31 (0,0)):=hW ▸ ((Touch.refl [] (w.alloc (.cells #[.int .i64 0,.int .i64 0,.string ⟨#[]⟩] 31))).alloc (.cells #[.int .i64 k0,.int .i64 n0,.string s0] 31)).blk (ah w _) (by simp);have hbm:W.heap[w.heap.size+1]?=some (.cells #[.int .i64 k0,.int .i64 n0,.string s0] 31 (0,0)):=by have:=ah (w.alloc (.cells #[.int .i64 0,.int .i64 0,.string ⟨#[]⟩] 31)) (.cells #[.int .i64 k0,.int .i64 n0,.string s0] 31);rw[ao] at this;exact hW ▸ this
 have hWs:W.heap.size=w.heap.size+2:=by rw[hW];simp
 have hlw:∀b∈ed (some ad),b<w.heap.size:=λb hb=>Rd.lt h (by rw[iW ff 3 eO];omega) b hb;have HV:=Gb h hlw;have HT0:=Gd t0 hbr hbm hWs;have Hbt:=lh hbt;have HW:=lh hW;have hn1:((l.length:Int)<1)=False:=bi (by omega);have ta:=(Touch.refl [] w).alloc (.cells #[.int .i64 0,.int .i64 0,.string ⟨#[]⟩] 31);have e0:=ta.cell e0 (by simp);have e1:=ta.cell e1 (by simp);have e2:=ta.cell e2 (by simp);have h00:(0:Int)<(l.length:Int):=by omega
 clear hbt hv0 h t0 hbr hbm hWs hlw hW ta;go_enter Tryz.func176,Tryz.ntmps176;go_wp2_with fail;rw[<- HW.o];clear e0 e1 e2;go_loopw [6] (λi wr=>∃(k:Nat)(m:VD),1<=k/\k<=l.length/\i=.int .i64 k/\Ga (m=gX true (l.take k))/\Ga (wr.heap[w.heap.size+1]?=some (.cells #[.int .i64 m.kind,.int .i64 m.num,.string m.text] 31 (0,0)))/\Ga (Touch [w.heap.size+1] W wr)) (λi _=>l.length-(intOf i).toNat)
 case atStart=>exact⟨1,⟨k0,n0,s0⟩,by omega,by omega,rfl,lh Hbt.o.symm,lh HT0.o.2.2.1,lh (Touch.refl _ _)⟩
 case round =>
 obtain⟨k,m,hk1,hk,rfl,HM,HB,HT⟩:=hrel;have TW0:=HT0.o.1.trans HT.o (λb hb=>.inr (by simp at hb;omega));by_cases hlt:k<l.length
 ·have hval:eu wr (some ad) l:=d9.touch0 HV.o.1 TW0;obtain⟨ad',b1,off1,had',hadd1,d0,d1,d2⟩:=hval.at_ k hlt;obtain rfl:=bJ had';have htk:=au hlt;have hbs:=pE true (l.take k) l[k] (by rw[aO];omega);rw[<- htk,<- HM.o] at hbs;obtain⟨v,hv⟩:∃v,v=l[k]:=⟨_,rfl⟩;rw[<- hv] at d0 d1 d2 hbs;have hcv:=λw'=>lD v m w';obtain⟨q,hq⟩:∃q,q=eU v m:=⟨_,rfl⟩;have hbe:jF true v m ↔ 0<q:=by unfold jF;rw[hq];simp
  rw[<- hq] at hcv;have Hbs:=lh hbs;have Hbe:=lh hbe;obtain⟨vk,vn,vt⟩:=v;obtain⟨mk,mn,mt⟩:=m;simp only[VD.val] at hcv;dsimp only at d0 d1 d2 HB;have Hcv:=lh hcv;obtain⟨q0,q1,q2,_,_,_⟩:=eJ HB.o;have g0:=TW.cell d0;have g1:=TW.cell d1;have g2:=TW.cell d2;have g3:=TW.cell q0;have g4:=TW.cell q1;have g5:=TW.cell q2;have HD:=Gc d0 d1 d2;have hki:(k:Int)<(l.length:Int):=by omega
  have hk0':(0:Int)<=(k:Int):=by omega
  have HTW:=lh TW0;clear hcv hbs hbe hv htk hq hval d0 d1 d2 q0 q1 q2 TW0;by_cases hc:0<q
  ·have hct:=cQ hc;have Hv:=lh (Hbs.o.trans (ae (Hbe.o.2 hc)));clear hc;go_wp2_with fail;refine eh wr (Touch.refl _ _) (by kernel_rfl) (by kernel_rfl) ?_;repeat (go_big_quiet_step (((go_at_call 112;exact Calls.tw _ (Hcv.o _)))))
   refine aS ?_;rintro _ ⟨x9,rfl⟩;have HX:=lh x9.t;have HBx:=lh (x9.t.blk HB.o (by simp));obtain⟨d0,d1,d2⟩:=HD.o;have d0:=HX.o.cell d0 (by simp);have d1:=HX.o.cell d1 (by simp);have d2:=HX.o.cell d2 (by simp);clear g0 g1 g2 g3 g4 g5;obtain⟨q0,q1,q2,z0,z1,z2⟩:=eJ HBx.o;go_wp2_with fail;go_roundw
   case rel =>refine⟨k+1,⟨vk,vn,vt⟩,by omega,by omega,by go_num,lh Hv.o.symm,lh (kj HBx.o rfl _ _ _),lh ?_⟩;exact(HT.o.trans0 HX.o).trans (gC _ _ _ _ _) (λb hb=>.inl hb)
   case measure=>simp[intOf];omega
  have hct:=bi hc;have Hv:=lh (Hbs.o.trans (ab (λh=>hc (Hbe.o.1 h))));clear hc;go_wp2_with fail;refine eh wr (Touch.refl _ _) (by kernel_rfl) (by kernel_rfl) ?_;repeat (go_big_quiet_step (((go_at_call 112;exact Calls.tw _ (Hcv.o _)))))
  refine aS ?_;rintro _ ⟨x9,rfl⟩;have HX:=lh x9.t;have HBx:=lh (x9.t.blk HB.o (by simp));clear g0 g1 g2 g3 g4 g5;go_wp2_with fail;go_roundw
  case rel=>exact⟨k+1,⟨mk,mn,mt⟩,by omega,by omega,by go_num,lh Hv.o.symm,HBx,lh (HT.o.trans0 HX.o)⟩
  case measure=>simp[intOf];omega
 obtain rfl:k=l.length:=by omega
 have hM:=HM.o;rw[aH] at hM;have HM2:=lh hM;have HTW:=lh TW0;have hbr:=HT.o.blk HT0.o.2.1 (by simp);obtain⟨q0,q1,q2,z0,z1,z2⟩:=eJ HB.o;obtain⟨p0,p1,p2,y0,y1,y2⟩:=eJ hbr;have HBR:=lh hbr;clear hM HM TW0 hbr;go_wp2_with fail;refine aG (ci rfl _ _ w.heap.size _ _ _ _ rfl (kj HBR.o rfl _ _ _) bA rfl rfl) rfl ⟨by rw[<- HM2.o];rfl,HTW.o.trans (gC _ _ _ _ _) (λb hb=>.inr (by simp at hb;omega))⟩
end
section
open Go.RowKit
theorem Ab(w:World):Calls Tryz.prog 173 #[] w λe w'=>e=.returned (.agg #[.int .i64 0,.int .i64 0,.string ⟨#[]⟩])/\Touch [] w w':=by go_enter Tryz.func173,Tryz.ntmps173;go_wp2_with fail;refine aG (ci rfl _ _ w.heap.size _ _ _ _ rfl (ah w _) bA rfl rfl) rfl ⟨rfl,(Touch.refl [] w).alloc _⟩
def jz(i:Nat)(rows:List (List VD)):List VD:=(rows.map λr=>r.getD i ⟨0,0,⟨#[]⟩⟩).filter λv=>decide (v.kind≠0)
theorem Bg(i:Nat)(rows:List (List VD))(r:List VD):jz i (rows++[r])=jz i rows++if (r.getD i ⟨0,0,⟨#[]⟩⟩).kind≠0 then [r.getD i ⟨0,0,⟨#[]⟩⟩] else []:=by
 unfold jz;rw[aT,bZ];congr 1;rw[List.map_singleton,cG,cE];by_cases h:(r.getD i ⟨0,0,⟨#[]⟩⟩).kind≠0
 ·rw[ae h,aF h];rfl
 rw[ab h,aC h];rfl
theorem oE{i:Nat}{rows:List (List VD)}{v:VD}(h:v∈jz i rows):∃r∈rows,v=r.getD i ⟨0,0,⟨#[]⟩⟩:=by obtain⟨r,hr,e⟩:=aJ.1 (bE.1 h).1;exact⟨r,hr,e.symm⟩
def i8(op:ByteArray)(l:List VD):Int × VD:=if op=iM then (0,⟨1,l.length,⟨#[]⟩⟩) else if l.length=0 then (0,⟨0,0,⟨#[]⟩⟩) else if op=iD then j9 l else (0,gX (!decide (op=gB)) l)
def eY(cs:List CD)(a:AG)(rows:List (List VD)):Int × VD:=if a.col.toList.isEmpty=true then (0,⟨1,rows.length,⟨#[]⟩⟩) else i8 a.op (jz ((ef cs a.col).getD 0) rows)
theorem Ar(op col nm:ByteArray)(h5:col.toList.isEmpty=false)(SA:Option Addr)(n c:Nat)(cs:List CD)(hn:cs.length=n)(hl:n<=1000000)(RA:Option Addr)(m rc:Nat)(rows:List (List VD))(hm:rows.length=m)(hl2:m<=1000000)(hrl:∀ r∈rows,(ef cs col).getD 0<r.length/\r.length<=1000000/\∀ v∈r,v.Ok 140737000000000)(w:World)(hcs:em w SA cs)(hrows:eW w RA rows): Calls Tryz.prog 139 #[.agg #[.string op,.string col,.string nm],.slice SA n c,.slice RA m rc] w λe w'=>e=.returned (.tuple #[(i8 op (jz ((ef cs col).getD 0) rows)).2.val,.int .i64 (i8 op (jz ((ef cs col).getD 0) rows)).1])/\Touch [] w w':=by
 subst hn hm;obtain⟨i,hi⟩:∃i,i=(ef cs col).getD 0:=⟨_,rfl⟩;obtain⟨W,hW⟩:∃W,W=(w.alloc (.cells #[.string op,.string col,.string nm] 79)).alloc (.cells #[.int .i64 0,.int .i64 0,.string ⟨#[]⟩] 31):=⟨_,rfl⟩;have t0:Touch [] w W:=hW ▸ ((Touch.refl [] w).alloc _).alloc _;have hba:W.heap[w.heap.size]?=some (.cells #[.string op,.string col,.string nm] 79 (0,0)):=hW ▸ ((Touch.refl [] (w.alloc (.cells #[.string op,.string col,.string nm] 79))).alloc (.cells #[.int .i64 0,.int .i64 0,.string ⟨#[]⟩] 31)).blk (ah w _) (by simp);have hbr:W.heap[w.heap.size+1]?=some (.cells #[.int .i64 0,.int .i64 0,.string ⟨#[]⟩] 31 (0,0)):=by have h1:=ah (w.alloc (.cells #[.string op,.string col,.string nm] 79)) (.cells #[.int .i64 0,.int .i64 0,.string ⟨#[]⟩] 31);rw[ao] at h1;exact hW ▸ h1
 have hWs:W.heap.size=w.heap.size+2:=by rw[hW];simp
 have hfa:=fS SA c cs.length cs rfl col W (hcs.touch0 t0) (by omega);rw[<- hi] at hfa hrl ⊢;obtain⟨ans,hans⟩:∃ans,ans=i8 op (jz i rows):=⟨_,rfl⟩;rw[<- hans];have HA:=lh hans;clear hans;obtain⟨bb,hbb⟩:∃b,b=(ef cs col).isSome:=⟨_,rfl⟩;rw[<- hbb] at hfa;have Hfa:=lh hfa;have HR:=Gb (hrows.touch0 t0) hrl;have HT0:=Gd t0 hba hbr hWs;have HW:=lh hW;clear hi hW t0 hba hbr hWs hfa hcs hrows hrl hbb;go_enter Tryz.func139,Tryz.ntmps139;go_wp2_with fail;rw[<- HW.o];refine Hfa.o.mono ?_;rintro e w1 ⟨rfl,t1⟩;have HT1:=lh t1;clear t1;go_wp2_with fail;go_loopw [10,28] (λo j wr=>∃(k q:Nat)(B:Option Addr)(bc:Nat),k<=rows.length/\j=.int .i64 k/\o=.slice B q bc/\Ga ((jz i (rows.take k)).length=q)/\Ga (q<=k)/\Ga (Made 31 3 ff (jz i (rows.take k)) B bc w1 wr)) (λ_ j _=>rows.length-(intOf j).toNat)
 case atStart=>exact⟨0,0,none,0,by omega,rfl,rfl,lh rfl,lh (aL _),lh (Made.nil _ _ _ _)⟩
 case round =>
 obtain⟨k,q,B,bc,hk,rfl,rfl,HQ,Hqk,HM⟩:=hrel;by_cases hlt:k<rows.length
 ·obtain⟨ad,A1,d1,rfl,e0,hv⟩:=(HR.o.1.touch0 (HT1.o.trans0 HM.o.t)).at_ k hlt;have htk:=au hlt;have hrk:=HR.o.2 _ (am hlt);obtain⟨r,hr⟩:∃r,r=rows[k]:=⟨_,rfl⟩;rw[<- hr] at e0 hv htk hrk;obtain⟨ad1,b1,o1,rfl,hadd1,c0,c1,c2⟩:=hv.at_ i hrk.1;have hsn:=Bg i (rows.take k) r;rw[<- htk] at hsn;have hgd:r.getD i ⟨0,0,⟨#[]⟩⟩=r[i]'hrk.1:=by simp[List.getD,hrk.1]
  rw[hgd] at hsn;obtain⟨v,hve⟩:∃v,v=r[i]'hrk.1:=⟨_,rfl⟩;rw[<- hve] at c0 c1 c2 hsn;obtain⟨vk,vn,vt⟩:=v;dsimp only at c0 c1 c2 hsn;have hil:=hrk.1;have hkI:(k:Int)<(rows.length:Int):=by omega
  have hiI:(i:Int)<(r.length:Int):=by omega
  have hi0:(0:Int)<=(i:Int):=by omega
  clear htk hr hv hve hgd hrk;by_cases hz:vk=0
  ·subst hz;have Hsn:=lh (hsn.trans (by rw[ab (by simp),bN]));clear hsn;go_wp2_with fail;go_roundw
   case rel=>exact⟨k+1,q,B,bc,by omega,by go_num,rfl,lh (by rw[Hsn.o];exact HQ.o),lh (by have:=Hqk.o;omega),lh (by rw[Hsn.o];exact HM.o)⟩
   case measure=>simp[intOf];omega
  have Hsn:=lh (hsn.trans (by rw[ae hz]));have hq1:(vk==0)=false:=by rw[aw];exact hz
  have hq2:(vk != 0)=true:=by rw[bne,hq1];rfl
  clear hsn hz;go_wp2_with (at_builtin;refine ez ?_);refine go ?_;have ta:=(Touch.refl [] wr).alloc (.cells #[.int .i64 vk,.int .i64 vn,.string vt] 31);refine eb (enc:=ff) rfl (.tmp 38) (.tmp 43) 33 rfl 31 _ 3 32 jI cj rfl (by omega) eO f8 B q bc _ HQ.o rfl (HM.o.touch0 ta).own
   (some ⟨wr.heap.size,0,none⟩) 1 1 [⟨vk,vn,vt⟩] rfl rfl (d9.one (enc:=ff) wr 31 ⟨vk,vn,vt⟩ _ rfl) (by have:=Hqk.o;omega) (by have:=Hqk.o;omega) ?_
  intro A' c' w' hown ht hf;have HX:=lh ((HM.o.touch0 ta).step hown ht hf);clear hown ht hf ta;go_wp2_with fail;go_roundw
  case rel=>exact⟨k+1,q+1,A',c',by omega,by go_num,rfl,lh (by rw[Hsn.o,az,HQ.o];rfl),lh (by have:=Hqk.o;omega),lh (by rw[Hsn.o];exact HX.o)⟩
  case measure=>simp[intOf];omega
 obtain rfl:k=rows.length:=by omega
 have hq:=HQ.o;have hm:=HM.o;rw[aH] at hq hm;have HM2:=lh hm;have HQ2:=lh hq;have HOK:=lh (show ∀v∈jz i rows,v.Ok 140737000000000 from λv hv=>by
  obtain⟨r,hr,rfl⟩:=oE hv;have h1:=HR.o.2 r hr;have:r.getD i ⟨0,0,⟨#[]⟩⟩=r[i]'h1.1:=by simp[List.getD,h1.1]
  rw[this];exact h1.2.2 _ (am _))
 obtain⟨L,hL⟩:∃L,L=jz i rows:=⟨_,rfl⟩;have ha:=HA.o;rw[<- hL] at HM2 HQ2 HOK ha;have HA2:=lh ha;clear ha HA;have HTW:=lh (HT0.o.1.trans0 (HT1.o.trans0 HM2.o.t));have HTV:=lh (HT1.o.trans0 HM2.o.t);have HAB:=lh (HTV.o.blk HT0.o.2.1 (by simp));have HRB:=lh (HTV.o.blk HT0.o.2.2.1 (by simp));have hqb:=Hqk.o;obtain⟨a0,a1,a2,_,_,_⟩:=eJ HAB.o;clear hq hm hL HM HQ;by_cases hC:op=iM
 ·have zC:(op.toList==[99,111,117,110,116])=true:=by rw[eK op [99,111,117,110,116] iM rfl];exact aF hC
  have HC:=lh hC;clear hC;have Hv:=lh (show i8 op L=(0,⟨1,q,⟨#[]⟩⟩) by unfold i8;rw[ae HC.o,HQ2.o]);go_wp2_with fail;refine(rS q _).mono ?_;rintro e w2 ⟨rfl,t2⟩;have HB1:=lh (t2.blk HRB.o (by simp));have HT9:=lh (HTW.o.trans0 t2);obtain⟨p0,p1,p2,y0,y1,y2⟩:=eJ HB1.o;clear t2;go_wp2_with fail;refine aG (eD rfl _ _ (w.heap.size+1) _ _ _ _ rfl (kj HB1.o rfl _ _ _) bA rfl rfl) rfl ⟨by rw[HA2.o,Hv.o];rfl,HT9.o.trans (gC _ _ _ _ _) (λb hb=>.inr (by simp at hb;omega))⟩
 have zC:(op.toList==[99,111,117,110,116])=false:=by rw[eK op [99,111,117,110,116] iM rfl];exact aC hC
 have HC:=lh hC;clear hC;by_cases hq0:q=0
 ·subst hq0;have Hv:=lh (show i8 op L=(0,⟨0,0,⟨#[]⟩⟩) by unfold i8;rw[ab HC.o,ae HQ2.o]);go_wp2_with fail;refine(Ab _).mono ?_;rintro e w2 ⟨rfl,t2⟩;have HB1:=lh (t2.blk HRB.o (by simp));have HT9:=lh (HTW.o.trans0 t2);obtain⟨p0,p1,p2,y0,y1,y2⟩:=eJ HB1.o;clear t2;go_wp2_with fail;refine aG (eD rfl _ _ (w.heap.size+1) _ _ _ _ rfl (kj HB1.o rfl _ _ _) bA rfl rfl) rfl ⟨by rw[HA2.o,Hv.o];rfl,HT9.o.trans (gC _ _ _ _ _) (λb hb=>.inr (by simp at hb;omega))⟩
 have hqz:((q:Int)==0)=false:=by rw[aw];omega
 by_cases hS:op=iD
 ·have zS:(op.toList==[115,117,109])=true:=by rw[eK op [115,117,109] iD rfl];exact aF hS
  have HS:=lh hS;clear hS;have hsum:=Fc B bc q L HQ2.o (by omega) HOK.o wr HM2.o.own.rd;have hv0:i8 op L=j9 L:=by unfold i8;rw[ab HC.o,ab (by rw[HQ2.o];exact hq0),ae HS.o]
  obtain⟨sv,hsv⟩:∃sv,sv=j9 L:=⟨_,rfl⟩;rw[<- hsv] at hsum hv0;obtain⟨er,v⟩:=sv;obtain⟨vk,vn,vt⟩:=v;simp only[VD.val] at hsum;have Hsum:=lh hsum;clear hsv hsum;have Hv:=lh (show i8 op L=(er,⟨vk,vn,vt⟩) from hv0);go_wp2_with fail;refine Hsum.o.mono ?_;rintro e w2 ⟨rfl,t2⟩;have HB1:=lh (t2.blk HRB.o (by simp));have HT9:=lh (HTW.o.trans0 t2);obtain⟨p0,p1,p2,y0,y1,y2⟩:=eJ HB1.o;clear t2;go_wp2_with fail;refine aG (eD rfl _ _ (w.heap.size+1) _ _ _ _ rfl (kj HB1.o rfl _ _ _) bA rfl rfl) rfl ⟨by rw[HA2.o,Hv.o];rfl,HT9.o.trans (gC _ _ _ _ _) (λb hb=>.inr (by simp at hb;omega))⟩
 have zS:(op.toList==[115,117,109])=false:=by rw[eK op [115,117,109] iD rfl];exact aC hS
 have HS:=lh hS;clear hS;by_cases hM:op=gB
 ·have zM:(op.toList==[109,105,110])=true:=by rw[eK op [109,105,110] gB rfl];exact aF hM
  have HM:=lh hM;clear hM;have hmin:=xa B bc q L HQ2.o (by omega) (by omega) wr HM2.o.own.rd;obtain⟨v,hv⟩:∃v,v=gX false L:=⟨_,rfl⟩;rw[<- hv] at hmin;obtain⟨vk,vn,vt⟩:=v;simp only[VD.val] at hmin;have Hmin:=lh hmin;clear hmin;have Hv:=lh (show i8 op L=(0,⟨vk,vn,vt⟩) by unfold i8;rw[ab HC.o,ab (by rw[HQ2.o];exact hq0),ab HS.o,aF HM.o,Bool.not_true,<- hv]);go_wp2_with fail;refine Hmin.o.mono ?_;rintro e w2 ⟨rfl,t2⟩;have HB1:=lh (t2.blk HRB.o (by simp));have HT9:=lh (HTW.o.trans0 t2);obtain⟨p0,p1,p2,y0,y1,y2⟩:=eJ HB1.o;clear t2;go_wp2_with fail;refine aG (eD rfl _ _ (w.heap.size+1) _ _ _ _ rfl (kj HB1.o rfl _ _ _) bA rfl rfl) rfl ⟨by rw[HA2.o,Hv.o];rfl,HT9.o.trans (gC _ _ _ _ _) (λb hb=>.inr (by simp at hb;omega))⟩
 have zM:(op.toList==[109,105,110])=false:=by rw[eK op [109,105,110] gB rfl];exact aC hM
 have HM:=lh hM;clear hM;have hmin:=xx B bc q L HQ2.o (by omega) (by omega) wr HM2.o.own.rd;obtain⟨v,hv⟩:∃v,v=gX true L:=⟨_,rfl⟩;rw[<- hv] at hmin;obtain⟨vk,vn,vt⟩:=v;simp only[VD.val] at hmin;have Hmin:=lh hmin;clear hmin;have Hv:=lh (show i8 op L=(0,⟨vk,vn,vt⟩) by unfold i8;rw[ab HC.o,ab (by rw[HQ2.o];exact hq0),ab HS.o,aC HM.o,Bool.not_false,<- hv]);go_wp2_with fail;refine Hmin.o.mono ?_;rintro e w2 ⟨rfl,t2⟩;have HB1:=lh (t2.blk HRB.o (by simp));have HT9:=lh (HTW.o.trans0 t2);obtain⟨p0,p1,p2,y0,y1,y2⟩:=eJ HB1.o;clear t2;go_wp2_with fail;refine aG (eD rfl _ _ (w.heap.size+1) _ _ _ _ rfl (kj HB1.o rfl _ _ _) bA rfl rfl) rfl ⟨by rw[HA2.o,Hv.o];rfl,HT9.o.trans (gC _ _ _ _ _) (λb hb=>.inr (by simp at hb;omega))⟩
theorem z_(a:AG)(SA:Option Addr)(n c:Nat)(cs:List CD)(hn:cs.length=n)(hl:n<=1000000)(RA:Option Addr)(m rc:Nat)(rows:List (List VD))(hm:rows.length=m)(hl2:m<=1000000)(hrl:a.col.toList.isEmpty=false->∀ r∈rows,(ef cs a.col).getD 0<r.length/\r.length<=1000000/\∀ v∈r,v.Ok 140737000000000)(w:World)(hcs:em w SA cs)(hrows:eW w RA rows): Calls Tryz.prog 139 #[.agg #[.string a.op,.string a.col,.string a.name],.slice SA n c,.slice RA m rc] w λe w'=>e=.returned (.tuple #[(eY cs a rows).2.val,.int .i64 (eY cs a rows).1])/\Touch [] w w':=by
 unfold eY;rcases Bool.eq_false_or_eq_true a.col.toList.isEmpty with h|h
 ·rw[ae h,hm];exact x_ a.op a.col a.name h SA n c RA m rc hl2 w
 rw[ab (by rw[h];simp)];exact Ar a.op a.col a.name h SA n c cs hn hl RA m rc rows hm hl2 (hrl h) w hcs hrows
end
section
open Go.RowKit Go.Maps Go.ChangeMaps
def ju(_:Nat):Bool:=true
def ie(key:Nat->List UInt8)(k:Nat):List Nat:=(List.range k).filter λi=>decide (∀j,j<i->key j≠key i)
theorem BE{key:Nat->List UInt8}{k:Nat}{es:List EN}(h:IdxIs ju key k es){e:EN}(he:e∈es)(hk:e.key=key k):ie key (k+1)=ie key k:=by
 unfold ie;rw[dg,bZ];have hne:=h.some e he;rw[h.ix e he] at hne;obtain⟨j,hj⟩:=List.exists_mem_of_ne_nil _ hne;obtain⟨h1,h2⟩:=bE.1 hj;have hjk:=a_.1 h1;have hjy:key j=e.key:=by simpa [ju] using h2
 rw[cG,ab (by rw[bF];exact λq=>q j hjk (hjy.trans hk)),cE,bN]
theorem Bi{key:Nat->List UInt8}{k:Nat}{es:List EN}(h:IdxIs ju key k es)(hn:∀ e∈es,e.key≠key k):ie key (k+1)=ie key k++[k]:=by unfold ie;rw[dg,bZ];congr 1;rw[cG,ae,cE];rw[bF];intro j hj hkk;obtain⟨e,he,hy⟩:=h.all j hj rfl;exact hn e he (hy.trans hkk)
theorem Ct(key:Nat->List UInt8)(k:Nat):(ie key k).length<=k:=by have:=bP (λi=>decide (∀j,j<i->key j≠key i)) (List.range k);rw[cH] at this;exact this
theorem q_{key:Nat->List UInt8}{k i:Nat}(h:i∈ie key k):i<k:=a_.1 (bE.1 h).1
def iB(rows:List (List VD))(at_:List Nat)(k:Nat):List (List VD):=(ie (eF rows at_) k).map λi=>eE (rows.getD i []) at_
theorem xR(rows:List (List VD))(at_:List Nat)(k:Nat):(iB rows at_ k).length<=k:=by unfold iB;rw[ay];exact Ct _ _
def kX(rows:List (List VD))(at_:List Nat)(K:List UInt8):List (List VD):=(iG ju (eF rows at_) rows.length K).map λi=>rows.getD i []
theorem ri{rows:List (List VD)}{at_:List Nat}{K:List UInt8}{r:List VD}(h:r∈kX rows at_ K):r∈rows:=by obtain⟨i,hi,rfl⟩:=aJ.1 h;have:=sR i hi;simp[List.getD,this]
theorem xD(rows:List (List VD))(at_:List Nat)(K:List UInt8):(kX rows at_ K).length<=rows.length:=by unfold kX;rw[ay];unfold iG;refine bm (bP _ _) ?_;rw[cH];exact aL _
def gY(nn:Nat)(rows:List (List VD))(at_:List Nat):List (List VD):=if nn=0/\iB rows at_ rows.length=[] then [[]] else iB rows at_ rows.length
theorem uX{nn n:Nat}{rows:List (List VD)}{at_:List Nat}(hr:∀ r∈rows,r.length=n)(hat:∀ i∈at_,i<n){K:List VD}(h:K∈gY nn rows at_):K.length<=at_.length/\∀v∈K,∃r∈rows,v∈r:=by
 have key:K∈iB rows at_ rows.length->K.length<=at_.length/\∀v∈K,∃r∈rows,v∈r:=λhk=>by
  obtain⟨i,hi,rfl⟩:=aJ.1 hk;have hil:=q_ hi;have e:rows.getD i []=rows[i]:=by simp[List.getD,hil]
  rw[e];refine⟨by unfold eE;rw[ay];exact aL _,λv hv=>⟨_,am hil, ?_⟩⟩;exact mQ (λj hj=>by rw[hr _ (am hil)];exact hat j hj) v hv
 unfold gY at h;split at h
 ·rw[aI.1 h];exact⟨aY _,by simp⟩
 exact key h
def oF(cs:List CD)(aggs:List AG)(rows:List (List VD))(at_:List Nat)(K:List VD):List (Int × VD):=aggs.map λa=>eY cs a (kX rows at_ (fY K))
def jg(cs:List CD)(aggs:List AG)(rows:List (List VD))(at_:List Nat)(K:List VD):Int:=fH (fun x:Int × VD=>x.1) (oF cs aggs rows at_ K)
def kA(cs:List CD)(aggs:List AG)(rows:List (List VD))(at_:List Nat)(K:List VD):List VD:=K++(oF cs aggs rows at_ K).map (·.2)
def li(cs:List CD)(names:List ByteArray)(aggs:List AG)(rows:List (List VD)):Int × List (List VD):=
 if fH (jg cs aggs rows (ea cs names)) (fF (gY names.length rows (ea cs names)))=0 then (0,(fF (gY names.length rows (ea cs names))).map (kA cs aggs rows (ea cs names)))
 else (fH (jg cs aggs rows (ea cs names)) (fF (gY names.length rows (ea cs names))),[])
theorem IdxAt.touch{sl:List SL}{g0:Nat}{w w':World}{b:Nat}{es:List EN}{fp:List Nat}(h:IdxAt sl g0 w b es)(ht:Touch fp w w')(hb:b∉fp)(he:∀ e∈es,∀ a∈ed e.A,a∉fp):IdxAt sl g0 w' b es:=
 ⟨h.mp.touch ht hb,λe he'=>(h.own e he').touch ht (he e he'),h.low,h.apart,h.base⟩
structure OrdAt (w:World) (g0:Nat) (B:Option Addr) (c:Nat) (ks:List (List VD)) (es:List EN) (sl:List SL):Prop where
 sls:fX w sl ks
 own:ep 33 1 eT w B c sl
 b0:∀x∈ed B,g0<x/\∀e∈es,x∉ed e.A
 s0:∀s∈sl,∀x∈ed s.A,g0<x/\x<w.heap.size/\x∉ed B/\∀e∈es,x∉ed e.A
theorem OrdAt.nil(w:World)(g0:Nat):OrdAt w g0 none 0 [] [] []:=⟨⟨rfl,λi h=>absurd h (by simp)⟩,ep.nil _ _ _ _,by simp[ed],by simp⟩
theorem OrdAt.touch0{w w':World}{g0:Nat}{B:Option Addr}{c:Nat}{ks:List (List VD)}{es:List EN}{sl:List SL}(h:OrdAt w g0 B c ks es sl)(t:Touch [] w w'):OrdAt w' g0 B c ks es sl:=
 ⟨h.sls.touch t (by simp),h.own.touch0 t,h.b0,λs hs x hx=>by obtain⟨h1,h2,h3,h4⟩:=h.s0 s hs x hx;exact⟨h1,bW h2 t.size,h3,h4⟩⟩
theorem OrdAt.turn{w w1 w':World}{g0:Nat}{B:Option Addr}{c:Nat}{ks:List (List VD)}{es es':List EN}{sl:List SL}{fp:List Nat}(h:OrdAt w g0 B c ks es sl)(t:Touch fp w w1)(t2:Touch [g0] w1 w')(hfp:∀ x∈fp,∃ e∈es,x∈ed e.A) (hes:∀e∈es',∀x∈ed e.A,(∃e0∈es,x∈ed e0.A)\/w.heap.size<=x):OrdAt w' g0 B c ks es' sl:=by
 have hBlt:=h.own.lt;have hne:∀x,g0<x->x∉[g0]:=λx hx hm=>by simp at hm;omega
 refine⟨(h.sls.touch t (λs hs x hx hm=> ?_)).touch t2 (λs hs x hx=>hne x (h.s0 s hs x hx).1),(h.own.touch t (λx hx hm=> ?_)).touch t2 (λx hx=>hne x (h.b0 x hx).1),λx hx=>⟨(h.b0 x hx).1,λe he hm=> ?_⟩,λs hs x hx=> ?_⟩
 ·obtain⟨e,he,hxe⟩:=hfp x hm;exact(h.s0 s hs x hx).2.2.2 e he hxe
 ·obtain⟨e,he,hxe⟩:=hfp x hm;exact(h.b0 x hx).2 e he hxe
 ·rcases hes e he x hm with ⟨e0,he0,q⟩ | q
  ·exact(h.b0 x hx).2 e0 he0 q
  have:=hBlt x hx;omega
 obtain⟨h1,h2,h3,h4⟩:=h.s0 s hs x hx;refine⟨h1,by have:=t.size;have:=t2.size;omega,h3,λe he hm=> ?_⟩;rcases hes e he x hm with ⟨e0,he0,q⟩|q
 ·exact h4 e0 he0 q
 omega
theorem OrdAt.snoc{w w':World}{g0:Nat}{B B':Option Addr}{c c':Nat}{ks:List (List VD)}{es:List EN}{sl:List SL}(h:OrdAt w g0 B c ks es sl)(s:SL)(K:List VD)(hn:s.n=K.length)(hv:eu w s.A K)(hs:∀ x∈ed s.A,g0<x/\x<w.heap.size/\x∉ed B/\∀ e∈es,x∉ed e.A) (hlt:∀e∈es,∀x∈ed e.A,x<w.heap.size) (hg:g0<w.heap.size) (hown:ep 33 1 eT w' B' c' (sl++[s])) (t:Touch (ed B) w w') (hf:∀x∈ed B',x∈ed B\/w.heap.size<=x):OrdAt w' g0 B' c' (ks++[K]) es (sl++[s]):=by
 have hl:=h.sls.1;refine⟨⟨by rw[az,az,hl];rfl,λi a b=> ?_⟩,hown,λx hx=> ?_,λs' hs' x hx=> ?_⟩
 ·by_cases hi:i<sl.length
  ·have hi2:i<ks.length:=by rw[<- hl];exact hi
   rw[bH hi,bH hi2];have:=h.sls.2 i hi hi2;exact⟨this.1,d9.touch this.2 t (λx hx=>(h.s0 _ (am hi) x hx).2.2.1)⟩
  have hi':i=sl.length:=by rw[az] at a;simp at a;omega
  subst hi';have e1:(sl++[s])[sl.length]=s:=by rw[bM (aL _)];simp
  have e2:(ks++[K])[sl.length]=K:=by rw[bM (by rw[hl];exact aL _)];simp[hl]
  rw[e1,e2];exact⟨hn,d9.touch hv t (λx hx=>(hs x hx).2.2.1)⟩
 ·rcases hf x hx with q | q
  ·exact h.b0 x q
  exact⟨by omega,λe he hm=>by have:=hlt e he x hm;omega⟩
 have key:g0<x/\x<w.heap.size/\x∉ed B/\∀e∈es,x∉ed e.A:=by
  rcases aZ.1 hs' with q|q
  ·exact h.s0 s' q x hx
  rw[aI.1 q] at hx;exact hs x hx
 refine⟨key.1,bW key.2.1 t.size,λhm=> ?_,key.2.2.2⟩;rcases hf x hm with q|q
 ·exact key.2.2.1 q
 have:=key.2.1;omega
end
section
open Go.RowKit
structure Grew (w w':World):Prop where
 t:Touch [] w w'
 d:w.drawn<=w'.drawn
theorem Grew.refl(w:World):Grew w w:=⟨Touch.refl _ _,aL _⟩
theorem Grew.trans{w w1 w2:World}(h:Grew w w1)(k:Grew w1 w2):Grew w w2:=⟨h.t.trans0 k.t,bm h.d k.d⟩
theorem Grew.alloc{w w1:World}(h:Grew w w1)(o:Obj):Grew w (w1.alloc o):=⟨h.t.alloc o,by rw[World.drawn_alloc];exact h.d⟩
theorem Grew.drew{w w1:World}(h:Grew w w1):Grew w w1.drew:=⟨h.t.drew,by rw[World.drawn_drew];have:=h.d;omega⟩
theorem Grew.form{w w':World}(h:Grew w w'):∃q os,w'=Go.Sort.grow (w.drewN q) os:=by
 refine⟨w'.drawn-w.drawn,w'.heap.extract w.heap.size w'.heap.size, ?_⟩;have hd:=h.d;obtain⟨t,_⟩:=h;have h1:=t.os;have h2:=t.tape;have h3:=t.output;have h4:w'.heap=w.heap++w'.heap.extract w.heap.size w'.heap.size:=by
  apply Array.ext
  ·rw[de,Array.size_extract];have:=t.size;omega
  intro i hi1 hi2;by_cases hi:i<w.heap.size
  ·rw[Array.getElem_append_left hi];have:=t.block i hi (by simp);rw[Array.getElem?_eq_getElem hi1,Array.getElem?_eq_getElem hi] at this;exact bJ this
  rw[Array.getElem_append_right (by omega),Array.getElem_extract];congr 1;omega
 cases w;cases w';simp only[Go.Sort.grow,World.drewN] at *;subst h1 h2 h3;congr 1;omega
theorem xl(a b:VD)(w:World): Calls Tryz.prog 112 #[a.val,b.val] w λe w'=>e=.returned (.int .i64 (eU a b))/\Grew w w':=by
 obtain⟨k1,n1,s1⟩:=a;obtain⟨k2,n2,s2⟩:=b;have h1:=λw'=>Tryz.cmp_Compare_int k1 k2 w';have h2:=λw'=>Tryz.cmp_Compare_int n1 n2 w';have h3:=λw'=>Tryz.strings_Compare s1 s2 w';have hc:eU ⟨k1,n1,s1⟩ ⟨k2,n2,s2⟩=jR [Lib.compareInt k1 k2,Lib.compareInt n1 n2,Lib.compareBytes s1.data.toList s2.data.toList]:=rfl;rw[hc];obtain⟨x,hx⟩:∃x,x=Lib.compareInt k1 k2:=⟨_,rfl⟩;obtain⟨y,hy⟩:∃y,y=Lib.compareInt n1 n2:=⟨_,rfl⟩;obtain⟨z,hz⟩:∃z,z=Lib.compareBytes s1.data.toList s2.data.toList:=⟨_,rfl⟩;rw[<- hx,<- hy,<- hz];rw[<- hx] at h1;rw[<- hy] at h2;rw[<- hz] at h3;have H1:=lh h1;have H2:=lh h2;have H3:=lh h3;have t0:=(((Grew.refl w).alloc (.cells #[.int .i64 k1,.int .i64 n1,.string s1] 31)).alloc (.cells #[.int .i64 k2,.int .i64 n2,.string s2] 31));clear h1 h2 h3 hx hy hz hc;dsimp only[VD.val];go_enter Tryz.func112,Tryz.ntmps112;go_wp2_with fail;refine nV 15 (by kernel_rfl) (by kernel_rfl) ?_;intro w2 hw2;have ta:=(((Touch.refl [] (w.alloc (.cells #[.int .i64 k1,.int .i64 n1,.string s1] 31))).alloc (.cells #[.int .i64 k2,.int .i64 n2,.string s2] 31))).drew;have tb:=((Touch.refl [] ((w.alloc (.cells #[.int .i64 k1,.int .i64 n1,.string s1] 31)).alloc (.cells #[.int .i64 k2,.int .i64 n2,.string s2] 31)))).drew;have t2:=t0.drew;rw[<- hw2] at ta tb t2;have hb1:=ah w (.cells #[.int .i64 k1,.int .i64 n1,.string s1] 31);have hb2:=ah (w.alloc (.cells #[.int .i64 k1,.int .i64 n1,.string s1] 31)) (.cells #[.int .i64 k2,.int .i64 n2,.string s2] 31)
 rw[ao] at hb2;have e0:=ta.cell (d_ hb1 (i:=0) rfl) (by simp);have e1:=ta.cell (d_ hb1 (i:=1) rfl) (by simp);have e2:=ta.cell (d_ hb1 (i:=2) rfl) (by simp);have f0:=tb.cell (d_ hb2 (i:=0) rfl) (by simp);have f1:=tb.cell (d_ hb2 (i:=1) rfl) (by simp);have f2:=tb.cell (d_ hb2 (i:=2) rfl) (by simp);clear hb1 hb2 ta tb t0 hw2;simp only[List.take_succ_cons,List.take_zero,List.drop_succ_cons,List.drop_zero];repeat still_step
 still_call (H1.o _)
 repeat still_step
 still_call (H2.o _)
 repeat still_step
 still_call (H3.o _)
 refine wpStill_nil ?_;have r3:d9 inE (w2.alloc (.cells #[.int .i64 x,.int .i64 y,.int .i64 z] 3)) (some ⟨w2.heap.size,0,none⟩) [x,y,z]:=d9.row w2 3 [x,y,z] _ rfl;go_wp2_with fail;refine(BF _ 3 3 [x,y,z] rfl _ r3 (by omega)).mono ?_;rintro e w3 ⟨rfl,rfl⟩;go_wp2;go_ret;exact⟨rfl,t2.alloc _⟩
theorem re(A B:Option Addr)(c1 c2 n m:Nat)(l r:List VD)(hn:l.length=n)(hm:r.length=m)(w:World)(h:eu w A l)(h2:eu w B r)(hl:n<=140737000000000)(hl2:m<=140737000000000): Calls Tryz.prog 111 #[.slice A n c1,.slice B m c2,.func (.func 112) #[] #[]] w λe w'=>e=.returned (.int .i64 (ej l r))/\Grew w w':=by
 subst hn hm;go_enter Tryz.func111,Tryz.ntmps111;go_wp2;go_loopw [13] (λi wr=>∃k:Nat,k<=l.length/\k<=r.length/\i=.int .i64 k/\Ga (ej l r=ej (l.drop k) (r.drop k))/\Grew w wr) (λi _=>l.length-(intOf i).toNat)
 case atStart=>exact⟨0,by omega,by omega,rfl,lh rfl,Grew.refl _⟩
 case round =>
 obtain⟨k,hka,hkb,rfl,Ho,ht⟩:=hrel;by_cases h1:k<l.length
 ·obtain⟨ad,b,off,rfl,hadd,c0,c1,c2⟩:=(h.touch0 ht.t).at_ k h1;by_cases h2':k<r.length
  ·obtain⟨bd,b2,off2,rfl,hadd2,d0,d1,d2⟩:=(h2.touch0 ht.t).at_ k h2';have hst:=oI h1 h2';obtain⟨x,hx⟩:∃x,x=l[k]:=⟨_,rfl⟩;obtain⟨y,hy⟩:∃y,y=r[k]:=⟨_,rfl⟩;rw[<- hx,<- hy] at hst;rw[<- hx] at c0 c1 c2;rw[<- hy] at d0 d1 d2;obtain⟨k1,n1,s1⟩:=x;obtain⟨k2,n2,s2⟩:=y;simp only at c0 c1 c2 d0 d1 d2;have hcv:=λw'=>xl ⟨k1,n1,s1⟩ ⟨k2,n2,s2⟩ w';simp only[VD.val] at hcv;obtain⟨q,hq⟩:∃q,q=eU ⟨k1,n1,s1⟩ ⟨k2,n2,s2⟩:=⟨_,rfl⟩;rw[<- hq] at hst hcv;have Hcv:=lh hcv;have Hst:=lh hst;have ta:=((Touch.refl [] wr).alloc (.cells #[.int .i64 k1,.int .i64 n1,.string s1] 31));have e0:=ta.cell d0 (by simp);have e1:=ta.cell d1 (by simp);have e2:=ta.cell d2 (by simp);have hkI:(k:Int)<(r.length:Int):=by omega
   have h0I:(0:Int)<=(k:Int):=by omega
   clear hst hcv hx hy hq d0 d1 d2 ta;have tb:=(ht.alloc (.cells #[.int .i64 k1,.int .i64 n1,.string s1] 31)).alloc (.cells #[.int .i64 k2,.int .i64 n2,.string s2] 31);by_cases h0:q=0
   ·subst h0;have Hq:=lh (show ej l r=ej (l.drop (k+1)) (r.drop (k+1)) by rw[Ho.o,Hst.o,ae rfl]);go_wp2_with fail;refine(Hcv.o _).mono ?_;rintro e w1 ⟨rfl,t1⟩;go_wp2;go_roundw
    case rel=>exact⟨k+1,by omega,by omega,by go_num,Hq,tb.trans t1⟩
    case measure=>simp[intOf];omega
   have Hq:=lh (show ej l r=q by rw[Ho.o,Hst.o,ab h0]);have hq:(q==0)=false:=by rw[aw];exact h0
   have hq':(q != 0)=true:=by rw[bne,hq];rfl
   go_wp2_with fail;refine(Hcv.o _).mono ?_;rintro e w1 ⟨rfl,t1⟩;go_wp2;go_ret;exact⟨ew Hq.o.symm,tb.trans t1⟩
  have hE:=l9 (l.drop k) (r.drop k) (.inr (b_ (by omega)));rw[cF,cF] at hE;have Hq:=lh (show ej l r=1 by rw[Ho.o,hE,ab (by omega),ae (by omega)]);obtain⟨x,hx⟩:∃x,x=l[k]:=⟨_,rfl⟩;rw[<- hx] at c0 c1 c2;obtain rfl:k=r.length:=by omega
  clear hE hx Ho;go_wp2;go_ret;exact⟨ew Hq.o.symm,ht.alloc _⟩
 have hE:=l9 (l.drop k) (r.drop k) (.inl (b_ (by omega)));rw[cF,cF] at hE;have HE:=lh hE;clear hE;obtain rfl:k=l.length:=by omega
 by_cases hq:l.length<r.length
 ·have Hq:=lh (show ej l r = -1 by rw[Ho.o,HE.o,ae (by omega)]);have hqI:(l.length:Int)<(r.length:Int):=by omega
  clear HE Ho;go_wp2;go_ret;exact⟨ew Hq.o.symm,ht⟩
 have Hq:=lh (show ej l r=0 by rw[Ho.o,HE.o,ab (by omega),ab (by omega)]);have hqI:¬(l.length:Int)<(r.length:Int):=by omega
 clear HE Ho;go_wp2;go_ret;exact⟨ew Hq.o.symm,ht⟩
theorem wD(A B:Option Addr)(c1 c2 n m:Nat)(l r:List VD)(hn:l.length=n)(hm:r.length=m)(w:World)(h:eu w A l)(h2:eu w B r)(hl:n<=140737000000000)(hl2:m<=140737000000000): Calls Tryz.prog 81 #[.slice A n c1,.slice B m c2] w λe w'=>e=.returned (.int .i64 (ej l r))/\Grew w w':=by have hcf:=re A B c1 c2 n m l r hn hm w h h2 hl hl2;have Hcf:=lh hcf;clear hcf;go_enter Tryz.func81,Tryz.ntmps81;go_wp2_with fail;refine Hcf.o.mono ?_;rintro e w1 ⟨rfl,t1⟩;go_wp2;go_ret;exact⟨rfl,t1⟩
end
end Go.Proofs.YtafoklilkdnepaaGreatDoor
namespace Go.Proofs
open Go.Shelf
def Tryz.layPdqR_ren : Go.Shelf.Ren := ⟨fun | 14 => 172 | 20 => 177 | 21 => 195 | 22 => 196 | 23 => 197 | 24 => 198 | 25 => 199 | 26 => 200 | 27 => 201 | 46 => 208 | 47 => 159 | 48 => 160 | 49 => 209 | 50 => 210 | 15 => 85 | 57 => 214 | 28 => 124 | 29 => 125 | n => n, fun | 24 => 33 | 22 => 25 | 3 => 3 | 25 => 143 | 4 => 4 | 0 => 0 | 46 => 175 | 45 => 174 | 50 => 137 | 66 => 216 | 39 => 149 | 55 => 184 | 70 => 220 | 76 => 245 | 77 => 246 | 53 => 182 | 5 => 5 | 9 => 9 | n => n, fun | n => n⟩
theorem Tryz.layPdqR : Go.Proofs.SlLaysF.n14 Tryz.prog Tryz.layPdqR_ren := {
 mixed := by kernel_rfl
 f14 := ⟨Tryz.f172.name, by decide, Tryz.func172.trans (congrArg some (by kernel_rfl))⟩
 f15 := Tryz.func85.trans (congrArg some (by kernel_rfl))
 f20 := ⟨Tryz.f177.name, by decide, Tryz.func177.trans (congrArg some (by kernel_rfl))⟩
 f21 := ⟨Tryz.f195.name, by decide, Tryz.func195.trans (congrArg some (by kernel_rfl))⟩
 f22 := ⟨Tryz.f196.name, by decide, Tryz.func196.trans (congrArg some (by kernel_rfl))⟩
 f23 := ⟨Tryz.f197.name, by decide, Tryz.func197.trans (congrArg some (by kernel_rfl))⟩
 f24 := ⟨Tryz.f198.name, by decide, Tryz.func198.trans (congrArg some (by kernel_rfl))⟩
 f25 := ⟨Tryz.f199.name, by decide, Tryz.func199.trans (congrArg some (by kernel_rfl))⟩
 f26 := ⟨Tryz.f200.name, by decide, Tryz.func200.trans (congrArg some (by kernel_rfl))⟩
 f27 := ⟨Tryz.f201.name, by decide, Tryz.func201.trans (congrArg some (by kernel_rfl))⟩
 f28 := Tryz.func124.trans (congrArg some (by kernel_rfl))
 f29 := Tryz.func125.trans (congrArg some (by kernel_rfl))
 f46 := ⟨Tryz.f208.name, by decide, Tryz.func208.trans (congrArg some (by kernel_rfl))⟩
 f47 := Tryz.func159.trans (congrArg some (by kernel_rfl))
 f48 := Tryz.func160.trans (congrArg some (by kernel_rfl))
 f49 := ⟨Tryz.f209.name, by decide, Tryz.func209.trans (congrArg some (by kernel_rfl))⟩
 f50 := ⟨Tryz.f210.name, by decide, Tryz.func210.trans (congrArg some (by kernel_rfl))⟩
 f57 := ⟨Tryz.f214.name, by decide, Tryz.func214.trans (congrArg some (by kernel_rfl))⟩
 t0 := Tryz.underlying0
 a0 := Tryz.isAgg0
 z0 := Tryz.sizeOf0
 v0 := Tryz.zeroValue0
 t3 := Tryz.underlying3
 a3 := Tryz.isAgg3
 z3 := Tryz.sizeOf3
 v3 := Tryz.zeroValue3
 t4 := Tryz.underlying4
 a4 := Tryz.isAgg4
 z4 := Tryz.sizeOf4
 v4 := Tryz.zeroValue4
 t5 := Tryz.underlying5
 a5 := Tryz.isAgg5
 z5 := Tryz.sizeOf5
 v5 := Tryz.zeroValue5
 t9 := Tryz.underlying9
 a9 := Tryz.isAgg9
 z9 := Tryz.sizeOf9
 v9 := Tryz.zeroValue9
 t22 := Tryz.underlying25
 a22 := Tryz.isAgg25
 z22 := Tryz.sizeOf25
 v22 := Tryz.zeroValue25
 a24 := Tryz.isAgg33
 z24 := Tryz.sizeOf33
 t25 := Tryz.underlying143
 a25 := Tryz.isAgg143
 z25 := Tryz.sizeOf143
 v25 := Tryz.zeroValue143
 t39 := Tryz.underlying149
 a39 := Tryz.isAgg149
 z39 := Tryz.sizeOf149
 v39 := Tryz.zeroValue149
 t45 := Tryz.underlying174
 a45 := Tryz.isAgg174
 z45 := Tryz.sizeOf174
 v45 := Tryz.zeroValue174
 t46 := Tryz.underlying175
 a46 := Tryz.isAgg175
 z46 := Tryz.sizeOf175
 v46 := Tryz.zeroValue175
 t50 := Tryz.underlying137
 a50 := Tryz.isAgg137
 z50 := Tryz.sizeOf137
 v50 := Tryz.zeroValue137
 t53 := Tryz.underlying182
 a53 := Tryz.isAgg182
 z53 := Tryz.sizeOf182
 v53 := Tryz.zeroValue182
 t55 := Tryz.underlying184
 a55 := Tryz.isAgg184
 z55 := Tryz.sizeOf184
 v55 := Tryz.zeroValue184
 t66 := Tryz.underlying216
 a66 := Tryz.isAgg216
 z66 := Tryz.sizeOf216
 v66 := Tryz.zeroValue216
 t70 := Tryz.underlying220
 a70 := Tryz.isAgg220
 z70 := Tryz.sizeOf220
 v70 := Tryz.zeroValue220
 t76 := Tryz.underlying245
 a76 := Tryz.isAgg245
 z76 := Tryz.sizeOf245
 v76 := Tryz.zeroValue245
 t77 := Tryz.underlying246
 a77 := Tryz.isAgg246
 z77 := Tryz.sizeOf246
 v77 := Tryz.zeroValue246 }
end Go.Proofs
namespace Go.Proofs.YtafoklilkdnepaaGreatDoor
end Go.Proofs.YtafoklilkdnepaaGreatDoor
