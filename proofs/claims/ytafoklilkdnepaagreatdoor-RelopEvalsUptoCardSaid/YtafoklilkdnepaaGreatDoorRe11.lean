/- Part 11 of the texts of this proof, one behind the other. No condition beyond those that its theorems state. -/
import Derived.Test.YtafoklilkdnepaaGreatDoorRe10
set_option linter.all false
set_option maxRecDepth 40000
set_option maxHeartbeats 25600000
namespace Go.Proofs.YtafoklilkdnepaaGreatDoor
end Go.Proofs.YtafoklilkdnepaaGreatDoor
namespace Go.Proofs
open Go.Shelf
def Tryz.lays137_ren : Go.Shelf.Ren := ⟨fun | 137 => 187 | 217 => 204 | 266 => 212 | n => n, fun | 9 => 9 | 5 => 5 | 3 => 3 | n => n, fun | n => n⟩
theorem Tryz.lays137 : Go.Proofs.Lays.n137 Tryz.prog Tryz.lays137_ren := {
 mixed := by kernel_rfl
 f137 := Tryz.func187.trans (congrArg some (by kernel_rfl))
 f217 := Tryz.func204.trans (congrArg some (by kernel_rfl))
 f266 := Tryz.func212.trans (congrArg some (by kernel_rfl))
 t3 := Tryz.underlying3
 a3 := Tryz.isAgg3
 z3 := Tryz.sizeOf3
 v3 := Tryz.zeroValue3
 t5 := Tryz.underlying5
 a5 := Tryz.isAgg5
 z5 := Tryz.sizeOf5
 v5 := Tryz.zeroValue5
 t9 := Tryz.underlying9
 a9 := Tryz.isAgg9
 z9 := Tryz.sizeOf9
 v9 := Tryz.zeroValue9 }
open Go.RowKit in
theorem Tryz.strings_IndexByte (s : ByteArray) (c : Int) (w : World) :
  Calls Tryz.prog 187 #[.string s, .int .u8 c] w fun e w' => e = .returned (.int .i64 (Lib.indexByte s.data.toList c.toNat.toUInt8)) ∧ w' = w := Any.strings_IndexByte Tryz.lays137 s c w
def Tryz.lays109_ren : Go.Shelf.Ren := ⟨fun | 109 => 184 | n => n, fun | 31 => 45 | 9 => 9 | 3 => 3 | 0 => 0 | 4 => 4 | n => n, fun | n => n⟩
theorem Tryz.lays109 : Go.Proofs.Lays.n109 Tryz.prog Tryz.lays109_ren := {
 mixed := by kernel_rfl
 f109 := Tryz.func184.trans (congrArg some (by kernel_rfl))
 t0 := Tryz.underlying0
 a0 := Tryz.isAgg0
 z0 := Tryz.sizeOf0
 v0 := Tryz.zeroValue0
 t3 := Tryz.underlying3
 a3 := Tryz.isAgg3
 z3 := Tryz.sizeOf3
 v3 := Tryz.zeroValue3
 t4 := Tryz.underlying4
 a4 := Tryz.isAgg4
 z4 := Tryz.sizeOf4
 v4 := Tryz.zeroValue4
 t9 := Tryz.underlying9
 a9 := Tryz.isAgg9
 z9 := Tryz.sizeOf9
 v9 := Tryz.zeroValue9
 t31 := Tryz.underlying45
 a31 := Tryz.isAgg45
 z31 := Tryz.sizeOf45
 v31 := Tryz.zeroValue45 }
open Go.Lib in
theorem Tryz.slices_Index_string (b off n c : Nat) (zs : List ByteArray) (x : ByteArray) (w : World) (hz : n ≤ zs.length) (hbig : n ≤ 9223372036854775807) (hc : ∀ j, j < zs.length → w.cell? ⟨b, off + j, none⟩ = some (.string (zs.getD j ByteArray.empty))) :
  Calls Tryz.prog 184 #[.slice (some ⟨b, off, none⟩) n c, .string x] w fun e w' => e = .returned (.int .i64 (Lib.idxOfS (zs.take n) x)) ∧ w' = w := Any.slices_Index_string Tryz.lays109 b off n c zs x w hz hbig hc
end Go.Proofs
namespace Go.Proofs.YtafoklilkdnepaaGreatDoor
section
open Go.RowKit
def i_(a b:Int):Int × Bool:=
 if a=0\/b=0 then (0,true)
 else if a = -1/\b = -9223372036854775808\/b = -1/\a = -9223372036854775808 then (0,false)
 else (wrap64 (a*b),wrap64 ((wrap64 (a*b)).tdiv b)==a)
def iu(o a b:Int):Int × Bool:=
 if o=43 then (wrap64 (a+b),(decide (a<wrap64 (a+b))==decide (0<b))||b==0)
 else if o=45 then (wrap64 (a-b),(decide (wrap64 (a-b)<a)==decide (0<b))||b==0)
 else if o=42 then i_ a b
 else if o=47 then (wrap64 (a.tdiv b),a != -9223372036854775808||b != -1)
 else if b = -1 then (0,true) else (a.tmod b,true)
def fZ(o:Int)(a b:VD):VD × Int:=
 if o≠43/\o≠45/\o≠42/\o≠47/\o≠37 then (eQ,20)
 else if a.kind=2\/b.kind=2 then (eQ,12)
 else if a.kind=0\/b.kind=0 then (eQ,0)
 else if b.num=0/\(o=47\/o=37) then (eQ,11)
 else if (iu o a.num b.num).2=true then (ofV (iu o a.num b.num).1,0) else (eQ,10)
theorem xv(a b:Int)(w:World): Calls Tryz.prog 205 #[.int .i64 a,.int .i64 b] w λe w'=>e=.returned (.tuple #[.int .i64 (i_ a b).1,.bool (i_ a b).2])/\Touch [] w w':=by
 by_cases h0:a=0\/b=0
 ·have hp:i_ a b=(0,true):=by unfold i_;rw[ae h0]
  have Hp:=lh hp;clear hp;by_cases ha:a=0
  ·subst ha;go_enter Tryz.func205,Tryz.ntmps205;go_wp2_with fail;go_ret2;exact⟨by rw[Hp.o];rfl,Touch.refl _ _⟩
  have hb:b=0:=h0.resolve_left ha;have qa:(a==0)=false:=by simpa using ha
  subst hb;clear h0 ha;go_enter Tryz.func205,Tryz.ntmps205;go_wp2_with fail;go_ret2;exact⟨by rw[Hp.o];rfl,Touch.refl _ _⟩
 have ha0:a≠0:=λh=>h0 (.inl h);have hb0:b≠0:=λh=>h0 (.inr h);have qa:(a==0)=false:=by simpa using ha0
 have qb:(b==0)=false:=by simpa using hb0
 by_cases h1:a = -1/\b = -9223372036854775808\/b = -1/\a = -9223372036854775808
 ·have Hp:=lh (show i_ a b=(0,false) by unfold i_;rw[ab h0,ae h1]);clear ha0 hb0 qa qb h0;rcases h1 with ⟨rfl,rfl⟩|⟨rfl,rfl⟩
  ·go_enter Tryz.func205,Tryz.ntmps205;go_wp2_with fail;go_ret2;exact⟨by rw[Hp.o];rfl,Touch.refl _ _⟩
  go_enter Tryz.func205,Tryz.ntmps205;go_wp2_with fail;go_ret2;exact⟨by rw[Hp.o];rfl,Touch.refl _ _⟩
 have Hp:=lh (show i_ a b=(wrap64 (a*b),wrap64 ((wrap64 (a*b)).tdiv b)==a) by unfold i_;rw[ab h0,ab h1]);have hnot:((a == -1&&b == -9223372036854775808)||(b == -1&&a == -9223372036854775808))=false:=by rw[d7];intro h;simp only[Bool.or_eq_true,Bool.and_eq_true,beq_iff_eq] at h;exact h1 h
 have key:∀(W:World),Touch [] w W->True:=λ_ _=>trivial;clear h0 h1 ha0 key;rcases e1:(a == -1) with _|_<;>rcases e2:(b == -9223372036854775808) with _|_<;>rcases e3:(b == -1) with _|_<;>rcases e4:(a == -9223372036854775808) with _|_<;>(try (exfalso;simp[e1,e2,e3,e4] at hnot;done));all_goals
 clear hnot;go_enter Tryz.func205,Tryz.ntmps205;go_wp2_with fail;refine eh w (Touch.refl _ _) (by kernel_rfl) (by kernel_rfl) ?_;repeat (go_big_quiet_step (fail))
 refine aS ?_;rintro _ ⟨y,rfl⟩;go_wp2;go_ret2;exact⟨by rw[Hp.o];rfl,y.t⟩
theorem zf(o a b:Int)(hb:o=47\/o=37->b≠0)(ho:o=43\/o=45\/o=42\/o=47\/o=37)(w:World): Calls Tryz.prog 188 #[.int .u8 o,.int .i64 a,.int .i64 b] w λe w'=>e=.returned (.tuple #[.int .i64 (iu o a b).1,.bool (iu o a b).2])/\Touch [] w w':=by
 rcases ho with rfl|rfl|rfl|rfl|rfl
 ·clear hb;go_enter Tryz.func188,Tryz.ntmps188;go_wp2_with fail;all_goals go_ret2;refine⟨?_,Touch.refl _ _⟩;simp[iu, *]
 ·clear hb;go_enter Tryz.func188,Tryz.ntmps188;go_wp2_with fail;all_goals go_ret2;refine⟨?_,Touch.refl _ _⟩;simp[iu, *]
 ·have Hp:=lh λw'=>xv a b w';have hr:iu 42 a b=i_ a b:=by simp[iu]
  have Hr:=lh hr;clear hb hr;go_enter Tryz.func188,Tryz.ntmps188;go_wp2_with fail;refine(Hp.o _).mono ?_;rintro e w1 ⟨rfl,t1⟩;go_wp2_with fail;go_ret2;exact⟨by rw[Hr.o];rfl,t1⟩
 ·have hb0:=hb (.inl rfl);have qb:(b==0)=false:=by simpa using hb0
  clear hb;go_enter Tryz.func188,Tryz.ntmps188;go_wp2_with fail;all_goals go_ret2;refine⟨?_,Touch.refl _ _⟩;simp[iu, *]
 have hb0:=hb (.inr rfl);have qb:(b==0)=false:=by simpa using hb0
 clear hb;by_cases h1:b = -1
 ·subst h1;go_enter Tryz.func188,Tryz.ntmps188;go_wp2_with fail;all_goals go_ret2;refine⟨?_,Touch.refl _ _⟩;simp[iu]
 have q1:(b == -1)=false:=by simpa using h1
 go_enter Tryz.func188,Tryz.ntmps188;go_wp2_with fail;all_goals go_ret2;refine⟨?_,Touch.refl _ _⟩;simp[iu,h1]
theorem Eh{o:Int}(ho:o=43\/o=45\/o=42\/o=47\/o=37):∃n:Nat,Lib.indexByte (S [43,45,42,47,37]).data.toList o.toNat.toUInt8=(n:Int):=by
 rcases ho with rfl|rfl|rfl|rfl|rfl
 ·exact⟨0,by decide +kernel⟩
 ·exact⟨1,by decide +kernel⟩
 ·exact⟨2,by decide +kernel⟩
 ·exact⟨3,by decide +kernel⟩
 exact⟨4,by decide +kernel⟩
theorem tj(o:Int)(ho:o=43\/o=45\/o=42\/o=47\/o=37)(a b:VD)(w:World): Calls Tryz.prog 153 #[.int .u8 o,a.val,b.val] w λe w'=>e=.returned (.tuple #[(fZ o a b).1.val,.int .i64 (fZ o a b).2])/\Touch [] w w':=by
 obtain⟨k1,n1,s1⟩:=a;obtain⟨k2,n2,s2⟩:=b;dsimp only[VD.val];have t0:=(((Touch.refl [] w).alloc (.cells #[.int .i64 k1,.int .i64 n1,.string s1] 31)).alloc (.cells #[.int .i64 k2,.int .i64 n2,.string s2] 31)).alloc (.cells #[.int .i64 0,.int .i64 0,.string ⟨#[]⟩] 31);have hb1:=(((Touch.refl [] (w.alloc (.cells #[.int .i64 k1,.int .i64 n1,.string s1] 31))).alloc (.cells #[.int .i64 k2,.int .i64 n2,.string s2] 31)).alloc (.cells #[.int .i64 0,.int .i64 0,.string ⟨#[]⟩] 31)).blk (ah w (.cells #[.int .i64 k1,.int .i64 n1,.string s1] 31)) (by simp);have hb2:=((Touch.refl [] ((w.alloc (.cells #[.int .i64 k1,.int .i64 n1,.string s1] 31)).alloc (.cells #[.int .i64 k2,.int .i64 n2,.string s2] 31))).alloc (.cells #[.int .i64 0,.int .i64 0,.string ⟨#[]⟩] 31)).blk (ah (w.alloc (.cells #[.int .i64 k1,.int .i64 n1,.string s1] 31)) (.cells #[.int .i64 k2,.int .i64 n2,.string s2] 31)) (by simp);have hbr:=ah ((w.alloc (.cells #[.int .i64 k1,.int .i64 n1,.string s1] 31)).alloc (.cells #[.int .i64 k2,.int .i64 n2,.string s2] 31)) (.cells #[.int .i64 0,.int .i64 0,.string ⟨#[]⟩] 31);simp only[World.size_alloc] at hb2 hbr;obtain⟨W,hW⟩:∃W,W=((w.alloc (.cells #[.int .i64 k1,.int .i64 n1,.string s1] 31)).alloc (.cells #[.int .i64 k2,.int .i64 n2,.string s2] 31)).alloc (.cells #[.int .i64 0,.int .i64 0,.string ⟨#[]⟩] 31):=⟨_,rfl⟩;rw[<- hW] at hb1 hb2 hbr t0;have HW:=lh hW;have Hb1:=lh hb1;have Hb2:=lh hb2;have Hbr:=lh hbr;have T0:=lh t0
 have Hnull:=lh λw'=>kY w';have Hof:=lh λn w'=>mR n w';simp only[VD.val,eQ,ofV,S] at Hnull Hof;clear hW hb1 hb2 hbr t0;have hib:=λw'=>Tryz.strings_IndexByte (S [43,45,42,47,37]) o w';obtain⟨ix,hix⟩:=Eh ho;rw[hix] at hib;have Hib:=lh hib;have hno:¬(o≠43/\o≠45/\o≠42/\o≠47/\o≠37):=by omega
 clear hix hib;by_cases h1:k1=2
 ·have Hf:=lh (show fZ o ⟨k1,n1,s1⟩ ⟨k2,n2,s2⟩=(eQ,12) by unfold fZ;rw[ab hno,ae (.inl h1)]);subst h1;go_enter Tryz.func153,dZ;go_wp2_with fail;rw[<- HW.o];refine(Hib.o _).mono ?_;rintro e w' ⟨rfl,rfl⟩;obtain⟨a0,a1,a2,_⟩:=ee Hb1.o;obtain⟨b0,b1,b2,_⟩:=ee Hb2.o;have hbr0:=Hbr.o;obtain⟨r0,r1,r2,f0,f1,f2⟩:=ee Hbr.o;go_wp2_with fail;obtain⟨q1,q2⟩:=fN Hbr.o (.int .i64 0) (.int .i64 0) (.string ⟨#[]⟩);obtain⟨d0,d1,d2,_⟩:=ee q1;refine aG (v:=.tuple #[.agg #[.int .i64 0,.int .i64 0,.string ⟨#[]⟩],.int .i64 (12)]) (by simp[results,Tryz.results153,go_sem,d0,d1,d2]) rfl ⟨?_,T0.o.trans q2 (λb hb=>.inr (by simp at hb;omega))⟩;rw[Hf.o];rfl
 have q1:(k1==2)=false:=by simpa using h1
 by_cases h2:k2=2
 ·have Hf:=lh (show fZ o ⟨k1,n1,s1⟩ ⟨k2,n2,s2⟩=(eQ,12) by unfold fZ;rw[ab hno,ae (.inr h2)]);subst h2;go_enter Tryz.func153,dZ;go_wp2_with fail;rw[<- HW.o];refine(Hib.o _).mono ?_;rintro e w' ⟨rfl,rfl⟩;obtain⟨a0,a1,a2,_⟩:=ee Hb1.o;obtain⟨b0,b1,b2,_⟩:=ee Hb2.o;have hbr0:=Hbr.o;obtain⟨r0,r1,r2,f0,f1,f2⟩:=ee Hbr.o;go_wp2_with fail;obtain⟨q1,q2⟩:=fN Hbr.o (.int .i64 0) (.int .i64 0) (.string ⟨#[]⟩);obtain⟨d0,d1,d2,_⟩:=ee q1;refine aG (v:=.tuple #[.agg #[.int .i64 0,.int .i64 0,.string ⟨#[]⟩],.int .i64 (12)]) (by simp[results,Tryz.results153,go_sem,d0,d1,d2]) rfl ⟨?_,T0.o.trans q2 (λb hb=>.inr (by simp at hb;omega))⟩;rw[Hf.o];rfl
 have q2':(k2==2)=false:=by simpa using h2
 by_cases h3:k1=0
 ·have Hf:=lh (show fZ o ⟨k1,n1,s1⟩ ⟨k2,n2,s2⟩=(eQ,0) by unfold fZ;rw[ab hno,ab (by rintro(h | h);exact h1 h;exact h2 h),ae (.inl h3)]);subst h3;clear h1 h2;go_enter Tryz.func153,dZ;go_wp2_with fail;rw[<- HW.o];refine(Hib.o _).mono ?_;rintro e w' ⟨rfl,rfl⟩;obtain⟨a0,a1,a2,_⟩:=ee Hb1.o;obtain⟨b0,b1,b2,_⟩:=ee Hb2.o;have hbr0:=Hbr.o;obtain⟨r0,r1,r2,f0,f1,f2⟩:=ee Hbr.o;go_wp2_with fail;clear a0 a1 a2 b0 b1 b2 r0 r1 r2 f0 f1 f2;refine(Hnull.o _).mono ?_;rintro e w1 ⟨rfl,u1⟩;obtain⟨a0,a1,a2,_⟩:=ee (u1.blk Hb1.o (by simp));obtain⟨b0,b1,b2,_⟩:=ee (u1.blk Hb2.o (by simp));have hbr1:=(u1.blk Hbr.o (by simp));obtain⟨r0,r1,r2,f0,f1,f2⟩:=ee (u1.blk Hbr.o (by simp));go_wp2_with fail;obtain⟨q1,q2⟩:=fN (u1.blk Hbr.o (by simp)) (.int .i64 0) (.int .i64 0) (.string ⟨#[]⟩);obtain⟨d0,d1,d2,_⟩:=ee q1;refine aG (v:=.tuple #[.agg #[.int .i64 0,.int .i64 0,.string ⟨#[]⟩],.int .i64 (0)]) (by simp[results,Tryz.results153,go_sem,d0,d1,d2]) rfl ⟨?_,(T0.o.trans0 u1).trans q2 (λb hb=>.inr (by simp at hb;omega))⟩;rw[Hf.o];rfl
 have q3:(k1==0)=false:=by simpa using h3
 by_cases h4:k2=0
 ·have Hf:=lh (show fZ o ⟨k1,n1,s1⟩ ⟨k2,n2,s2⟩=(eQ,0) by unfold fZ;rw[ab hno,ab (by rintro(h | h);exact h1 h;exact h2 h),ae (.inr h4)]);subst h4;clear h1 h2 h3;go_enter Tryz.func153,dZ;go_wp2_with fail;rw[<- HW.o];refine(Hib.o _).mono ?_;rintro e w' ⟨rfl,rfl⟩;obtain⟨a0,a1,a2,_⟩:=ee Hb1.o;obtain⟨b0,b1,b2,_⟩:=ee Hb2.o;have hbr0:=Hbr.o;obtain⟨r0,r1,r2,f0,f1,f2⟩:=ee Hbr.o;go_wp2_with fail;clear a0 a1 a2 b0 b1 b2 r0 r1 r2 f0 f1 f2;refine(Hnull.o _).mono ?_;rintro e w1 ⟨rfl,u1⟩;obtain⟨a0,a1,a2,_⟩:=ee (u1.blk Hb1.o (by simp));obtain⟨b0,b1,b2,_⟩:=ee (u1.blk Hb2.o (by simp));have hbr1:=(u1.blk Hbr.o (by simp));obtain⟨r0,r1,r2,f0,f1,f2⟩:=ee (u1.blk Hbr.o (by simp));go_wp2_with fail;obtain⟨q1,q2⟩:=fN (u1.blk Hbr.o (by simp)) (.int .i64 0) (.int .i64 0) (.string ⟨#[]⟩);obtain⟨d0,d1,d2,_⟩:=ee q1;refine aG (v:=.tuple #[.agg #[.int .i64 0,.int .i64 0,.string ⟨#[]⟩],.int .i64 (0)]) (by simp[results,Tryz.results153,go_sem,d0,d1,d2]) rfl ⟨?_,(T0.o.trans0 u1).trans q2 (λb hb=>.inr (by simp at hb;omega))⟩;rw[Hf.o];rfl
 have q4:(k2==0)=false:=by simpa using h4
 have harith:fZ o ⟨k1,n1,s1⟩ ⟨k2,n2,s2⟩=if n2=0/\(o=47\/o=37) then (eQ,11) else if (iu o n1 n2).2=true then (ofV (iu o n1 n2).1,0) else (eQ,10):=by unfold fZ;rw[ab hno,ab (by rintro(h | h);exact h1 h;exact h2 h),ab (by rintro(h | h);exact h3 h;exact h4 h)]
 clear h1 h2 h3 h4 hno;by_cases h5:n2=0/\(o=47\/o=37)
 ·have Hf:=lh (show fZ o ⟨k1,n1,s1⟩ ⟨k2,n2,s2⟩=(eQ,11) by rw[harith,ae h5]);obtain⟨rfl,h6⟩:=h5;clear harith;rcases h6 with rfl|rfl
  ·clear ho;go_enter Tryz.func153,dZ;go_wp2_with fail;rw[<- HW.o];refine(Hib.o _).mono ?_;rintro e w' ⟨rfl,rfl⟩;obtain⟨a0,a1,a2,_⟩:=ee Hb1.o;obtain⟨b0,b1,b2,_⟩:=ee Hb2.o;have hbr0:=Hbr.o;obtain⟨r0,r1,r2,f0,f1,f2⟩:=ee Hbr.o;go_wp2_with fail;obtain⟨q1,q2⟩:=fN Hbr.o (.int .i64 0) (.int .i64 0) (.string ⟨#[]⟩);obtain⟨d0,d1,d2,_⟩:=ee q1;refine aG (v:=.tuple #[.agg #[.int .i64 0,.int .i64 0,.string ⟨#[]⟩],.int .i64 (11)]) (by simp[results,Tryz.results153,go_sem,d0,d1,d2]) rfl ⟨?_,T0.o.trans q2 (λb hb=>.inr (by simp at hb;omega))⟩;rw[Hf.o];rfl
  clear ho;go_enter Tryz.func153,dZ;go_wp2_with fail;rw[<- HW.o];refine(Hib.o _).mono ?_;rintro e w' ⟨rfl,rfl⟩;obtain⟨a0,a1,a2,_⟩:=ee Hb1.o;obtain⟨b0,b1,b2,_⟩:=ee Hb2.o;have hbr0:=Hbr.o;obtain⟨r0,r1,r2,f0,f1,f2⟩:=ee Hbr.o;go_wp2_with fail;obtain⟨q1,q2⟩:=fN Hbr.o (.int .i64 0) (.int .i64 0) (.string ⟨#[]⟩);obtain⟨d0,d1,d2,_⟩:=ee q1;refine aG (v:=.tuple #[.agg #[.int .i64 0,.int .i64 0,.string ⟨#[]⟩],.int .i64 (11)]) (by simp[results,Tryz.results153,go_sem,d0,d1,d2]) rfl ⟨?_,T0.o.trans q2 (λb hb=>.inr (by simp at hb;omega))⟩;rw[Hf.o];rfl
 rw[ab h5] at harith;have hrk:=λw'=>zf o n1 n2 (λh hn=>h5 ⟨hn,h⟩) ho w';have hd:(n2==0)=true->(o==47)=false/\(o==37)=false:=λh=>by
  have hn:n2=0:=by simpa using h
  exact⟨by simpa using λh'=>h5 ⟨hn,.inl h'⟩,by simpa using λh'=>h5 ⟨hn,.inr h'⟩⟩
 obtain⟨rv,hrv⟩:∃rv,rv=iu o n1 n2:=⟨_,rfl⟩;rw[<- hrv] at hrk harith;obtain⟨rn,rb⟩:=rv;simp only at hrk harith;have Hrk:=lh hrk;have Hha:=lh harith;clear hrk hrv h5 ho harith;rcases hz:(n2==0) with _|_;all_goals
 first
  |have he:=hd hz;obtain⟨e1,e2⟩:=he
  |clear hd
 cases rb
 ·have Hf:=lh (show fZ o ⟨k1,n1,s1⟩ ⟨k2,n2,s2⟩=(eQ,10) by rw[Hha.o,ab (by simp)]);go_enter Tryz.func153,dZ;go_wp2_with fail;rw[<- HW.o];refine(Hib.o _).mono ?_;rintro e w' ⟨rfl,rfl⟩;obtain⟨a0,a1,a2,_⟩:=ee Hb1.o;obtain⟨b0,b1,b2,_⟩:=ee Hb2.o;have hbr0:=Hbr.o;obtain⟨r0,r1,r2,f0,f1,f2⟩:=ee Hbr.o;go_wp2_with fail;clear a0 a1 a2 b0 b1 b2 r0 r1 r2 f0 f1 f2;refine(Hrk.o _).mono ?_;rintro e w1 ⟨rfl,u1⟩;obtain⟨a0,a1,a2,_⟩:=ee (u1.blk Hb1.o (by simp));obtain⟨b0,b1,b2,_⟩:=ee (u1.blk Hb2.o (by simp));have hbr1:=(u1.blk Hbr.o (by simp));obtain⟨r0,r1,r2,f0,f1,f2⟩:=ee (u1.blk Hbr.o (by simp));go_wp2_with fail;obtain⟨q1,q2⟩:=fN (u1.blk Hbr.o (by simp)) (.int .i64 0) (.int .i64 0) (.string ⟨#[]⟩);obtain⟨d0,d1,d2,_⟩:=ee q1;refine aG (v:=.tuple #[.agg #[.int .i64 0,.int .i64 0,.string ⟨#[]⟩],.int .i64 (10)]) (by simp[results,Tryz.results153,go_sem,d0,d1,d2]) rfl ⟨?_,(T0.o.trans0 u1).trans q2 (λb hb=>.inr (by simp at hb;omega))⟩;rw[Hf.o];rfl
 have Hf:=lh (show fZ o ⟨k1,n1,s1⟩ ⟨k2,n2,s2⟩=(ofV rn,0) by rw[Hha.o,ae rfl]);go_enter Tryz.func153,dZ;go_wp2_with fail;rw[<- HW.o];refine(Hib.o _).mono ?_;rintro e w' ⟨rfl,rfl⟩;obtain⟨a0,a1,a2,_⟩:=ee Hb1.o;obtain⟨b0,b1,b2,_⟩:=ee Hb2.o;have hbr0:=Hbr.o;obtain⟨r0,r1,r2,f0,f1,f2⟩:=ee Hbr.o;go_wp2_with fail;clear a0 a1 a2 b0 b1 b2 r0 r1 r2 f0 f1 f2;refine(Hrk.o _).mono ?_;rintro e w1 ⟨rfl,u1⟩;obtain⟨a0,a1,a2,_⟩:=ee (u1.blk Hb1.o (by simp));obtain⟨b0,b1,b2,_⟩:=ee (u1.blk Hb2.o (by simp));have hbr1:=(u1.blk Hbr.o (by simp));obtain⟨r0,r1,r2,f0,f1,f2⟩:=ee (u1.blk Hbr.o (by simp));go_wp2_with fail;clear a0 a1 a2 b0 b1 b2 r0 r1 r2 f0 f1 f2;refine(Hof.o _ _).mono ?_;rintro e w2 ⟨rfl,u2⟩;obtain⟨a0,a1,a2,_⟩:=ee (u2.blk (u1.blk Hb1.o (by simp)) (by simp));obtain⟨b0,b1,b2,_⟩:=ee (u2.blk (u1.blk Hb2.o (by simp)) (by simp));have hbr2:=(u2.blk (u1.blk Hbr.o (by simp)) (by simp));obtain⟨r0,r1,r2,f0,f1,f2⟩:=ee (u2.blk (u1.blk Hbr.o (by simp)) (by simp));go_wp2_with fail;obtain⟨q1,q2⟩:=fN (u2.blk (u1.blk Hbr.o (by simp)) (by simp)) (.int .i64 1) (.int .i64 rn) (.string ⟨#[]⟩);obtain⟨d0,d1,d2,_⟩:=ee q1;refine aG (v:=.tuple #[.agg #[.int .i64 1,.int .i64 rn,.string ⟨#[]⟩],.int .i64 (0)]) (by simp[results,Tryz.results153,go_sem,d0,d1,d2]) rfl ⟨?_,((T0.o.trans0 u1).trans0 u2).trans q2 (λb hb=>.inr (by simp at hb;omega))⟩;rw[Hf.o];rfl
end
section
open Go.RowKit
def Fr(base:Nat)(w:World):Nat->Prop:=λb=>base<=b/\b<w.heap.size
def lM(t:TypeId)(enc:XC->List Value)(base n:Nat)(w:World)(B:Option Addr)(c:Nat)(args:List (TX n)):Prop:=
 ∃xs:List XC,xs.length=args.length/\ep t 7 enc w B c xs/\(∀b∈ed B,base<=b)/\∀i(h1:i<xs.length)(h2:i<args.length),iJ enc (λb=>Fr base w b/\b∉ed B) n w xs[i] args[i]
theorem lM.nil(t:TypeId)(enc:XC->List Value)(base n:Nat)(w:World):lM t enc base n w none 0 []:=⟨[],rfl,ep.nil _ _ _ _,by simp[ed],λi h=>absurd h (by simp)⟩
theorem lM.lt{t:TypeId}{enc:XC->List Value}{base n:Nat}{w:World}{B:Option Addr}{c:Nat}{args:List (TX n)}(h:lM t enc base n w B c args):∀b∈ed B,base<=b/\b<w.heap.size:=by obtain⟨xs,_,h2,h3,_⟩:=h;exact λb hb=>⟨h3 b hb,h2.lt b hb⟩
theorem lM.touch{t:TypeId}{enc:XC->List Value}{base n:Nat}{w w':World}{B:Option Addr}{c:Nat}{args:List (TX n)}{fp:List Nat}(h:lM t enc base n w B c args)(ht:Touch fp w w')(hfp:∀ b∈fp,b<base):lM t enc base n w' B c args:=by obtain⟨xs,h1,h2,h3,h4⟩:=h;exact⟨xs,h1,h2.touch ht (λb hb hm=>by have:=hfp b hm;have:=h3 b hb;omega),h3,λi a b=>((h4 i a b).touch ht (λb hb hp=>by have:=hfp b hb;have:=hp.1.1;omega)).mono (λb hb=>⟨⟨hb.1.1,bW hb.1.2 ht.size⟩,hb.2⟩)⟩
theorem lM.touch0{t:TypeId}{enc:XC->List Value}{base n:Nat}{w w':World}{B:Option Addr}{c:Nat}{args:List (TX n)}(h:lM t enc base n w B c args)(ht:Touch [] w w'):lM t enc base n w' B c args:=h.touch ht (by simp)
theorem lM.base{t:TypeId}{enc:XC->List Value}{base base' n:Nat}{w:World}{B:Option Addr}{c:Nat}{args:List (TX n)}(h:lM t enc base n w B c args)(hb:base'<=base):lM t enc base' n w B c args:=by obtain⟨xs,h1,h2,h3,h4⟩:=h;exact⟨xs,h1,h2,λb hbm=>by have:=h3 b hbm;omega,λi a b=>(h4 i a b).mono λb hp=>⟨⟨by have:=hp.1.1;omega,hp.1.2⟩,hp.2⟩⟩
theorem gG{w:World}{R:Nat}{t:TypeId}{a0 a1 a2 a3 a4 a5 a6:Value}(h:w.heap[R]?=some (.cells #[a0,a1,a2,a3,a4,a5,a6] t (0,0))):
  w.cell? ⟨R,0,none⟩=some a0/\w.cell? ⟨R,1,none⟩=some a1/\w.cell? ⟨R,2,none⟩=some a2/\w.cell? ⟨R,3,none⟩=some a3/\w.cell? ⟨R,4,none⟩=some a4/\w.cell? ⟨R,5,none⟩=some a5/\w.cell? ⟨R,6,none⟩=some a6/\w.frozen? ⟨R,0,none⟩=false/\w.frozen? ⟨R,1,none⟩=false/\w.frozen? ⟨R,2,none⟩=false/\w.frozen? ⟨R,3,none⟩=false/\w.frozen? ⟨R,4,none⟩=false/\w.frozen? ⟨R,5,none⟩=false/\w.frozen? ⟨R,6,none⟩=false:=
 ⟨d_ h rfl,d_ h rfl,d_ h rfl,d_ h rfl,d_ h rfl,d_ h rfl,d_ h rfl,by simp[World.frozen?,h],by simp[World.frozen?,h],by simp[World.frozen?,h],by simp[World.frozen?,h],by simp[World.frozen?,h],by simp[World.frozen?,h],by simp[World.frozen?,h]⟩
end
section
open Go.RowKit
def DK(a b:VD):Bool:=decide (a.kind=b.kind)&&(decide (a.num=b.num)&&decide (a.text=b.text))
theorem BP(a b:VD)(w:World):(Op.equalIn 10000 31 (.agg #[.int .i64 a.kind,.int .i64 a.num,.string a.text]) (.agg #[.int .i64 b.kind,.int .i64 b.num,.string b.text])).run Tryz.prog w=.ok (DK a b) w:=by
 have hS:Tryz.prog.underlying 31=some (.struct (Tryz.prog.fieldsOf 31)):=by kernel_rfl
 have hp:Tryz.prog.stoodInHeld 31=false:=by kernel_rfl
 rw[show (10000:Nat)=9999+1 from rfl,run_equalIn_agg w 9999 31 _ _ hS hp];simp only[Program.fieldsOf,Tryz.underlying31];have hs:=jZ a.text b.text;go_simp;by_cases h1:a.kind=b.kind<;>by_cases h2:a.num=b.num<;>by_cases h3:a.text=b.text<;>simp[DK,h1,h2,h3]
theorem yr(op:BinOp)(x y:Operand)(a b:Array Value)(w:World):(eqGuard op 31 x y (.agg a) (.agg b)).run Tryz.prog w=.ok () w:=run_eqGuard_agg w op _ x y _ _ (by kernel_rfl)
end
section
open Go.RowKit
section
variable {P:Program} {ops:Array Oper} {Q:Exit->Act->World->Prop} {md:Region.Mode} {S S':World->Prop}
theorem fh{i d:Nat}{oi:Oper}{v:Value}{fuel:Nat}{listed:Array Bool}{a:Act}{w:World}(hi:ops[i]?=some oi)(hd:oi.dst=some d)
  (hs:Region.noSelect ops=true) (hf:Region.free md ops listed i=true) (hr:(Region.ready md ops listed).contains i=true)
  (hQ:∀c a w,Q (.panic c) (a.put oi.dst v) w->Q (.panic c) a w) (hy:YieldsIf P ops S oi v a) (hS:S w)
  (h:wpAnyH P md ops Q S fuel (listed.setIfInBounds i true) (a.put (some d) v) w):wpAnyH P md ops Q S (fuel+1) listed a w:=
 wpAnyH_take hi hs hf hr hQ hy hS (by rw[hd];exact h)
end
end
section
open Go.RowKit
def jj(w:World)(A:Option Addr)(l:List Int):Prop:=d9 inE w A l
theorem jj.touch0{w w':World}{A:Option Addr}{l:List Int}(h:jj w A l)(ht:Touch [] w w'):jj w' A l:=d9.touch0 h ht
theorem jj.at_{w:World}{A:Option Addr}{l:List Int}(h:jj w A l)(i:Nat)(hi:i<l.length):∃ad,A=some ad/\w.cell? (ad.add i)=some (.int .i64 l[i]):=by obtain⟨ad,b,off,e1,e2,_,e3⟩:=d9.at_ h 1 oH (by omega) i hi;rw[bO] at e2;exact⟨ad,e1,by rw[e2];exact e3 0 _ rfl⟩
structure RC where
 name:ByteArray
 A:Option Addr
 n:Nat
 c:Nat
 o:Int
def vq(r:RC):List Value:=[.string r.name,.slice r.A r.n r.c,.int .i64 r.o]
theorem yH(r:RC):(vq r).length=3:=rfl
def i7(p:Nat->Prop)(w:World)(A:Option Addr)(rs:List RU):Prop:=
 (∀b∈ed A,p b)/\∃cs:List RC,cs.length=rs.length/\d9 vq w A cs/\∀i(h1:i<cs.length)(h2:i<rs.length),cs[i].name=rs[i].name/\cs[i].o=rs[i].o/\cs[i].n=rs[i].args.length/\jj w cs[i].A rs[i].args/\∀b∈ed cs[i].A,p b
theorem i7.touch{p:Nat->Prop}{w w':World}{A:Option Addr}{rs:List RU}{fp:List Nat}(h:i7 p w A rs)(ht:Touch fp w w')(hp:∀ b∈fp,¬p b):i7 p w' A rs:=by obtain⟨h0,cs,h1,h2,h3⟩:=h;exact⟨h0,cs,h1,d9.touch h2 ht (λb hb hm=>hp b hm (h0 b hb)),λi a b=>⟨(h3 i a b).1,(h3 i a b).2.1,(h3 i a b).2.2.1,d9.touch (h3 i a b).2.2.2.1 ht (λx hx hm=>hp x hm ((h3 i a b).2.2.2.2 x hx)),(h3 i a b).2.2.2.2⟩⟩
theorem i7.touch0{p:Nat->Prop}{w w':World}{A:Option Addr}{rs:List RU}(h:i7 p w A rs)(ht:Touch [] w w'):i7 p w' A rs:=h.touch ht (by simp)
theorem i7.at_{p:Nat->Prop}{w:World}{A:Option Addr}{rs:List RU}(h:i7 p w A rs)(i:Nat)(hi:i<rs.length): ∃ad b off B c,A=some ad/\ad.add (i*3)=⟨b,off,none⟩/\w.cell? ⟨b,off,none⟩=some (.string rs[i].name)/\w.cell? ⟨b,off+1,none⟩=some (.slice B rs[i].args.length c)/\w.cell? ⟨b,off+2,none⟩=some (.int .i64 rs[i].o)/\jj w B rs[i].args/\p b/\∀b∈ed B,p b:=by
 obtain⟨h0,cs,h1,h2,h3⟩:=h;obtain⟨ad,b,off,e1,e2,e4,e3⟩:=d9.at_ h2 3 yH (by omega) i (by omega);obtain⟨f1,f2,f3,f4,f5⟩:=h3 i (by omega) hi;refine⟨ad,b,off,cs[i].A,cs[i].c,e1,e2, ?_, ?_, ?_,f4,h0 b (by rw[e1,e4];simp[ed]),f5⟩
 ·rw[<- f1];exact e3 0 _ rfl
 ·rw[<- f3];exact e3 1 _ rfl
 rw[<- f2];exact e3 2 _ rfl
def lk:World->List (List Int)->World
 |w,[]=>w
 |w,l:: r=>lk (w.alloc (.cells (l.flatMap inE).toArray 3)) r
theorem nf:∀(L:List (List Int))(w:World),Touch [] w (lk w L)
 | [],_=>Touch.refl _ _
 | _:: r,w=>((Touch.refl [] w).alloc _).trans0 (nf r _)
theorem qR:∀(L:List (List Int))(w:World),(lk w L).heap.size=w.heap.size+L.length
 | [],w=>rfl
 |l:: r,w=>by show (lk _ r).heap.size=_;rw[qR r,ao,bK];omega
theorem tH:∀(L:List (List Int))(w:World)(i:Nat)(h:i<L.length),jj (lk w L) (some ⟨w.heap.size+i,0,none⟩) L[i]
 |l:: r,w,0,_=>(d9.row w 3 l _ (by simp)).touch0 (nf r _)
 |l:: r,w,i+1,h=>by
  have:=tH r (w.alloc (.cells (l.flatMap inE).toArray 3)) i (by simpa using h);rw[ao] at this;have e:w.heap.size+1+i=w.heap.size+(i+1):=by omega
  rw[e] at this;exact this
def pm(base:Nat):List RU->List RC
 | []=>[]
 |r:: s=>⟨r.name,some ⟨base,0,none⟩,r.args.length,r.args.length,r.o⟩:: pm (base+1) s
theorem yi:∀(rs:List RU)(base:Nat),(pm base rs).length=rs.length
 | [],_=>rfl
 |r:: s,base=>by show (pm (base+1) s).length+1=_;rw[yi s];rfl
theorem BB:∀(rs:List RU)(base i:Nat)(h1:i<(pm base rs).length)(h2:i<rs.length),(pm base rs)[i]=⟨rs[i].name,some ⟨base+i,0,none⟩,rs[i].args.length,rs[i].args.length,rs[i].o⟩
 |r:: s,base,0,_,_=>rfl
 |r:: s,base,i+1,h1,h2=>by
  have:=BB s (base+1) i (by simpa [pm] using h1) (by simpa using h2);have e:base+1+i=base+(i+1):=by omega
  rw[e] at this;exact this
theorem kB(rs:List RU)(w:World):i7 (λb=>w.heap.size<=b) ((lk w (rs.map RU.args)).alloc (.cells ((pm w.heap.size rs).flatMap vq).toArray 202)) (some ⟨w.heap.size+rs.length,0,none⟩) rs /\ Touch [] w ((lk w (rs.map RU.args)).alloc (.cells ((pm w.heap.size rs).flatMap vq).toArray 202)):=by
 have ta:=(Touch.refl [] (lk w (rs.map RU.args))).alloc (.cells ((pm w.heap.size rs).flatMap vq).toArray 202);refine⟨⟨λb hb=>by simp[ed] at hb;omega,pm w.heap.size rs,yi _ _, ?_,λi h1 h2=> ?_⟩,(nf _ _).trans0 ta⟩
 ·have:=d9.row (enc:=vq) (lk w (rs.map RU.args)) 202 (pm w.heap.size rs) ((pm w.heap.size rs).flatMap vq).toArray (by simp);rw[qR,ay] at this;exact this
 rw[BB rs w.heap.size i h1 h2];refine⟨rfl,rfl,rfl,jj.touch0 ?_ ta,λb hb=>by simp[ed] at hb;omega⟩;have:=tH (rs.map RU.args) w i (by simpa using h2);rw[aW] at this;exact this
theorem Bc(k:Int)(w:World): Calls Tryz.prog 179 #[.int .i64 k] w λe w'=>∃A c,e=.returned (.slice A (fC k).length c)/\i7 (λb=>w.heap.size<=b) w' A (fC k)/\Touch [] w w':=by
 by_cases h3:k=3
 ·subst h3;go_enter Tryz.func179,Tryz.ntmps179;go_wp2_with fail;go_ret;exact⟨_,_,rfl,(kB (fC 3) w).1,(kB (fC 3) w).2⟩
 by_cases h4:k=4
 ·subst h4;go_enter Tryz.func179,Tryz.ntmps179;go_wp2_with fail;go_ret;exact⟨_,_,rfl,(kB (fC 4) w).1,(kB (fC 4) w).2⟩
 by_cases h5:k=5
 ·subst h5;go_enter Tryz.func179,Tryz.ntmps179;go_wp2_with fail;go_ret;exact⟨_,_,rfl,(kB (fC 5) w).1,(kB (fC 5) w).2⟩
 have e3:(k==3)=false:=by simpa using h3
 have e4:(k==4)=false:=by simpa using h4
 have e5:(k==5)=false:=by simpa using h5
 have Hr:=lh (show fC k=[] by unfold fC;rw[ab h3,ab h4,ab h5]);clear h3 h4 h5;go_enter Tryz.func179,Tryz.ntmps179;go_wp2_with fail;go_ret;exact⟨none,0,by rw[Hr.o];rfl,by rw[Hr.o];exact⟨by simp[ed],[],rfl,d9.nil _ _ _,λi h=>absurd h (by simp)⟩,Touch.refl _ _⟩
end
section
open Go.RowKit
attribute [local go_sem ↓] d3 d4
theorem pI(k:Int):(fC k).length<=140737000000000:=by unfold fC;split<;>(try split)<;>(try split)<;>simp
theorem yF(k:Int)(r:RU)(h:r∈fC k):r.args.length<=3:=by
 unfold fC at h;split at h
 ·simp at h;rcases h with rfl | rfl<;>simp
 split at h
 ·simp at h;rcases h with rfl | rfl | rfl | rfl | rfl | rfl | rfl | rfl | rfl | rfl | rfl | rfl | rfl<;>simp
 split at h
 ·simp at h;rcases h with rfl | rfl | rfl | rfl | rfl | rfl<;>simp
 simp at h
theorem Et{α:Type}{p:α->Bool}{l:List α}{k:Nat}(h:k<l.length)(hk:p l[k]=true)(hno:∀ j (hj:j<k),p (l[j]'(by omega))=false):l.findIdx? p=some k:=by rw[bw];exact⟨h,hk,λj hj=>by rw[hno j hj];simp⟩
theorem Ew{α:Type}{p:α->Bool}{l:List α}(hno:∀ j (hj:j<l.length),p l[j]=false):l.findIdx? p=none:=by rw[cW];intro c hc;obtain⟨j,hj,rfl⟩:=aU.1 hc;exact hno j hj
theorem FH{α:Type}{p:α->Bool}{l:List α}{k:Nat}(h:l.findIdx? p=some k):k<l.length:=by rw[bw] at h;exact h.1
theorem Bw(nm:ByteArray)(A:Option Addr)(m c:Nat)(out:Int)(B:Nat)(s:ByteArray)(w:World)(hB:w.cell? ⟨B,0,none⟩=some (.string s)): Calls Tryz.prog 181 #[.agg #[.string nm,.slice A m c,.int .i64 out],.pointer (some ⟨B,0,none⟩)] w λe w'=>e=.returned (.bool (decide (nm=s)))/\Touch [] w w':=by have hbq:=jZ nm s;have t0:=(Touch.refl [] w).alloc (.cells #[.string nm,.slice A m c,.int .i64 out] 202);have hlt:B<w.heap.size:=dr w _ hB;go_enter Tryz.func181,Tryz.ntmps181;go_wp2;all_goals go_ret;exact⟨rfl,t0⟩
theorem og(A:Option Addr)(cap n:Nat)(rs:List RU)(hn:rs.length=n)(B:Nat)(s:ByteArray)(w:World){p:Nat->Prop}(h:i7 p w A rs)(hB:w.cell? ⟨B,0,none⟩=some (.string s))(hl:n<=140737000000000): Calls Tryz.prog 180 #[.slice A n cap,.func (.func 181) #[] #[.pointer (some ⟨B,0,none⟩)]] w λe w'=> e=.returned (.int .i64 (Cf (rs.findIdx? λr=>decide (r.name=s))))/\Touch [] w w':=by
 subst hn;go_enter Tryz.func180,Tryz.ntmps180;go_wp2;go_loopw [8] (λi wr=>∃k:Nat,k<=rs.length/\i=.int .i64 k/\Ga (∀j(hj:j<k)(hl:j<rs.length),decide (rs[j].name=s)=false)/\Touch [] w wr) (λi _=>rs.length-(intOf i).toNat)
 case atStart=>exact⟨0,by omega,rfl,lh (λj hj=>absurd hj (by omega)),Touch.refl _ _⟩
 case round =>
 obtain⟨k,hk,rfl,Hno,ht⟩:=hrel;by_cases hlt:k<rs.length
 ·obtain⟨ad,b,off,C,cc,rfl,hadd,c0,c1,c2,_,_,_⟩:=(h.touch0 ht).at_ k hlt;have hyes:=Et (p:=fun r:RU=>decide (r.name=s)) hlt;obtain⟨c,hce⟩:∃c,c=rs[k]:=⟨_,rfl⟩;rw[<- hce] at c0 c1 c2 hyes;have Hce:=lh hce;have Hyes:=lh hyes;clear hce hyes;have hf:=Bw c.name C c.args.length cc c.o B s wr (ht.cell hB (by simp));have hkI:(k:Int)<(rs.length:Int):=by omega
  rcases hcs:decide (c.name=s) with _|_
  ·rw[hcs] at hf;have Hf:=lh hf;have Hs:=lh (show ∀j(hj:j<k+1)(hl:j<rs.length),decide (rs[j].name=s)=false from λj hj hl=>by
    by_cases hj':j<k
    ·exact Hno.o j hj' hl
    obtain rfl:j=k:=by omega
    rw[<- Hce.o];exact hcs)
   clear hf hcs;go_wp2_with fail;refine Hf.o.mono ?_;rintro e w1 ⟨rfl,t1⟩;go_wp2;go_roundw
   case rel=>exact⟨k+1,by omega,by go_num,Hs,ht.trans0 t1⟩
   case measure=>simp[intOf];omega
  have Hp:=lh (Hyes.o hcs (λj hj=>Hno.o j hj (by omega)));rw[hcs] at hf;have Hf:=lh hf;clear hf hcs;go_wp2_with fail;refine Hf.o.mono ?_;rintro e w1 ⟨rfl,t1⟩;go_wp2;go_ret;exact⟨by rw[Hp.o];rfl,ht.trans0 t1⟩
 obtain rfl:k=rs.length:=by omega
 have Hp:=lh (Ew (p:=fun r:RU=>decide (r.name=s)) (λj hj=>Hno.o j hj hj));go_wp2;go_ret;exact⟨by rw[Hp.o];rfl,ht⟩
def kW(d:ND)(n:Nat)(e:Ending)(w':World):Prop:=
 match jd d with
 |none=>e=.returned (.tuple #[.agg #[.string ⟨#[]⟩,.slice none 0 0,.int .i64 0],.bool false])
 |some r=>∃B c,e=.returned (.tuple #[.agg #[.string r.name,.slice B r.args.length c,.int .i64 r.o],.bool (decide (n=r.args.length))])/\jj w' B r.args
theorem wV(x:XC)(w:World): Calls Tryz.prog 145 #[x.val] w λe w'=>kW x.nd x.n e w'/\Touch [] w w':=by
 obtain⟨⟨k,nm,⟨vk,vn,vt⟩,op⟩,A,m,c⟩:=x;dsimp only[XC.val];have Hrs:=lh λw'=>Bc k w';have t0:=((Touch.refl [] w).alloc (.cells #[.int .i64 k,.string nm,.int .i64 vk,.int .i64 vn,.string vt,.string op,.slice A m c] 44)).alloc (.cells #[.string ⟨#[]⟩,.slice none 0 0,.int .i64 0] 202);have hbx:=((Touch.refl [] (w.alloc (.cells #[.int .i64 k,.string nm,.int .i64 vk,.int .i64 vn,.string vt,.string op,.slice A m c] 44))).alloc (.cells #[.string ⟨#[]⟩,.slice none 0 0,.int .i64 0] 202)).blk (ah w (.cells #[.int .i64 k,.string nm,.int .i64 vk,.int .i64 vn,.string vt,.string op,.slice A m c] 44)) (by simp);have hbr:=ah (w.alloc (.cells #[.int .i64 k,.string nm,.int .i64 vk,.int .i64 vn,.string vt,.string op,.slice A m c] 44)) (.cells #[.string ⟨#[]⟩,.slice none 0 0,.int .i64 0] 202);simp only[World.size_alloc] at hbr;obtain⟨W0,hW0⟩:∃W0,W0=(w.alloc (.cells #[.int .i64 k,.string nm,.int .i64 vk,.int .i64 vn,.string vt,.string op,.slice A m c] 44)).alloc (.cells #[.string ⟨#[]⟩,.slice none 0 0,.int .i64 0] 202):=⟨_,rfl⟩;have hsz:W0.heap.size=w.heap.size+1+1:=by rw[hW0];simp
 rw[<- hW0] at hbx hbr t0;obtain⟨key,hkey⟩:∃key,key=nJ ⟨k,nm,⟨vk,vn,vt⟩,op⟩:=⟨_,rfl⟩;have tk:=(Touch.refl [] W0).alloc (.cells #[.string key] 9);have hbk:=ah W0 (.cells #[.string key] 9);rw[hsz] at hbk;have Hx:=lh (tk.blk hbx (by simp));have Hr:=lh (tk.blk hbr (by simp));have Hk:=lh hbk;have Tk:=lh (t0.trans0 tk);have Hsz:=lh hsz;have Hkey:=lh hkey;have HW0:=lh hW0;clear hbx hbr hbk tk t0 hW0 hsz hkey;have hD:∀o,oC ⟨k,nm,⟨vk,vn,vt⟩,op⟩=o->(fC k).findIdx? (λr=>decide (r.name=key))=o:=λo h=>by rw[Hkey.o];exact h
 rcases hri:oC ⟨k,nm,⟨vk,vn,vt⟩,op⟩ with _|q
 ·have hI:=λC cc w'(p:Nat->Prop)(hru:i7 p w' C (fC k))hB=>og C cc (fC k).length (fC k) rfl (w.heap.size+1+1) key w' hru hB (pI k);rw[hD _ hri] at hI;simp only[Cf] at hI;have HI:=lh hI;have Hv:=lh (show jd ⟨k,nm,⟨vk,vn,vt⟩,op⟩=none by unfold jd;rw[hri]);clear hI hri hD;by_cases h5:k=5;all_goals
  first
   |have hk5:(k==5)=true:=by rw[h5];rfl
    obtain rfl:key=nm:=by rw[Hkey.o];unfold nJ;rw[ae h5]
   |have hk5:(k==5)=false:=by simpa using h5
    obtain rfl:key=op:=by rw[Hkey.o];unfold nJ;rw[ab h5]
  clear h5;go_enter Tryz.func145,Tryz.ntmps145;go_wp2_with fail;rw[<- HW0.o];refine(Hrs.o _).mono ?_;rintro e w1 ⟨C,cc,rfl,hru,t1⟩;have hB1:=t1.cell (d_ Hk.o (i:=0) rfl) (by simp);go_wp2_with fail;refine(HI.o C cc w1 _ hru hB1).mono ?_;rintro e w2 ⟨rfl,t2⟩;have T2:=(Tk.o.trans0 t1).trans0 t2;have hr2:=(t1.trans0 t2).blk Hr.o (by simp);have hx2:=(t1.trans0 t2).blk Hx.o (by simp);obtain⟨c0,c1,c2,f0,f1,f2⟩:=ee hr2;go_wp2_with fail;obtain⟨q1,q2⟩:=fN hr2 (.string ⟨#[]⟩) (.slice none 0 0) (.int .i64 0);obtain⟨d0,d1,d2,_⟩:=ee q1;refine aG (v:=.tuple #[.agg #[.string ⟨#[]⟩,.slice none 0 0,.int .i64 0],.bool false]) (by simp[results,Tryz.results145,go_sem,d0,d1,d2]) rfl ⟨?_,T2.trans q2 (λb hb=>.inr (by simp at hb;omega))⟩;unfold kW;rw[Hv.o]
 have hq:=FH (hD _ hri);have hI:=λC cc w'(p:Nat->Prop)(hru:i7 p w' C (fC k))hB=>og C cc (fC k).length (fC k) rfl (w.heap.size+1+1) key w' hru hB (pI k);rw[hD _ hri] at hI;simp only[Cf] at hI;have HI:=lh hI;obtain⟨r,hr⟩:∃r,r=(fC k)[q]:=⟨_,rfl⟩;have Hv:=lh (show jd ⟨k,nm,⟨vk,vn,vt⟩,op⟩=some r by unfold jd;rw[hri];show (fC k)[q]?=_;rw[aX hq,hr]);have hql:=pI k;have hra:=yF k r (by rw[hr];exact am hq);have Hre:=lh hr;clear hI hri hD hr;by_cases h5:k=5;all_goals
 first
  |have hk5:(k==5)=true:=by rw[h5];rfl
   obtain rfl:key=nm:=by rw[Hkey.o];unfold nJ;rw[ae h5]
  |have hk5:(k==5)=false:=by simpa using h5
   obtain rfl:key=op:=by rw[Hkey.o];unfold nJ;rw[ab h5]
 clear h5;go_enter Tryz.func145,Tryz.ntmps145;go_wp2_with fail;rw[<- HW0.o];refine(Hrs.o _).mono ?_;rintro e w1 ⟨C,cc,rfl,hru,t1⟩;have hB1:=t1.cell (d_ Hk.o (i:=0) rfl) (by simp);go_wp2_with fail;refine(HI.o C cc w1 _ hru hB1).mono ?_;rintro e w2 ⟨rfl,t2⟩;have T2:=(Tk.o.trans0 t1).trans0 t2;have hr2:=(t1.trans0 t2).blk Hr.o (by simp);have hx2:=(t1.trans0 t2).blk Hx.o (by simp);obtain⟨c0,c1,c2,f0,f1,f2⟩:=ee hr2;have hru2:=hru.touch0 t2;obtain⟨ad,b,off,B,c1',e1,hadd,z0,z1,z2,hin,hpb,hpB⟩:=hru2.at_ q hq;rw[<- Hre.o] at z0 z1 z2 hin;subst e1;have td:=(Touch.refl [] w2).drew;have x0:=td.cell z0 (by simp);have x1:=td.cell z1 (by simp);have x2:=td.cell z2 (by simp);have x3:=td.cell (d_ hx2 (i:=6) rfl) (by simp);obtain⟨q1,q2⟩:=fN (td.blk hr2 (by simp)) (.string r.name) (.slice B r.args.length c1') (.int .i64 r.o);have hqI0:(0:Int)<=(q:Int):=by omega
 have hqI:(q:Int)<((fC k).length:Int):=by omega
 have hbW:w.heap.size+1+1<=b:=by have h1:=hpb;rw[ao,Hsz.o] at h1;omega
 obtain⟨d0,d1,d2,_⟩:=ee q1;clear z0 z1 z2;go_wp2_with fail;refine wp_region_held_drew (S:=λw'=>w'.cell? ⟨b,off,none⟩=some (.string r.name)/\w'.cell? ⟨b,off+1,none⟩=some (.slice B r.args.length c1')/\w'.cell? ⟨b,off+2,none⟩=some (.int .i64 r.o)/\w'.cell? ⟨w.heap.size,6,none⟩=some (.slice A m c)) (by kernel_rfl) ⟨x0,x1,x2,x3⟩ (λhHeld=> ?_);refine fh (i:=0) (d:=23) (v:= ?_) rfl rfl (by kernel_rfl) (by kernel_rfl) (by kernel_rfl) (λ_ _ _ h=>h) (bI ⟨by rfl, ?_⟩) (by assumption) ?_;rotate_left
 ·intro w hSw;(try dsimp only at hSw);go_simp;(try with_reducible rfl)
 try go_frame
 refine fh (i:=1) (d:=24) (v:= ?_) rfl rfl (by kernel_rfl) (by kernel_rfl) (by kernel_rfl) (λ_ _ _ h=>h) (bI ⟨by rfl, ?_⟩) (by assumption) ?_;rotate_left
 ·intro w hSw;(try dsimp only at hSw);go_simp;(try with_reducible rfl)
 try go_frame
 refine fh (i:=2) (d:=25) (v:= ?_) rfl rfl (by kernel_rfl) (by kernel_rfl) (by kernel_rfl) (λ_ _ _ h=>h) (bI ⟨by rfl, ?_⟩) (by assumption) ?_;rotate_left
 ·intro w hSw;(try dsimp only at hSw);go_simp;(try with_reducible rfl)
 try go_frame
 refine fh (i:=3) (d:=26) (v:= ?_) rfl rfl (by kernel_rfl) (by kernel_rfl) (by kernel_rfl) (λ_ _ _ h=>h) (bI ⟨by rfl, ?_⟩) (by assumption) ?_;rotate_left
 ·intro w hSw;(try dsimp only at hSw);go_simp;(try with_reducible rfl)
 try go_frame
 refine fh (i:=4) (d:=27) (v:= ?_) rfl rfl (by kernel_rfl) (by kernel_rfl) (by kernel_rfl) (λ_ _ _ h=>h) (bI ⟨by rfl, ?_⟩) (by assumption) ?_;rotate_left
 ·intro w hSw;(try dsimp only at hSw);go_simp;(try with_reducible rfl)
 try go_frame
 refine fh (i:=5) (d:=28) (v:= ?_) rfl rfl (by kernel_rfl) (by kernel_rfl) (by kernel_rfl) (λ_ _ _ h=>h) (bI ⟨by rfl, ?_⟩) (by assumption) ?_;rotate_left
 ·intro w hSw;(try dsimp only at hSw);go_simp;(try with_reducible rfl)
 try go_frame
 refine fh (i:=6) (d:=29) (v:= ?_) rfl rfl (by kernel_rfl) (by kernel_rfl) (by kernel_rfl) (λ_ _ _ h=>h) (bI ⟨by rfl, ?_⟩) (by assumption) ?_;rotate_left
 ·intro w hSw;(try dsimp only at hSw);go_simp;(try with_reducible rfl)
 try go_frame
 refine fh (i:=7) (d:=30) (v:= ?_) rfl rfl (by kernel_rfl) (by kernel_rfl) (by kernel_rfl) (λ_ _ _ h=>h) (bI ⟨by rfl, ?_⟩) (by assumption) ?_;rotate_left
 ·intro w hSw;(try dsimp only at hSw);go_simp;(try with_reducible rfl)
 try go_frame
 refine fh (i:=8) (d:=31) (v:= ?_) rfl rfl (by kernel_rfl) (by kernel_rfl) (by kernel_rfl) (λ_ _ _ h=>h) (bI ⟨by rfl, ?_⟩) (by assumption) ?_;rotate_left
 ·intro w hSw;(try dsimp only at hSw);go_simp;(try with_reducible rfl)
 try go_frame
 refine fh (i:=9) (d:=32) (v:= ?_) rfl rfl (by kernel_rfl) (by kernel_rfl) (by kernel_rfl) (λ_ _ _ h=>h) (bI ⟨by rfl, ?_⟩) (by assumption) ?_;rotate_left
 ·intro w hSw;(try dsimp only at hSw);go_simp;(try with_reducible rfl)
 try go_frame
 refine fh (i:=10) (d:=33) (v:= ?_) rfl rfl (by kernel_rfl) (by kernel_rfl) (by kernel_rfl) (λ_ _ _ h=>h) (bI ⟨by rfl, ?_⟩) (by assumption) ?_;rotate_left
 ·intro w hSw;(try dsimp only at hSw);go_simp;(try with_reducible rfl)
 try go_frame
 refine fh (i:=11) (d:=34) (v:= ?_) rfl rfl (by kernel_rfl) (by kernel_rfl) (by kernel_rfl) (λ_ _ _ h=>h) (bI ⟨by rfl, ?_⟩) (by assumption) ?_;rotate_left
 ·intro w hSw;(try dsimp only at hSw);go_simp;(try with_reducible rfl)
 try go_frame
 refine fh (i:=12) (d:=35) (v:= ?_) rfl rfl (by kernel_rfl) (by kernel_rfl) (by kernel_rfl) (λ_ _ _ h=>h) (bI ⟨by rfl, ?_⟩) (by assumption) ?_;rotate_left
 ·intro w hSw;(try dsimp only at hSw);go_simp;(try with_reducible rfl)
 try go_frame
 refine fh (i:=13) (d:=36) (v:= ?_) rfl rfl (by kernel_rfl) (by kernel_rfl) (by kernel_rfl) (λ_ _ _ h=>h) (bI ⟨by rfl, ?_⟩) (by assumption) ?_;rotate_left
 ·intro w hSw;(try dsimp only at hSw);go_simp;(try with_reducible rfl)
 try go_frame
 refine dw (rs:=[14]) (by kernel_rfl) (by simp) ?_;refine cZ rfl (λK hK=> ?_) dm;go_simp;have y0:=q2.cell x0 (by simp only[List.mem_singleton];omega);have y1:=q2.cell x1 (by simp only[List.mem_singleton];omega);have y2:=q2.cell x2 (by simp only[List.mem_singleton];omega);have y3:=q2.cell x3 (by simp only[List.mem_singleton];omega);(try go_wp2_with fail);refine hK.out _ _ ⟨y0,y1,y2,y3⟩ (λ_hH=> ?_);clear hK K;try go_frame
 refine fh (i:=15) (d:=3) (v:= ?_) rfl rfl (by kernel_rfl) (by kernel_rfl) (by kernel_rfl) (λ_ _ _ h=>h) (bI ⟨by rfl, ?_⟩) (by assumption) ?_;rotate_left
 ·intro w hSw;(try dsimp only at hSw);go_simp;(try with_reducible rfl)
 try go_frame
 refine wpAnyH_done (by kernel_rfl) ?_ _;go_wp2_with fail;obtain⟨d0',d1',d2',_⟩:=ee (w:=(((w2.setCell ⟨w.heap.size+1,0,none⟩ (.string r.name)).setCell ⟨w.heap.size+1,1,none⟩ (.slice B r.args.length c1')).setCell ⟨w.heap.size+1,2,none⟩ (.int .i64 r.o)).drew) q1;refine aG (v:=.tuple #[.agg #[.string r.name,.slice B r.args.length c1',.int .i64 r.o],.bool ((m:Int)==(r.args.length:Int))]) (by simp[results,Tryz.results145,go_sem,d0',d1',d2']) rfl ⟨?_,(T2.trans0 td).trans q2 (λb hb=>.inr (by simp at hb;omega))⟩;have hbm:((m:Int)==(r.args.length:Int))=decide (m=r.args.length):=by rw[cD];simp;omega
 unfold kW;rw[Hv.o,hbm];exact⟨B,c1',rfl,d9.touch (jj.touch0 hin td) q2 (λb hb hm=>by have h1:=hpB b hb;rw[ao,Hsz.o] at h1;simp at hm;omega)⟩
end
end Go.Proofs.YtafoklilkdnepaaGreatDoor
