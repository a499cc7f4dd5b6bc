/- Part 6 of the texts of this proof, one behind the other. No condition beyond those that its theorems state. -/
import Derived.Test.YtafoklilkdnepaaGreatDoorRi5
import Derived.BigRegion
import Derived.BigQuiet
import Derived.IntWalk
set_option maxRecDepth 40000
set_option maxHeartbeats 25600000
namespace Go.Proofs.YtafoklilkdnepaaGreatDoor
section
def upd (f:Nat->Nat) (i v:Nat):Nat->Nat:=fun k=>if k=i then v else f k
def swp (f:Nat->Nat) (a b q:Nat):Nat->Nat:=fun k=>if a<=k/\k < a+q then f (k-a+b) else if b<=k/\k < b+q then f (k-b+a) else f k
theorem swp_zero (f:Nat->Nat) (a b:Nat):swp f a b 0=f:=by
 funext k;unfold swp
 rw [if_neg (by omega),if_neg (by omega)]
theorem swp_step (f:Nat->Nat) (a b i:Nat) (h:a+i < b):upd (upd (swp f a b i) (a+i) (f (b+i))) (b+i) (f (a+i))=swp f a b (i+1):=by
 funext k
 simp only [upd,swp]
 repeat' split
 all_goals first
  | rfl
  | (exfalso;omega)
  | (congr 1;omega)
theorem swp_at (f:Nat->Nat) (a b i:Nat) (h:a+i < b):swp f a b i (a+i)=f (a+i)/\swp f a b i (b+i)=f (b+i):=by
 unfold swp
 constructor
 ·rw [if_neg (by omega),if_neg (by omega)]
 ·rw [if_neg (by omega),if_neg (by omega)]
def rot (f:Nat->Nat) (a m b:Nat):Nat->Nat:=fun k=>if a<=k/\k < a+(b-m) then f (k-a+m) else if a+(b-m)<=k/\k < b then f (k-(b-m)) else f k
theorem rot_left (f:Nat->Nat) (m i j:Nat) (hi:i<=m) (h:j < i):rot (swp f (m-i) m j) (m-(i-j)) m (m+j)=rot f (m-i) m (m+j):=by
 funext k
 simp only [swp,rot]
 repeat' split
 all_goals first
  | rfl
  | (exfalso;omega)
  | (congr 1;omega)
theorem rot_right (f:Nat->Nat) (m i j:Nat) (hi:i<=m) (h:i < j):rot (swp f (m-i) (m+j-i) i) (m-i) m (m+(j-i))=rot f (m-i) m (m+j):=by
 funext k
 simp only [swp,rot]
 repeat' split
 all_goals first
  | rfl
  | (exfalso;omega)
  | (congr 1;omega)
theorem rot_same (f:Nat->Nat) (m i:Nat) (hi:i<=m):swp f (m-i) m i=rot f (m-i) m (m+i):=by
 funext k
 simp only [swp,rot]
 repeat' split
 all_goals first
  | rfl
  | (exfalso;omega)
  | (congr 1;omega)
def ltL (D:Nat->Nat) (x y:Nat):Prop:=D x < D y\/(D x=D y/\x < y)
theorem ltL.trans {D:Nat->Nat} {x y z:Nat} (h:ltL D x y) (g:ltL D y z):ltL D x z:=by unfold ltL at *;omega
theorem ltL_irrefl (D:Nat->Nat) (x:Nat):¬ ltL D x x:=by unfold ltL;omega
theorem ltL_num {D:Nat->Nat} {x y:Nat} (h:x < y):ltL D x y ↔ ¬ D y < D x:=by unfold ltL;omega
def Srt (D:Nat->Nat) (f:Nat->Nat) (a b:Nat):Prop:=∀ i j,a<=i->i < j->j < b->ltL D (f i) (f j)
def Lr (f:Nat->Nat) (a m b:Nat):Prop:=∀ i j,a<=i->i < m->m<=j->j < b->f i < f j
def Seg (f:Nat->Nat) (a b x:Nat):Prop:=∃ i,a<=i/\i < b/\f i=x
structure SM (D:Nat->Nat) (f:Nat->Nat) (a b:Nat) (g:Nat->Nat):Prop where
 out:∀ k,k < a\/b<=k->g k=f k
 seg:∀ x,Seg g a b x ↔ Seg f a b x
 srt:Srt D g a b
theorem rot_out {f:Nat->Nat} {a b s m e:Nat} (h1:a<=s) (h2:s<=m) (h3:m<=e) (h4:e<=b) (k:Nat) (hk:k < a\/b<=k):rot f s m e k=f k:=by
 unfold rot
 rw [if_neg (by omega),if_neg (by omega)]
theorem rot_seg {f:Nat->Nat} {a b s m e:Nat} (h1:a<=s) (h2:s<=m) (h3:m<=e) (h4:e<=b) (x:Nat):Seg (rot f s m e) a b x ↔ Seg f a b x:=by
 constructor
 ·rintro ⟨i,hi1,hi2,rfl⟩
  unfold rot
  split
  ·exact ⟨i-s+m,by omega,by omega,rfl⟩
  ·split
   ·exact ⟨i-(e-m),by omega,by omega,rfl⟩
   ·exact ⟨i,hi1,hi2,rfl⟩
 ·rintro ⟨i,hi1,hi2,rfl⟩
  by_cases q1:m<=i/\i < e
  ·refine ⟨i-m+s,by omega,by omega, ?_⟩
   unfold rot
   rw [if_pos (by omega)]
   congr 1;omega
  ·by_cases q2:s<=i/\i < m
   ·refine ⟨i+(e-m),by omega,by omega, ?_⟩
    unfold rot
    rw [if_neg (by omega),if_pos (by omega)]
    congr 1;omega
   ·refine ⟨i,hi1,hi2, ?_⟩
    unfold rot
    rw [if_neg (by omega),if_neg (by omega)]
theorem sm_one {D f:Nat->Nat} {a b i:Nat} (_hab:a+1 < b) (hs:Srt D f (a+1) b) (h1:a+1<=i) (h2:i<=b) (hL:∀ h,a+1<=h->h < i->ltL D (f h) (f a)) (hR:∀ h,i<=h->h < b->ltL D (f a) (f h)):SM D f a b (rot f a (a+1) i) where
 out:=fun k hk=>rot_out (Nat.le_refl _) (by omega) h1 h2 k hk
 seg:=fun x=>rot_seg (Nat.le_refl _) (by omega) h1 h2 x
 srt:=fun p q hp hpq hq=>by
  have e:∀ k,a<=k->k < b->rot f a (a+1) i k=if k+1 < i then f (k+1) else if k+1=i then f a else f k:=fun k hk1 hk2=>by
   unfold rot
   by_cases z:k+1 < i
   ·rw [if_pos (by omega),if_pos z];congr 1;omega
   ·rw [if_neg (by omega),if_neg z]
    by_cases z2:k+1=i
    ·rw [if_pos (by omega),if_pos z2];congr 1;omega
    ·rw [if_neg (by omega),if_neg z2]
  rw [e p hp (by omega),e q (by omega) hq]
  by_cases q1:q+1 < i
  ·rw [if_pos (by omega),if_pos q1];exact hs _ _ (by omega) (by omega) (by omega)
  ·rw [if_neg q1]
   by_cases q2:q+1=i
   ·rw [if_pos q2,if_pos (by omega)];exact hL _ (by omega) (by omega)
   ·rw [if_neg q2]
    by_cases p1:p+1 < i
    ·rw [if_pos p1];exact hs _ _ (by omega) (by omega) hq
    ·rw [if_neg p1]
     by_cases p2:p+1=i
     ·rw [if_pos p2];exact hR _ (by omega) hq
     ·rw [if_neg p2];exact hs _ _ (by omega) hpq hq
theorem sm_last {D f:Nat->Nat} {a m i:Nat} (_ham:a < m) (hs:Srt D f a m) (h1:a<=i) (h2:i<=m) (hL:∀ h,a<=h->h < i->ltL D (f h) (f m)) (hR:∀ h,i<=h->h < m->ltL D (f m) (f h)):SM D f a (m+1) (rot f i m (m+1)) where
 out:=fun k hk=>rot_out h1 h2 (by omega) (Nat.le_refl _) k hk
 seg:=fun x=>rot_seg h1 h2 (by omega) (Nat.le_refl _) x
 srt:=fun p q hp hpq hq=>by
  have e:∀ k,a<=k->k < m+1->rot f i m (m+1) k=if k < i then f k else if k=i then f m else f (k-1):=fun k hk1 hk2=>by
   unfold rot
   by_cases z:k < i
   ·rw [if_neg (by omega),if_neg (by omega),if_pos z]
   ·rw [if_neg z]
    by_cases z2:k=i
    ·rw [if_pos (by omega),if_pos z2];congr 1;omega
    ·rw [if_neg (by omega),if_pos (by omega),if_neg z2];congr 1;omega
  rw [e p hp (by omega),e q (by omega) hq]
  by_cases q1:q < i
  ·rw [if_pos (by omega),if_pos q1];exact hs _ _ hp hpq (by omega)
  ·rw [if_neg q1]
   by_cases q2:q=i
   ·rw [if_pos q2,if_pos (by omega)];exact hL _ hp (by omega)
   ·rw [if_neg q2]
    by_cases p1:p < i
    ·rw [if_pos p1];exact hs _ _ hp (by omega) (by omega)
    ·rw [if_neg p1]
     by_cases p2:p=i
     ·rw [if_pos p2];exact hR _ (by omega) (by omega)
     ·rw [if_neg p2];exact hs _ _ (by omega) (by omega) (by omega)
structure Mid (D f:Nat->Nat) (a m b s e mid:Nat) (g:Nat->Nat):Prop where
 s1:Srt D g a s
 s2:Srt D g s mid
 s3:Srt D g mid e
 s4:Srt D g e b
 l1:Lr g a s mid
 l2:Lr g mid e b
 cr:∀ i j,a<=i->i < mid->mid<=j->j < b->ltL D (g i) (g j)
 out:∀ k,k < a\/b<=k->g k=f k
 seg:∀ x,Seg g a b x ↔ Seg f a b x
theorem mid_of {D f:Nat->Nat} {a m b s mid lo hi:Nat} (ham:a < m) (hmb:m < b) (hs1:Srt D f a m) (hs2:Srt D f m b) (hlr:Lr f a m b) (hmid:mid=(a+b) / 2)
  (hlh:(mid < m/\lo=mid+m-b/\hi=mid)\/(m<=mid/\lo=a/\hi=m)) (hsl:lo<=s) (hsh:s<=hi)
  (hP:∀ c,lo<=c->c < s->ltL D (f c) (f (mid+m-1-c))) (hN:∀ c,s<=c->c < hi->ltL D (f (mid+m-1-c)) (f c)) :
  Mid D f a m b s (mid+m-s) mid (rot f s m (mid+m-s))/\a<=s/\s<=mid/\s<=m/\m<=mid+m-s/\mid+m-s<=b/\mid<=mid+m-s/\a < mid/\mid < b:=by
 have b1:a < mid:=by omega
 have b2:mid < b:=by omega
 have b3:a<=s:=by omega
 have b4:s<=mid:=by omega
 have b5:s<=m:=by omega
 have b6:m<=mid+m-s:=by omega
 have b7:mid+m-s<=b:=by omega
 have e:∀ k,a<=k->k < b->rot f s m (mid+m-s) k=if k < s then f k else if k < mid then f (k-s+m) else if k < mid+m-s then f (k-(mid-s)) else f k:=fun k _ _=>by
  unfold rot
  by_cases z:k < s
  ·rw [if_neg (by omega),if_neg (by omega),if_pos z]
  ·rw [if_neg z]
   by_cases z2:k < mid
   ·rw [if_pos (by omega),if_pos z2]
   ·rw [if_neg (by omega),if_neg z2]
    by_cases z3:k < mid+m-s
    ·rw [if_pos (by omega),if_pos z3];congr 1;omega
    ·rw [if_neg (by omega),if_neg z3]
 have g1:∀ k,a<=k->k < s->rot f s m (mid+m-s) k=f k:=fun k h1 h2=>by rw [e k h1 (by omega),if_pos h2]
 have g2:∀ k,s<=k->k < mid->rot f s m (mid+m-s) k=f (k-s+m):=fun k h1 h2=>by rw [e k (by omega) (by omega),if_neg (by omega),if_pos h2]
 have g3:∀ k,mid<=k->k < mid+m-s->rot f s m (mid+m-s) k=f (k-(mid-s)):=fun k h1 h2=>by rw [e k (by omega) (by omega),if_neg (by omega),if_neg (by omega),if_pos h2]
 have g4:∀ k,mid+m-s<=k->k < b->rot f s m (mid+m-s) k=f k:=fun k h1 h2=>by rw [e k (by omega) h2,if_neg (by omega),if_neg (by omega),if_neg (by omega)]
 have le1:∀ i j,a<=i->i<=j->j < m->i=j\/ltL D (f i) (f j):=fun i j h1 h2 h3=>by
  rcases Nat.eq_or_lt_of_le h2 with q | q
  ·exact .inl q
  ·exact .inr (hs1 i j h1 q h3)
 have le2:∀ i j,m<=i->i<=j->j < b->i=j\/ltL D (f i) (f j):=fun i j h1 h2 h3=>by
  rcases Nat.eq_or_lt_of_le h2 with q | q
  ·exact .inl q
  ·exact .inr (hs2 i j h1 q h3)
 have chain:∀ {x y z t:Nat},(x=y\/ltL D (f x) (f y))->ltL D (f y) (f z)->(z=t\/ltL D (f z) (f t))->ltL D (f x) (f t):=by
  intro x y z t h1 h2 h3
  rcases h1 with rfl | h1 <;> rcases h3 with rfl | h3
  ·exact h2
  ·exact h2.trans h3
  ·exact h1.trans h2
  ·exact (h1.trans h2).trans h3
 refine ⟨⟨fun i j h1 h2 h3 => ?_,fun i j h1 h2 h3 => ?_,fun i j h1 h2 h3 => ?_,fun i j h1 h2 h3 => ?_,fun i j h1 h2 h3 h4 => ?_,fun i j h1 h2 h3 h4 => ?_,fun i j h1 h2 h3 h4 => ?_,fun k hk=>rot_out b3 b5 b6 b7 k hk,fun x=>rot_seg b3 b5 b6 b7 x⟩,b3,b4,b5,b6,b7,by omega,b1,b2⟩
 ·rw [g1 i h1 (by omega),g1 j (by omega) h3];exact hs1 _ _ h1 h2 (by omega)
 ·rw [g2 i h1 (by omega),g2 j (by omega) h3];exact hs2 _ _ (by omega) (by omega) (by omega)
 ·rw [g3 i h1 (by omega),g3 j (by omega) h3];exact hs1 _ _ (by omega) (by omega) (by omega)
 ·rw [g4 i h1 (by omega),g4 j (by omega) h3];exact hs2 _ _ (by omega) h2 h3
 ·rw [g1 i h1 h2,g2 j h3 h4];exact hlr _ _ h1 (by omega) (by omega) (by omega)
 ·rw [g3 i h1 h2,g4 j h3 h4];exact hlr _ _ (by omega) (by omega) (by omega) h4
 ·by_cases q1:i < s
  ·rw [g1 i h1 q1]
   by_cases q2:j < mid+m-s
   ·rw [g3 j h3 q2];exact hs1 _ _ h1 (by omega) (by omega)
   ·rw [g4 j (by omega) h4]
    have hp:=hP (s-1) (by omega) (by omega)
    rw [show mid+m-1-(s-1)=mid+m-s by omega] at hp
    exact chain (le1 i (s-1) h1 (by omega) (by omega)) hp (le2 (mid+m-s) j b6 (by omega) h4)
  ·rw [g2 i (by omega) h2]
   by_cases q2:j < mid+m-s
   ·rw [g3 j h3 q2]
    have hn:=hN s (Nat.le_refl _) (by omega)
    exact chain (le2 (i-s+m) (mid+m-1-s) (by omega) (by omega) (by omega)) hn (le1 s (j-(mid-s)) b3 (by omega) (by omega))
   ·rw [g4 j (by omega) h4];exact hs2 _ _ (by omega) (by omega) h4
theorem mid_join {D f g g1 g2:Nat->Nat} {a m b s e mid:Nat} (h:Mid D f a m b s e mid g) (ha:a < mid) (hb:mid < b) (h1:SM D g a mid g1) (h2:SM D g1 mid b g2):SM D f a b g2 where
 out:=fun k hk=>by rw [h2.out k (by omega),h1.out k (by omega),h.out k hk]
 seg:=fun x=>by
  rw [<- h.seg x]
  constructor
  ·rintro ⟨i,q1,q2,rfl⟩
   by_cases q:i < mid
   ·have:g2 i=g1 i:=h2.out i (.inl q)
    rw [this]
    obtain ⟨j,z1,z2,z3⟩:=(h1.seg (g1 i)).1 ⟨i,q1,q,rfl⟩
    exact ⟨j,z1,by omega,z3⟩
   ·obtain ⟨j,z1,z2,z3⟩:=(h2.seg (g2 i)).1 ⟨i,by omega,q2,rfl⟩
    exact ⟨j,by omega,z2,by rw [<- z3];exact (h1.out j (.inr z1)).symm⟩
  ·rintro ⟨i,q1,q2,rfl⟩
   by_cases q:i < mid
   ·obtain ⟨j,z1,z2,z3⟩:=(h1.seg (g i)).2 ⟨i,q1,q,rfl⟩
    exact ⟨j,z1,by omega,by rw [h2.out j (.inl z2)];exact z3⟩
   ·have e1:g1 i=g i:=h1.out i (.inr (by omega))
    obtain ⟨j,z1,z2,z3⟩:=(h2.seg (g1 i)).2 ⟨i,by omega,q2,rfl⟩
    exact ⟨j,by omega,z2,by rw [z3,e1]⟩
 srt:=fun i j q1 q2 q3=>by
  by_cases z1:j < mid
  ·rw [h2.out i (.inl (by omega)),h2.out j (.inl z1)];exact h1.srt i j q1 q2 z1
  ·by_cases z2:i < mid
   ·have e1:g2 i=g1 i:=h2.out i (.inl z2)
    rw [e1]
    obtain ⟨i',y1,y2,y3⟩:=(h1.seg (g1 i)).1 ⟨i,q1,z2,rfl⟩
    obtain ⟨j',x1,x2,x3⟩:=(h2.seg (g2 j)).1 ⟨j,by omega,q3,rfl⟩
    rw [<- y3,<- x3,h1.out j' (.inr x1)]
    exact h.cr i' j' y1 y2 x1 x2
   ·exact h2.srt i j (by omega) q2 q3
theorem SM.self {D f:Nat->Nat} {a b:Nat} (h:Srt D f a b):SM D f a b f:=⟨fun _ _=>rfl,fun _=>Iff.rfl,h⟩
theorem rot_a (f:Nat->Nat) (a m:Nat):rot f a m m=f:=by
 funext k;unfold rot
 rw [if_neg (by omega)]
 split
 ·rw [Nat.sub_self,Nat.sub_zero]
 ·rfl
theorem rot_b (f:Nat->Nat) (m e:Nat):rot f m m e=f:=by
 funext k;unfold rot
 split
 ·congr 1;omega
 ·rw [if_neg (by omega)]
theorem rot_up (f:Nat->Nat) (a k:Nat) (h:a<=k):upd (upd (rot f a (a+1) (k+1)) k (f (k+1))) (k+1) (f a)=rot f a (a+1) (k+2):=by
 funext x
 simp only [upd,rot]
 repeat' split
 all_goals first
  | rfl
  | (exfalso;omega)
  | (congr 1;omega)
theorem rot_up_at (f:Nat->Nat) (a k:Nat) (h:a<=k):rot f a (a+1) (k+1) k=f a/\rot f a (a+1) (k+1) (k+1)=f (k+1):=by
 simp only [rot]
 constructor
 ·rw [if_neg (by omega),if_pos (by omega)];congr 1;omega
 ·rw [if_neg (by omega),if_neg (by omega)]
theorem rot_dn (f:Nat->Nat) (m k:Nat) (h:k+1<=m):upd (upd (rot f (k+1) m (m+1)) (k+1) (f k)) k (f m)=rot f k m (m+1):=by
 funext x
 simp only [upd,rot]
 repeat' split
 all_goals first
  | rfl
  | (exfalso;omega)
  | (congr 1;omega)
theorem rot_dn_at (f:Nat->Nat) (m k:Nat) (_h:k+1<=m):rot f (k+1) m (m+1) k=f k/\rot f (k+1) m (m+1) (k+1)=f m:=by
 simp only [rot]
 constructor
 ·rw [if_neg (by omega),if_neg (by omega)]
 ·rw [if_pos (by omega)];congr 1;omega
theorem srt_le {D f:Nat->Nat} {a b:Nat} (h:Srt D f a b) (i j:Nat) (h1:a<=i) (h2:i<=j) (h3:j < b):i=j\/ltL D (f i) (f j):=by
 rcases Nat.eq_or_lt_of_le h2 with q | q
 ·exact .inl q
 ·exact .inr (h i j h1 q h3)
theorem srt_lt {D f:Nat->Nat} {a b i j z:Nat} (h:Srt D f a b) (h1:a<=i) (h2:i<=j) (h3:j < b) (hz:ltL D (f j) z):ltL D (f i) z:=by
 rcases srt_le h i j h1 h2 h3 with rfl | q
 ·exact hz
 ·exact q.trans hz
theorem srt_gt {D f:Nat->Nat} {a b i j z:Nat} (h:Srt D f a b) (h1:a<=i) (h2:i<=j) (h3:j < b) (hz:ltL D z (f i)):ltL D z (f j):=by
 rcases srt_le h i j h1 h2 h3 with rfl | q
 ·exact hz
 ·exact hz.trans q
theorem sm_left {D f g:Nat->Nat} {a m b s e mid:Nat} (h:Mid D f a m b s e mid g) (hh:s=a\/s=mid):SM D g a mid g:=by
 refine SM.self ?_
 rcases hh with rfl | rfl
 ·exact h.s2
 ·exact h.s1
theorem sm_right {D f g g1:Nat->Nat} {a m b s e mid:Nat} (h:Mid D f a m b s e mid g) (hh:e=mid\/e=b) (h1:∀ k,mid<=k->g1 k=g k):SM D g1 mid b g1:=by
 refine SM.self ?_
 intro i j q1 q2 q3
 rw [h1 i q1,h1 j (by omega)]
 rcases hh with rfl | rfl
 ·exact h.s4 i j q1 q2 q3
 ·exact h.s3 i j q1 q2 q3
theorem Srt.cong {D f g:Nat->Nat} {a b:Nat} (h:Srt D f a b) (e:∀ k,a<=k->g k=f k):Srt D g a b:=fun i j q1 q2 q3=>by rw [e i q1,e j (by omega)];exact h i j q1 q2 q3
theorem Lr.cong {f g:Nat->Nat} {a m b:Nat} (h:Lr f a m b) (e:∀ k,a<=k->g k=f k):Lr g a m b:=fun i j q1 q2 q3 q4=>by rw [e i q1,e j (by omega)];exact h i j q1 q2 q3 q4
theorem SM.lt {D f g:Nat->Nat} {a b n:Nat} (h:SM D f a b g) (hb:b<=n) (hf:∀ k,k < n->f k < n) (k:Nat) (hk:k < n):g k < n:=by
 by_cases q:a<=k/\k < b
 ·obtain ⟨i,q1,q2,q3⟩:=(h.seg (g k)).1 ⟨k,q.1,q.2,rfl⟩
  rw [<- q3];exact hf i (by omega)
 ·rw [h.out k (by omega)];exact hf k hk
theorem Mid.lt {D f g:Nat->Nat} {a m b s e mid n:Nat} (h:Mid D f a m b s e mid g) (hb:b<=n) (hf:∀ k,k < n->f k < n) (k:Nat) (hk:k < n):g k < n:=by
 by_cases q:a<=k/\k < b
 ·obtain ⟨i,q1,q2,q3⟩:=(h.seg (g k)).1 ⟨k,q.1,q.2,rfl⟩
  rw [<- q3];exact hf i (by omega)
 ·rw [h.out k (by omega)];exact hf k hk
def Up (f:Nat->Nat) (a b:Nat):Prop:=∀ i j,a<=i->i < j->j < b->f i < f j
theorem SM.trans {D f g h:Nat->Nat} {a b:Nat} (h1:SM D f a b g) (h2:SM D g a b h):SM D f a b h where
 out:=fun k hk=>by rw [h2.out k hk,h1.out k hk]
 seg:=fun x=>(h2.seg x).trans (h1.seg x)
 srt:=h2.srt
theorem seg_step {f g:Nat->Nat} {a i:Nat} (hi:a<=i) (h:∀ x,Seg g a i x ↔ Seg f a i x) (e:g i=f i) (x:Nat):Seg g a (i+1) x ↔ Seg f a (i+1) x:=by
 constructor
 ·rintro ⟨k,q1,q2,q3⟩
  by_cases q:k=i
  ·subst q;exact ⟨k,q1,q2,by rw [<- e];exact q3⟩
  ·obtain ⟨j,z1,z2,z3⟩:=(h x).1 ⟨k,q1,by omega,q3⟩
   exact ⟨j,z1,by omega,z3⟩
 ·rintro ⟨k,q1,q2,q3⟩
  by_cases q:k=i
  ·subst q;exact ⟨k,q1,q2,by rw [e];exact q3⟩
  ·obtain ⟨j,z1,z2,z3⟩:=(h x).2 ⟨k,q1,by omega,q3⟩
   exact ⟨j,z1,by omega,z3⟩
theorem in_step {D f g g':Nat->Nat} {a i:Nat} (hi:a<=i) (h1:SM D f a i g) (h2:SM D g a (i+1) g'):SM D f a (i+1) g' where
 out:=fun k hk=>by rw [h2.out k hk,h1.out k (by omega)]
 seg:=fun x=>(h2.seg x).trans (seg_step hi h1.seg (h1.out i (.inr (Nat.le_refl _))) x)
 srt:=h2.srt
theorem in_num {D f g:Nat->Nat} {a b i k:Nat} (hup:Up f a b) (h1:SM D f a i g) (hib:i < b) (hk:a<=k) (hki:k < i):g k < g i:=by
 rw [h1.out i (.inr (Nat.le_refl _))]
 obtain ⟨j,z1,z2,z3⟩:=(h1.seg (g k)).1 ⟨k,hk,hki,rfl⟩
 rw [<- z3];exact hup _ _ z1 z2 hib
end
section
open Go.RowKit
abbrev slV (s:SL):Value:=.slice s.A s.n s.c
def RowV (S:Nat->SL) (w:World) (G c n:Nat) (f:Nat->Nat):Prop:=OwnK 33 1 (fun s=>[slV s]) w (some ⟨G,0,none⟩) c ((List.range n).map fun k=>S (f k))
theorem RowV.cell {S:Nat->SL} {w:World} {G c n:Nat} {f:Nat->Nat} (h:RowV S w G c n f) (k:Nat) (hk:k < n):w.cell? ⟨G,k,none⟩=some (Value.slice (SL.A (S (f k))) (SL.n (S (f k))) (SL.c (S (f k)))):=by
 have:=OwnK.cell1 h k (by simpa using hk)
 simpa using this
theorem RowV.free {S:Nat->SL} {w:World} {G c n:Nat} {f:Nat->Nat} (h:RowV S w G c n f) (k:Nat):w.frozen? ⟨G,k,none⟩=false:=OwnK.free_ h k
theorem RowV.touch {S:Nat->SL} {w w':World} {G c n:Nat} {f:Nat->Nat} {fp:List Nat} (h:RowV S w G c n f) (ht:Touch fp w w') (hn:G∉fp):RowV S w' G c n f:=OwnK.touch h ht (fun b hb=>by simp [fpo] at hb;subst hb;exact hn)
theorem RowV.touch0 {S:Nat->SL} {w w':World} {G c n:Nat} {f:Nat->Nat} (h:RowV S w G c n f) (ht:Touch [] w w'):RowV S w' G c n f:=h.touch ht (by simp)
theorem RowV.set {S:Nat->SL} {w:World} {G c n:Nat} {f:Nat->Nat} (h:RowV S w G c n f) (i v:Nat) (hi:i < n):RowV S (w.setCell ⟨G,i,none⟩ (Value.slice (SL.A (S v)) (SL.n (S v)) (SL.c (S v)))) G c n (upd f i v):=by
 have:=OwnK.set1 h i (by simpa using hi) (S v)
 have e:((List.range n).map fun k=>S (f k)).set i (S v)=(List.range n).map fun k=>S (upd f i v k):=by
  apply List.ext_getElem
  ·simp
  ·intro j h1 h2
   simp only [List.getElem_set,List.getElem_map,List.getElem_range,upd]
   by_cases q:i=j
   ·subst q;simp
   ·have q2:¬ j=i:=fun e=>q e.symm
    simp [q,q2]
 unfold RowV
 rw [<- e];exact this
theorem swapR_any (G c n:Nat) (hn:n<=100000) (S:Nat->SL) (f:Nat->Nat) (a b q:Nat) (hab:a+q<=b) (hb:b+q<=n) (fv:Value) (w:World) (h:RowV S w G c n f) :
  Calls Tryz.prog 211 #[.slice (some ⟨G,0,none⟩) n c,.int .i64 a,.int .i64 b,.int .i64 q,fv] w fun e w'=>e=.returned (.tuple #[])/\RowV S w' G c n (swp f a b q)/\Touch [G] w w':=by
 have H0:Hid (RowV S w G c n (swp f a b 0)):=lh (by rw [swp_zero];exact h)
 clear h
 go_enter Tryz.func211,Tryz.ntmps211
 go_wp2_with fail
 go_loopw [10] (fun y wr=>∃ i:Nat,i<=q/\y=.int .i64 i/\Hid (RowV S wr G c n (swp f a b i))/\Hid (Touch [G] w wr)) (fun y _=>q-(intOf y).toNat)
 case atStart=>exact ⟨0,by omega,rfl,H0,lh (Touch.refl _ _)⟩
 case round =>
  clear H0
  obtain ⟨i,hi,rfl,HR,HT⟩:=hrel
  by_cases hlt:i < q
  ·have ca:=HR.out.cell (a+i) (by omega)
   have cb:=HR.out.cell (b+i) (by omega)
   have fa:=HR.out.free (a+i)
   have fb:=HR.out.free (b+i)
   have hat:=swp_at f a b i (by omega)
   rw [hat.1] at ca
   rw [hat.2] at cb
   have hne:a+i≠b+i:=by omega
   obtain ⟨x,hx⟩:∃ x,x=f (a+i):=⟨_,rfl⟩
   obtain ⟨y,hy⟩:∃ y,y=f (b+i):=⟨_,rfl⟩
   rw [<- hx] at ca
   rw [<- hy] at cb
   have hs:=(HR.out.set (a+i) y (by omega)).set (b+i) x (by omega)
   rw [hx,hy,swp_step f a b i (by omega),<- hx,<- hy] at hs
   have HS:=lh hs
   have HT2:=lh ((HT.out.setCell (p:=⟨G,a+i,none⟩) (.inl (by simp)) (Value.slice (SL.A (S y)) (SL.n (S y)) (SL.c (S y)))).setCell (p:=⟨G,b+i,none⟩) (.inl (by simp)) (Value.slice (SL.A (S x)) (SL.n (S x)) (SL.c (S x))))
   clear hat hx hy hs
   go_wp2_with fail
   go_region
   go_wp2_with fail
   go_roundw
   case rel=>exact ⟨i+1,by omega,by go_num,lh (HS.out.touch0 (Touch.refl [] _).drew),lh HT2.out.drew⟩
   case measure=>simp [intOf];omega
  ·obtain rfl:i=q:=by omega
   go_wp2
   go_end0
   exact ⟨rfl,HR.out,HT.out⟩
theorem rotate_any (G c n:Nat) (hn:n<=100000) (S:Nat->SL) (f:Nat->Nat) (a m b:Nat) (ham:a < m) (hmb:m < b) (hb:b<=n) (fv:Value) (w:World) (h:RowV S w G c n f) :
  Calls Tryz.prog 203 #[.slice (some ⟨G,0,none⟩) n c,.int .i64 a,.int .i64 m,.int .i64 b,fv] w fun e w'=>e=.returned (.tuple #[])/\RowV S w' G c n (rot f a m b)/\Touch [G] w w':=by
 have H0:Hid (rot f (m-(m-a)) m (m+(b-m))=rot f a m b):=lh (by rw [show m-(m-a)=a by omega,show m+(b-m)=b by omega])
 have HR0:=lh h
 clear h
 go_enter Tryz.func203,Tryz.ntmps203
 go_wp2_with fail
 go_loopw [10,11] (fun x y wr=>∃ (i j:Nat) (g:Nat->Nat),0 < i/\0 < j/\i<=m-a/\j<=b-m/\x=.int .i64 i/\y=.int .i64 j/\Hid (rot g (m-i) m (m+j)=rot f a m b)/\Hid (RowV S wr G c n g)/\Hid (Touch [G] w wr)) (fun x y _=>(intOf x).toNat+(intOf y).toNat)
 case atStart=>exact ⟨m-a,b-m,f,by omega,by omega,by omega,by omega,by congr 1;omega,by congr 1;omega,H0,HR0,lh (Touch.refl _ _)⟩
 case round =>
  clear H0 HR0
  obtain ⟨i,j,g,hi,hj,him,hjb,rfl,rfl,HE,HR,HT⟩:=hrel
  have e1:(m:Int)-(i:Int)=((m-i:Nat):Int):=by omega
  by_cases hij:i=j
  ·subst hij
   have hS:=swapR_any G c n hn S g (m-i) m i (by omega) (by omega) fv wr HR.out
   rw [rot_same g m i (by omega),HE.out] at hS
   have HS:=lh hS
   clear hS
   go_wp2_with fail
   (try rw [e1])
   refine HS.out.mono ?_
   rintro e w2 ⟨rfl,hr,ht⟩
   go_wp2_with fail
   go_end0
   exact ⟨rfl,hr,HT.out.trans ht (fun b hb=>.inl hb)⟩
  ·have hij':(i:Int)≠j:=by omega
   have hne:((i:Int) != (j:Int))=true:=by simp;omega
   by_cases hlt:j < i
   ·have hS:=swapR_any G c n hn S g (m-i) m j (by omega) (by omega) fv wr HR.out
    have HS:=lh hS
    have HE2:=lh ((rot_left g m i j (by omega) hlt).trans HE.out)
    have e2:(i:Int)-(j:Int)=((i-j:Nat):Int):=by omega
    have hlt':(j:Int) < (i:Int):=by omega
    clear hS
    go_wp2_with fail
    (try rw [e1])
    refine HS.out.mono ?_
    rintro e w2 ⟨rfl,hr,ht⟩
    have HR2:=lh hr
    have HT2:=lh (HT.out.trans ht (fun b hb=>.inl hb))
    clear hr ht HS
    go_wp2_with fail
    go_roundw
    case rel=>exact ⟨i-j,j,_,by omega,by omega,by omega,by omega,by rw [<- e2],rfl,HE2,HR2,HT2⟩
    case measure=>simp [intOf];omega
   ·have hlt':((j:Int) < (i:Int))=False:=by simp;omega
    have hS:=swapR_any G c n hn S g (m-i) (m+j-i) i (by omega) (by omega) fv wr HR.out
    have HS:=lh hS
    have HE2:=lh ((rot_right g m i j (by omega) (by omega)).trans HE.out)
    have e2:(j:Int)-(i:Int)=((j-i:Nat):Int):=by omega
    have e3:(m:Int)+(j:Int)-(i:Int)=((m+j-i:Nat):Int):=by omega
    clear hS
    go_wp2_with fail
    (try rw [e1])
    (try rw [e3])
    refine HS.out.mono ?_
    rintro e w2 ⟨rfl,hr,ht⟩
    have HR2:=lh hr
    have HT2:=lh (HT.out.trans ht (fun b hb=>.inl hb))
    clear hr ht HS
    go_wp2_with fail
    go_roundw
    case rel=>exact ⟨i,j-i,_,by omega,by omega,by omega,by omega,rfl,by rw [<- e2],HE2,HR2,HT2⟩
    case measure=>simp [intOf];omega
end
section
open Go.RowKit
variable (FN:Nat) (CL:List Value)
def CmpOkG (S:Nat->SL) (R:Nat->Nat->Int) (G n:Nat) (w0:World):Prop:=∀ wr,Touch [G] w0 wr->∀ x y:Nat,x < n->y < n ->
 Calls Tryz.prog FN ((Value.slice (SL.A (S x)) (SL.n (S x)) (SL.c (S x))) :: (Value.slice (SL.A (S y)) (SL.n (S y)) (SL.c (S y))) :: CL).toArray wr fun e w'=>e=.returned (.int .i64 (R x y))/\Touch [] wr w'
def SmSpecG (S:Nat->SL) (G c n:Nat) (D:Nat->Nat) (w0:World) (a m b:Nat):Prop:=∀ (f:Nat->Nat) (wr:World),RowV S wr G c n f->Touch [G] w0 wr->Srt D f a m->Srt D f m b->Lr f a m b->(∀ k,k < n->f k < n) ->
 Calls Tryz.prog 178 #[.slice (some ⟨G,0,none⟩) n c,.int .i64 a,.int .i64 m,.int .i64 b,.func (.func FN) #[] CL.toArray] wr fun e w' =>
  e=.returned (.tuple #[])/\∃ g,RowV S w' G c n g/\SM D f a b g/\Touch [G] wr w'
theorem smg_first (hFN:∀ (args:Array Value) (wk:World),(callFunc FN args).run Tryz.prog wk=.ok (.enter FN args) wk) (G c n:Nat) (hn:n<=100000) (S:Nat->SL) (R:Nat->Nat->Int) (D:Nat->Nat) (hRD:∀ x y,R x y < 0 ↔ D x < D y) (w0:World) (hC:CmpOkG FN CL S R G n w0) (a b:Nat) (hab:a+1 < b) (hb:b<=n):SmSpecG FN CL S G c n D w0 a (a+1) b:=by
 intro f wr hR hT hs1 hs2 hlr hfn
 obtain ⟨W0,hW0⟩:∃ W0,W0=wr:=⟨_,rfl⟩
 subst hW0
 have HR:=lh hR
 have HT:=lh hT
 have HS:=lh (And.intro hs2 hlr)
 have HC:=lh hC
 have e1:(((a+1:Nat):Int)-(a:Int))=1:=by omega
 clear hR hT hs1 hs2 hlr hC
 go_enter Tryz.func178,Tryz.ntmps178
 go_wp2_with fail
 go_loopw [10,11] (fun x y w1=>∃ i j:Nat,a+1<=i/\i<=j/\j<=b/\x=.int .i64 i/\y=.int .i64 j/\Hid (∀ h,a+1<=h->h < i->ltL D (f h) (f a))/\Hid (∀ h,j<=h->h < b->ltL D (f a) (f h))/\Hid (Touch [] W0 w1)) (fun x y _=>(intOf y).toNat-(intOf x).toNat)
 case atStart=>exact ⟨a+1,b,by omega,by omega,by omega,by go_num,rfl,lh (fun h q1 q2=>absurd q1 (by omega)),lh (fun h q1 q2=>absurd q1 (by omega)),lh (Touch.refl _ _)⟩
 case round =>
  obtain ⟨i,j,hi,hij,hj,rfl,rfl,HL,HH,HW⟩:=hrel
  have hT1:Touch [G] w0 wr:=HT.out.trans HW.out (by simp)
  have hR1:RowV S wr G c n f:=HR.out.touch0 HW.out
  by_cases hlt:i < j
  ·obtain ⟨h,hh⟩:∃ h,h=(i+j) / 2:=⟨_,rfl⟩
   have hhi:i<=h:=by omega
   have hhj:h < j:=by omega
   have ch:=TW.cell (hR1.cell h (by omega))
   have ca:=TW.cell (hR1.cell a (by omega))
   obtain ⟨r,hr⟩:∃ r,r=R (f h) (f a):=⟨_,rfl⟩
   have hc:∀ x8:TW wr,Calls Tryz.prog FN ((Value.slice (SL.A (S (f h))) (SL.n (S (f h))) (SL.c (S (f h)))) :: (Value.slice (SL.A (S (f a))) (SL.n (S (f a))) (SL.c (S (f a)))) :: CL).toArray x8.w fun e w'=>e=.returned (.int .i64 r)/\Touch [] x8.w w':=fun x8=>by
    rw [hr]
    exact HC.out _ (Touch.trans hT1 x8.t (by simp)) (f h) (f a) (hfn _ (by omega)) (hfn _ (by omega))
   have HR1:=lh hR1
   have HT1:=lh hT1
   have HCC:=lh hc
   have HQ:=lh hr
   have he:((i:Int)+(j:Int)) / 2=(h:Int):=by omega
   clear hR1 hT1 hc hr hh
   go_wp2_with fail
   refine wp_region_tw wr (Touch.refl _ _) (by kernel_rfl) (by kernel_rfl) ?_
   repeat (go_big_quiet_step (((exact Calls.tw _ (HCC.out _)))))
   refine wpQuiet_nil ?_
   rintro _ ⟨x9,rfl⟩
   by_cases hr0:r < 0
   ·go_wp2_with fail
    go_roundw
    case rel =>
     have q:=(hRD _ _).1 (HQ.out ▸ hr0)
     have q2:ltL D (f h) (f a):=.inl (by omega)
     exact ⟨h+1,j,by omega,by omega,hj,by go_num,rfl,lh (fun x x1 x2=>srt_lt HS.out.1 x1 (by omega) (by omega) q2),HH,lh (HW.out.trans0 x9.t)⟩
    case measure=>simp [intOf];omega
   ·have hr1:(r < 0)=False:=by simp;omega
    go_wp2_with fail
    go_roundw
    case rel =>
     have q:=mt (hRD (f h) (f a)).2 (HQ.out ▸ hr0)
     have q2:ltL D (f a) (f h):=(ltL_num (HS.out.2 a h (by omega) (by omega) (by omega) (by omega))).2 (by omega)
     exact ⟨i,h,by omega,by omega,by omega,rfl,by go_num,HL,lh (fun x x1 x2=>srt_gt HS.out.1 (by omega) x1 x2 q2),lh (HW.out.trans0 x9.t)⟩
    case measure=>simp [intOf];omega
  ·obtain rfl:i=j:=by omega
   have H0:Hid (RowV S wr G c n (rot f a (a+1) (a+1))):=lh (by rw [rot_a];exact hR1)
   have HT1:=lh hT1
   have HW1:Hid (Touch [G] W0 wr):=lh (HW.out.mono (by simp))
   have e2:(i:Int)-1=((i-1:Nat):Int):=by omega
   clear hR1 hT1
   go_wp2_with fail
   go_loopw [13] (fun y w1=>∃ k:Nat,a<=k/\k+1<=i/\y=.int .i64 k/\Hid (RowV S w1 G c n (rot f a (a+1) (k+1)))/\Hid (Touch [G] W0 w1)) (fun y _=>i-(intOf y).toNat)
   case atStart=>exact ⟨a,by omega,by omega,rfl,H0,HW1⟩
   case round =>
    clear H0 HW1 HT1
    obtain ⟨k,hk,hki,rfl,HRk,HTk⟩:=hrel
    by_cases hlt:k+1 < i
    ·have hlt2:(k:Int) < ((i-1:Nat):Int):=by omega
     have ca:=HRk.out.cell k (by omega)
     have cb:=HRk.out.cell (k+1) (by omega)
     have fa:=HRk.out.free k
     have fb:=HRk.out.free (k+1)
     have hat:=rot_up_at f a k hk
     rw [hat.1] at ca
     rw [hat.2] at cb
     obtain ⟨x,hx⟩:∃ x,x=f a:=⟨_,rfl⟩
     obtain ⟨y,hy⟩:∃ y,y=f (k+1):=⟨_,rfl⟩
     rw [<- hx] at ca
     rw [<- hy] at cb
     have hs:=(HRk.out.set k y (by omega)).set (k+1) x (by omega)
     rw [hx,hy,rot_up f a k hk,<- hx,<- hy] at hs
     have HS2:=lh hs
     have HT2:=lh ((HTk.out.setCell (p:=⟨G,k,none⟩) (.inl (by simp)) (Value.slice (SL.A (S y)) (SL.n (S y)) (SL.c (S y)))).setCell (p:=⟨G,k+1,none⟩) (.inl (by simp)) (Value.slice (SL.A (S x)) (SL.n (S x)) (SL.c (S x))))
     have hne:k≠k+1:=by omega
     clear hat hx hy hs
     go_wp2_with fail
     go_region
     go_wp2_with fail
     go_roundw
     case rel=>exact ⟨k+1,by omega,by omega,by go_num,lh (HS2.out.touch0 (Touch.refl [] _).drew),lh HT2.out.drew⟩
     case measure=>simp [intOf];omega
    ·have hlt2:((k:Int) < ((i-1:Nat):Int))=False:=by simp;omega
     go_wp2
     refine bodyPost_ret (results_none rfl _ _ _) rfl ?_
     obtain rfl:k+1=i:=by omega
     exact ⟨rfl,_,HRk.out,sm_one hab HS.out.1 (by omega) hj HL.out HH.out,HTk.out⟩
theorem smg_back (hFN:∀ (args:Array Value) (wk:World),(callFunc FN args).run Tryz.prog wk=.ok (.enter FN args) wk) (G c n:Nat) (hn:n<=100000) (S:Nat->SL) (R:Nat->Nat->Int) (D:Nat->Nat) (hRD:∀ x y,R x y < 0 ↔ D x < D y) (w0:World) (hC:CmpOkG FN CL S R G n w0) (a m:Nat) (ham:a+1 < m) (hb:m+1<=n):SmSpecG FN CL S G c n D w0 a m (m+1):=by
 intro f wr hR hT hs1 hs2 hlr hfn
 obtain ⟨W0,hW0⟩:∃ W0,W0=wr:=⟨_,rfl⟩
 subst hW0
 have HR:=lh hR
 have HT:=lh hT
 have HS:=lh (And.intro hs1 hlr)
 have HC:=lh hC
 have HF:=lh hfn
 have e1:((m:Int)-(a:Int)==1)=false:=by simp;omega
 have e2:(((m+1:Nat):Int)-(m:Int))=1:=by omega
 clear hR hT hs1 hs2 hlr hC hfn
 go_enter Tryz.func178,Tryz.ntmps178
 go_wp2_with fail
 go_loopw [14,15] (fun x y w1=>∃ i j:Nat,a<=i/\i<=j/\j<=m/\x=.int .i64 i/\y=.int .i64 j/\Hid (∀ h,a<=h->h < i->ltL D (f h) (f m))/\Hid (∀ h,j<=h->h < m->ltL D (f m) (f h))/\Hid (Touch [] W0 w1)) (fun x y _=>(intOf y).toNat-(intOf x).toNat)
 case atStart=>exact ⟨a,m,by omega,by omega,by omega,rfl,rfl,lh (fun h q1 q2=>absurd q1 (by omega)),lh (fun h q1 q2=>absurd q1 (by omega)),lh (Touch.refl _ _)⟩
 case round =>
  obtain ⟨i,j,hi,hij,hj,rfl,rfl,HL,HH,HW⟩:=hrel
  have hT1:Touch [G] w0 wr:=HT.out.trans HW.out (by simp)
  have hR1:RowV S wr G c n f:=HR.out.touch0 HW.out
  by_cases hlt:i < j
  ·obtain ⟨h,hh⟩:∃ h,h=(i+j) / 2:=⟨_,rfl⟩
   have hhi:i<=h:=by omega
   have hhj:h < j:=by omega
   have ch:=TW.cell (hR1.cell h (by omega))
   have ca:=TW.cell (hR1.cell m (by omega))
   obtain ⟨r,hr⟩:∃ r,r=R (f m) (f h):=⟨_,rfl⟩
   have hc:∀ x8:TW wr,Calls Tryz.prog FN ((Value.slice (SL.A (S (f m))) (SL.n (S (f m))) (SL.c (S (f m)))) :: (Value.slice (SL.A (S (f h))) (SL.n (S (f h))) (SL.c (S (f h)))) :: CL).toArray x8.w fun e w'=>e=.returned (.int .i64 r)/\Touch [] x8.w w':=fun x8=>by
    rw [hr]
    exact HC.out _ (Touch.trans hT1 x8.t (by simp)) (f m) (f h) (HF.out _ (by omega)) (HF.out _ (by omega))
   have HR1:=lh hR1
   have HT1:=lh hT1
   have HCC:=lh hc
   have HQ:=lh hr
   have he:((i:Int)+(j:Int)) / 2=(h:Int):=by omega
   clear hR1 hT1 hc hr hh
   go_wp2_with fail
   by_cases hr0:r < 0
   ·refine wp_region_tw wr (Touch.refl _ _) (by kernel_rfl) (by kernel_rfl) ?_
    repeat (go_big_quiet_step (((exact Calls.tw _ (HCC.out _)))))
    refine wpQuiet_nil ?_
    rintro _ ⟨x9,rfl⟩
    go_wp2_with fail
    go_roundw
    case rel =>
     have q:=(hRD _ _).1 (HQ.out ▸ hr0)
     have q2:ltL D (f m) (f h):=.inl (by omega)
     exact ⟨i,h,by omega,by omega,by omega,rfl,by go_num,HL,lh (fun x x1 x2=>srt_gt HS.out.1 (by omega) x1 x2 q2),lh (HW.out.trans0 x9.t)⟩
    case measure=>simp [intOf];omega
   ·have hr1:(r < 0)=False:=by simp;omega
    refine wp_region_tw wr (Touch.refl _ _) (by kernel_rfl) (by kernel_rfl) ?_
    repeat (go_big_quiet_step (((exact Calls.tw _ (HCC.out _)))))
    refine wpQuiet_nil ?_
    rintro _ ⟨x9,rfl⟩
    go_wp2_with fail
    go_roundw
    case rel =>
     have q:=mt (hRD (f m) (f h)).2 (HQ.out ▸ hr0)
     have q2:ltL D (f h) (f m):=(ltL_num (HS.out.2 h m (by omega) (by omega) (by omega) (by omega))).2 (by omega)
     exact ⟨h+1,j,by omega,by omega,hj,by go_num,rfl,lh (fun x x1 x2=>srt_lt HS.out.1 x1 (by omega) (by omega) q2),HH,lh (HW.out.trans0 x9.t)⟩
    case measure=>simp [intOf];omega
  ·obtain rfl:i=j:=by omega
   have H0:Hid (RowV S wr G c n (rot f m m (m+1))):=lh (by rw [rot_b];exact hR1)
   have HT1:=lh hT1
   have HW1:Hid (Touch [G] W0 wr):=lh (HW.out.mono (by simp))
   clear hR1 hT1
   go_wp2_with fail
   go_loopw [17] (fun y w1=>∃ k:Nat,i<=k/\k<=m/\y=.int .i64 k/\Hid (RowV S w1 G c n (rot f k m (m+1)))/\Hid (Touch [G] W0 w1)) (fun y _=>(intOf y).toNat-i)
   case atStart=>exact ⟨m,by omega,by omega,rfl,H0,HW1⟩
   case round =>
    clear H0 HW1 HT1
    obtain ⟨k',hk,hki,rfl,HRk,HTk⟩:=hrel
    by_cases hlt:i < k'
    ·obtain ⟨k,rfl⟩:∃ k,k'=k+1:=⟨k'-1,by omega⟩
     have hlt2:(i:Int) < ((k+1:Nat):Int):=by omega
     have ca:=HRk.out.cell k (by omega)
     have cb:=HRk.out.cell (k+1) (by omega)
     have fa:=HRk.out.free k
     have fb:=HRk.out.free (k+1)
     have hat:=rot_dn_at f m k hki
     rw [hat.1] at ca
     rw [hat.2] at cb
     obtain ⟨x,hx⟩:∃ x,x=f m:=⟨_,rfl⟩
     obtain ⟨y,hy⟩:∃ y,y=f k:=⟨_,rfl⟩
     rw [<- hy] at ca
     rw [<- hx] at cb
     have hs:=(HRk.out.set (k+1) y (by omega)).set k x (by omega)
     rw [hx,hy,rot_dn f m k hki,<- hx,<- hy] at hs
     have HS2:=lh hs
     have HT2:=lh ((HTk.out.setCell (p:=⟨G,k+1,none⟩) (.inl (by simp)) (Value.slice (SL.A (S y)) (SL.n (S y)) (SL.c (S y)))).setCell (p:=⟨G,k,none⟩) (.inl (by simp)) (Value.slice (SL.A (S x)) (SL.n (S x)) (SL.c (S x))))
     have e3:((k+1:Nat):Int)-1=(k:Int):=by omega
     have hne:k+1≠k:=by omega
     clear hat hx hy hs
     go_wp2_with fail
     go_region
     go_wp2_with fail
     go_roundw
     case rel=>exact ⟨k,by omega,by omega,by go_num,lh (HS2.out.touch0 (Touch.refl [] _).drew),lh HT2.out.drew⟩
     case measure=>simp [intOf];omega
    ·obtain rfl:i=k':=by omega
     have hlt2:((i:Int) < (i:Int))=False:=by simp
     go_wp2
     refine bodyPost_ret (results_none rfl _ _ _) rfl ?_
     exact ⟨rfl,_,HRk.out,sm_last (by omega) HS.out.1 hi hj HL.out HH.out,HTk.out⟩
end
end Go.Proofs.YtafoklilkdnepaaGreatDoor
