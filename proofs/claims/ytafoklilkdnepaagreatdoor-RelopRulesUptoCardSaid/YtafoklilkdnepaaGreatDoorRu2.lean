/- Part 2 of the texts of this proof, one behind the other; each begins with its own sentence. No condition beyond those that its theorems state. -/
import Derived.Test.YtafoklilkdnepaaGreatDoorRu1
import Derived.Shelf.Small.Bits
import Derived.Shelf.Small.Strs
import Derived.Shelf.Small.Wraps
import Derived.Shelf.Strconv.Itoa0
import Derived.Shelf.Strconv.Itoa1
import Derived.Shelf.LaysM
import Derived.Shelf.Strconv.Itoa2
import Derived.Shelf.Strconv.Itoa3
import Derived.Shelf.Strings.Search1
import Derived.Test.YtafoklilkdnepaaGreatDoorProg
import Derived.StillTailTactics
import Derived.Lib.IndexMore
import Derived.Lib.Join
/- Rows told by functions; segments exchanged; two sorted runs made one; what stable sorting needs. Plainly. -/
namespace Go.Proofs.YtafoklilkdnepaaGreatDoor

def upd (f : Nat → Nat) (i v : Nat) : Nat → Nat := fun k => if k = i then v else f k
/-- so many from a on exchanged with as many from b on -/
def swp (f : Nat → Nat) (a b q : Nat) : Nat → Nat := fun k => if a ≤ k ∧ k < a + q then f (k - a + b) else if b ≤ k ∧ k < b + q then f (k - b + a) else f k
theorem swp_zero (f : Nat → Nat) (a b : Nat) : swp f a b 0 = f := by
 funext k; unfold swp
 rw [if_neg (by omega), if_neg (by omega)]
theorem swp_step (f : Nat → Nat) (a b i : Nat) (h : a + i < b) : upd (upd (swp f a b i) (a + i) (f (b + i))) (b + i) (f (a + i)) = swp f a b (i + 1) := by
 funext k
 simp only [upd, swp]
 repeat' split
 all_goals first
  | rfl
  | (exfalso; omega)
  | (congr 1; omega)
theorem swp_at (f : Nat → Nat) (a b i : Nat) (h : a + i < b) : swp f a b i (a + i) = f (a + i) ∧ swp f a b i (b + i) = f (b + i) := by
 unfold swp
 constructor
 ·rw [if_neg (by omega), if_neg (by omega)]
 ·rw [if_neg (by omega), if_neg (by omega)]
/-- [a, m) and [m, b) exchanged -/
def rot (f : Nat → Nat) (a m b : Nat) : Nat → Nat := fun k => if a ≤ k ∧ k < a + (b - m) then f (k - a + m) else if a + (b - m) ≤ k ∧ k < b then f (k - (b - m)) else f k
theorem rot_left (f : Nat → Nat) (m i j : Nat) (hi : i ≤ m) (h : j < i) : rot (swp f (m - i) m j) (m - (i - j)) m (m + j) = rot f (m - i) m (m + j) := by
 funext k
 simp only [swp, rot]
 repeat' split
 all_goals first
  | rfl
  | (exfalso; omega)
  | (congr 1; omega)
theorem rot_right (f : Nat → Nat) (m i j : Nat) (hi : i ≤ m) (h : i < j) : rot (swp f (m - i) (m + j - i) i) (m - i) m (m + (j - i)) = rot f (m - i) m (m + j) := by
 funext k
 simp only [swp, rot]
 repeat' split
 all_goals first
  | rfl
  | (exfalso; omega)
  | (congr 1; omega)
theorem rot_same (f : Nat → Nat) (m i : Nat) (hi : i ≤ m) : swp f (m - i) m i = rot f (m - i) m (m + i) := by
 funext k
 simp only [swp, rot]
 repeat' split
 all_goals first
  | rfl
  | (exfalso; omega)
  | (congr 1; omega)
/-- by depth, then by number -/
def ltL (D : Nat → Nat) (x y : Nat) : Prop := D x < D y ∨ (D x = D y ∧ x < y)
theorem ltL.trans {D : Nat → Nat} {x y z : Nat} (h : ltL D x y) (g : ltL D y z) : ltL D x z := by unfold ltL at *; omega
theorem ltL_irrefl (D : Nat → Nat) (x : Nat) : ¬ ltL D x x := by unfold ltL; omega
/-- the one with the less number stands first just if the other's depth is not less -/
theorem ltL_num {D : Nat → Nat} {x y : Nat} (h : x < y) : ltL D x y ↔ ¬ D y < D x := by unfold ltL; omega
theorem ltL_num2 {D : Nat → Nat} {x y : Nat} (h : x < y) : ltL D y x ↔ D y < D x := by unfold ltL; omega
def Srt (D : Nat → Nat) (f : Nat → Nat) (a b : Nat) : Prop := ∀ i j, a ≤ i → i < j → j < b → ltL D (f i) (f j)
def Lr (f : Nat → Nat) (a m b : Nat) : Prop := ∀ i j, a ≤ i → i < m → m ≤ j → j < b → f i < f j
def Seg (f : Nat → Nat) (a b x : Nat) : Prop := ∃ i, a ≤ i ∧ i < b ∧ f i = x
structure SM (D : Nat → Nat) (f : Nat → Nat) (a b : Nat) (g : Nat → Nat) : Prop where
 out : ∀ k, k < a ∨ b ≤ k → g k = f k
 seg : ∀ x, Seg g a b x ↔ Seg f a b x
 srt : Srt D g a b
theorem rot_out {f : Nat → Nat} {a b s m e : Nat} (h1 : a ≤ s) (h2 : s ≤ m) (h3 : m ≤ e) (h4 : e ≤ b) (k : Nat) (hk : k < a ∨ b ≤ k) : rot f s m e k = f k := by
 unfold rot
 rw [if_neg (by omega), if_neg (by omega)]
theorem rot_seg {f : Nat → Nat} {a b s m e : Nat} (h1 : a ≤ s) (h2 : s ≤ m) (h3 : m ≤ e) (h4 : e ≤ b) (x : Nat) : Seg (rot f s m e) a b x ↔ Seg f a b x := by
 constructor
 ·rintro ⟨i, hi1, hi2, rfl⟩
  unfold rot
  split
  ·exact ⟨i - s + m, by omega, by omega, rfl⟩
  ·split
   ·exact ⟨i - (e - m), by omega, by omega, rfl⟩
   ·exact ⟨i, hi1, hi2, rfl⟩
 ·rintro ⟨i, hi1, hi2, rfl⟩
  by_cases q1 : m ≤ i ∧ i < e
  ·refine ⟨i - m + s, by omega, by omega, ?_⟩
   unfold rot
   rw [if_pos (by omega)]
   congr 1; omega
  ·by_cases q2 : s ≤ i ∧ i < m
   ·refine ⟨i + (e - m), by omega, by omega, ?_⟩
    unfold rot
    rw [if_neg (by omega), if_pos (by omega)]
    congr 1; omega
   ·refine ⟨i, hi1, hi2, ?_⟩
    unfold rot
    rw [if_neg (by omega), if_neg (by omega)]
theorem sm_one {D f : Nat → Nat} {a b i : Nat} (_hab : a + 1 < b) (hs : Srt D f (a + 1) b) (h1 : a + 1 ≤ i) (h2 : i ≤ b) (hL : ∀ h, a + 1 ≤ h → h < i → ltL D (f h) (f a)) (hR : ∀ h, i ≤ h → h < b → ltL D (f a) (f h)) : SM D f a b (rot f a (a + 1) i) where
 out := fun k hk => rot_out (Nat.le_refl _) (by omega) h1 h2 k hk
 seg := fun x => rot_seg (Nat.le_refl _) (by omega) h1 h2 x
 srt := fun p q hp hpq hq => by
  have e : ∀ k, a ≤ k → k < b → rot f a (a + 1) i k = if k + 1 < i then f (k + 1) else if k + 1 = i then f a else f k := fun k hk1 hk2 => by
   unfold rot
   by_cases z : k + 1 < i
   ·rw [if_pos (by omega), if_pos z]; congr 1; omega
   ·rw [if_neg (by omega), if_neg z]
    by_cases z2 : k + 1 = i
    ·rw [if_pos (by omega), if_pos z2]; congr 1; omega
    ·rw [if_neg (by omega), if_neg z2]
  rw [e p hp (by omega), e q (by omega) hq]
  by_cases q1 : q + 1 < i
  ·rw [if_pos (by omega), if_pos q1]; exact hs _ _ (by omega) (by omega) (by omega)
  ·rw [if_neg q1]
   by_cases q2 : q + 1 = i
   ·rw [if_pos q2, if_pos (by omega)]; exact hL _ (by omega) (by omega)
   ·rw [if_neg q2]
    by_cases p1 : p + 1 < i
    ·rw [if_pos p1]; exact hs _ _ (by omega) (by omega) hq
    ·rw [if_neg p1]
     by_cases p2 : p + 1 = i
     ·rw [if_pos p2]; exact hR _ (by omega) hq
     ·rw [if_neg p2]; exact hs _ _ (by omega) hpq hq
theorem sm_last {D f : Nat → Nat} {a m i : Nat} (_ham : a < m) (hs : Srt D f a m) (h1 : a ≤ i) (h2 : i ≤ m) (hL : ∀ h, a ≤ h → h < i → ltL D (f h) (f m)) (hR : ∀ h, i ≤ h → h < m → ltL D (f m) (f h)) : SM D f a (m + 1) (rot f i m (m + 1)) where
 out := fun k hk => rot_out h1 h2 (by omega) (Nat.le_refl _) k hk
 seg := fun x => rot_seg h1 h2 (by omega) (Nat.le_refl _) x
 srt := fun p q hp hpq hq => by
  have e : ∀ k, a ≤ k → k < m + 1 → rot f i m (m + 1) k = if k < i then f k else if k = i then f m else f (k - 1) := fun k hk1 hk2 => by
   unfold rot
   by_cases z : k < i
   ·rw [if_neg (by omega), if_neg (by omega), if_pos z]
   ·rw [if_neg z]
    by_cases z2 : k = i
    ·rw [if_pos (by omega), if_pos z2]; congr 1; omega
    ·rw [if_neg (by omega), if_pos (by omega), if_neg z2]; congr 1; omega
  rw [e p hp (by omega), e q (by omega) hq]
  by_cases q1 : q < i
  ·rw [if_pos (by omega), if_pos q1]; exact hs _ _ hp hpq (by omega)
  ·rw [if_neg q1]
   by_cases q2 : q = i
   ·rw [if_pos q2, if_pos (by omega)]; exact hL _ hp (by omega)
   ·rw [if_neg q2]
    by_cases p1 : p < i
    ·rw [if_pos p1]; exact hs _ _ hp (by omega) (by omega)
    ·rw [if_neg p1]
     by_cases p2 : p = i
     ·rw [if_pos p2]; exact hR _ (by omega) (by omega)
     ·rw [if_neg p2]; exact hs _ _ (by omega) (by omega) (by omega)
/-- what the exchange in the middle gives: sm: the start, e: the end -/
structure Mid (D f : Nat → Nat) (a m b s e mid : Nat) (g : Nat → Nat) : Prop where
 s1 : Srt D g a s
 s2 : Srt D g s mid
 s3 : Srt D g mid e
 s4 : Srt D g e b
 l1 : Lr g a s mid
 l2 : Lr g mid e b
 cr : ∀ i j, a ≤ i → i < mid → mid ≤ j → j < b → ltL D (g i) (g j)
 out : ∀ k, k < a ∨ b ≤ k → g k = f k
 seg : ∀ x, Seg g a b x ↔ Seg f a b x
theorem mid_of {D f : Nat → Nat} {a m b s mid lo hi : Nat} (ham : a < m) (hmb : m < b) (hs1 : Srt D f a m) (hs2 : Srt D f m b) (hlr : Lr f a m b) (hmid : mid = (a + b) / 2)
  (hlh : (mid < m ∧ lo = mid + m - b ∧ hi = mid) ∨ (m ≤ mid ∧ lo = a ∧ hi = m)) (hsl : lo ≤ s) (hsh : s ≤ hi)
  (hP : ∀ c, lo ≤ c → c < s → ltL D (f c) (f (mid + m - 1 - c))) (hN : ∀ c, s ≤ c → c < hi → ltL D (f (mid + m - 1 - c)) (f c)) :
  Mid D f a m b s (mid + m - s) mid (rot f s m (mid + m - s)) ∧ a ≤ s ∧ s ≤ mid ∧ s ≤ m ∧ m ≤ mid + m - s ∧ mid + m - s ≤ b ∧ mid ≤ mid + m - s ∧ a < mid ∧ mid < b := by
 have b1 : a < mid := by omega
 have b2 : mid < b := by omega
 have b3 : a ≤ s := by omega
 have b4 : s ≤ mid := by omega
 have b5 : s ≤ m := by omega
 have b6 : m ≤ mid + m - s := by omega
 have b7 : mid + m - s ≤ b := by omega
 have e : ∀ k, a ≤ k → k < b → rot f s m (mid + m - s) k = if k < s then f k else if k < mid then f (k - s + m) else if k < mid + m - s then f (k - (mid - s)) else f k := fun k _ _ => by
  unfold rot
  by_cases z : k < s
  ·rw [if_neg (by omega), if_neg (by omega), if_pos z]
  ·rw [if_neg z]
   by_cases z2 : k < mid
   ·rw [if_pos (by omega), if_pos z2]
   ·rw [if_neg (by omega), if_neg z2]
    by_cases z3 : k < mid + m - s
    ·rw [if_pos (by omega), if_pos z3]; congr 1; omega
    ·rw [if_neg (by omega), if_neg z3]
 have g1 : ∀ k, a ≤ k → k < s → rot f s m (mid + m - s) k = f k := fun k h1 h2 => by rw [e k h1 (by omega), if_pos h2]
 have g2 : ∀ k, s ≤ k → k < mid → rot f s m (mid + m - s) k = f (k - s + m) := fun k h1 h2 => by rw [e k (by omega) (by omega), if_neg (by omega), if_pos h2]
 have g3 : ∀ k, mid ≤ k → k < mid + m - s → rot f s m (mid + m - s) k = f (k - (mid - s)) := fun k h1 h2 => by rw [e k (by omega) (by omega), if_neg (by omega), if_neg (by omega), if_pos h2]
 have g4 : ∀ k, mid + m - s ≤ k → k < b → rot f s m (mid + m - s) k = f k := fun k h1 h2 => by rw [e k (by omega) h2, if_neg (by omega), if_neg (by omega), if_neg (by omega)]
 have le1 : ∀ i j, a ≤ i → i ≤ j → j < m → i = j ∨ ltL D (f i) (f j) := fun i j h1 h2 h3 => by
  rcases Nat.eq_or_lt_of_le h2 with q | q
  ·exact .inl q
  ·exact .inr (hs1 i j h1 q h3)
 have le2 : ∀ i j, m ≤ i → i ≤ j → j < b → i = j ∨ ltL D (f i) (f j) := fun i j h1 h2 h3 => by
  rcases Nat.eq_or_lt_of_le h2 with q | q
  ·exact .inl q
  ·exact .inr (hs2 i j h1 q h3)
 have chain : ∀ {x y z t : Nat}, (x = y ∨ ltL D (f x) (f y)) → ltL D (f y) (f z) → (z = t ∨ ltL D (f z) (f t)) → ltL D (f x) (f t) := by
  intro x y z t h1 h2 h3
  rcases h1 with rfl | h1 <;> rcases h3 with rfl | h3
  ·exact h2
  ·exact h2.trans h3
  ·exact h1.trans h2
  ·exact (h1.trans h2).trans h3
 refine ⟨⟨fun i j h1 h2 h3 => ?_, fun i j h1 h2 h3 => ?_, fun i j h1 h2 h3 => ?_, fun i j h1 h2 h3 => ?_, fun i j h1 h2 h3 h4 => ?_, fun i j h1 h2 h3 h4 => ?_, fun i j h1 h2 h3 h4 => ?_, fun k hk => rot_out b3 b5 b6 b7 k hk, fun x => rot_seg b3 b5 b6 b7 x⟩, b3, b4, b5, b6, b7, by omega, b1, b2⟩
 ·rw [g1 i h1 (by omega), g1 j (by omega) h3]; exact hs1 _ _ h1 h2 (by omega)
 ·rw [g2 i h1 (by omega), g2 j (by omega) h3]; exact hs2 _ _ (by omega) (by omega) (by omega)
 ·rw [g3 i h1 (by omega), g3 j (by omega) h3]; exact hs1 _ _ (by omega) (by omega) (by omega)
 ·rw [g4 i h1 (by omega), g4 j (by omega) h3]; exact hs2 _ _ (by omega) h2 h3
 ·rw [g1 i h1 h2, g2 j h3 h4]; exact hlr _ _ h1 (by omega) (by omega) (by omega)
 ·rw [g3 i h1 h2, g4 j h3 h4]; exact hlr _ _ (by omega) (by omega) (by omega) h4
 ·by_cases q1 : i < s
  ·rw [g1 i h1 q1]
   by_cases q2 : j < mid + m - s
   ·rw [g3 j h3 q2]; exact hs1 _ _ h1 (by omega) (by omega)
   ·rw [g4 j (by omega) h4]
    have hp := hP (s - 1) (by omega) (by omega)
    rw [show mid + m - 1 - (s - 1) = mid + m - s by omega] at hp
    exact chain (le1 i (s - 1) h1 (by omega) (by omega)) hp (le2 (mid + m - s) j b6 (by omega) h4)
  ·rw [g2 i (by omega) h2]
   by_cases q2 : j < mid + m - s
   ·rw [g3 j h3 q2]
    have hn := hN s (Nat.le_refl _) (by omega)
    exact chain (le2 (i - s + m) (mid + m - 1 - s) (by omega) (by omega) (by omega)) hn (le1 s (j - (mid - s)) b3 (by omega) (by omega))
   ·rw [g4 j (by omega) h4]; exact hs2 _ _ (by omega) (by omega) h4
/-- the two halves, each made one -/
theorem mid_join {D f g g1 g2 : Nat → Nat} {a m b s e mid : Nat} (h : Mid D f a m b s e mid g) (ha : a < mid) (hb : mid < b) (h1 : SM D g a mid g1) (h2 : SM D g1 mid b g2) : SM D f a b g2 where
 out := fun k hk => by rw [h2.out k (by omega), h1.out k (by omega), h.out k hk]
 seg := fun x => by
  rw [← h.seg x]
  constructor
  ·rintro ⟨i, q1, q2, rfl⟩
   by_cases q : i < mid
   ·have : g2 i = g1 i := h2.out i (.inl q)
    rw [this]
    obtain ⟨j, z1, z2, z3⟩ := (h1.seg (g1 i)).1 ⟨i, q1, q, rfl⟩
    exact ⟨j, z1, by omega, z3⟩
   ·obtain ⟨j, z1, z2, z3⟩ := (h2.seg (g2 i)).1 ⟨i, by omega, q2, rfl⟩
    exact ⟨j, by omega, z2, by rw [← z3]; exact (h1.out j (.inr z1)).symm⟩
  ·rintro ⟨i, q1, q2, rfl⟩
   by_cases q : i < mid
   ·obtain ⟨j, z1, z2, z3⟩ := (h1.seg (g i)).2 ⟨i, q1, q, rfl⟩
    exact ⟨j, z1, by omega, by rw [h2.out j (.inl z2)]; exact z3⟩
   ·have e1 : g1 i = g i := h1.out i (.inr (by omega))
    obtain ⟨j, z1, z2, z3⟩ := (h2.seg (g1 i)).2 ⟨i, by omega, q2, rfl⟩
    exact ⟨j, by omega, z2, by rw [z3, e1]⟩
 srt := fun i j q1 q2 q3 => by
  by_cases z1 : j < mid
  ·rw [h2.out i (.inl (by omega)), h2.out j (.inl z1)]; exact h1.srt i j q1 q2 z1
  ·by_cases z2 : i < mid
   ·have e1 : g2 i = g1 i := h2.out i (.inl z2)
    rw [e1]
    obtain ⟨i', y1, y2, y3⟩ := (h1.seg (g1 i)).1 ⟨i, q1, z2, rfl⟩
    obtain ⟨j', x1, x2, x3⟩ := (h2.seg (g2 j)).1 ⟨j, by omega, q3, rfl⟩
    rw [← y3, ← x3, h1.out j' (.inr x1)]
    exact h.cr i' j' y1 y2 x1 x2
   ·exact h2.srt i j (by omega) q2 q3
/-- a run that is one already -/
theorem SM.self {D f : Nat → Nat} {a b : Nat} (h : Srt D f a b) : SM D f a b f := ⟨fun _ _ => rfl, fun _ => Iff.rfl, h⟩
theorem rot_a (f : Nat → Nat) (a m : Nat) : rot f a m m = f := by
 funext k; unfold rot
 rw [if_neg (by omega)]
 split
 ·rw [Nat.sub_self, Nat.sub_zero]
 ·rfl
theorem rot_b (f : Nat → Nat) (m e : Nat) : rot f m m e = f := by
 funext k; unfold rot
 split
 ·congr 1; omega
 ·rw [if_neg (by omega)]
theorem rot_up (f : Nat → Nat) (a k : Nat) (h : a ≤ k) : upd (upd (rot f a (a + 1) (k + 1)) k (f (k + 1))) (k + 1) (f a) = rot f a (a + 1) (k + 2) := by
 funext x
 simp only [upd, rot]
 repeat' split
 all_goals first
  | rfl
  | (exfalso; omega)
  | (congr 1; omega)
theorem rot_up_at (f : Nat → Nat) (a k : Nat) (h : a ≤ k) : rot f a (a + 1) (k + 1) k = f a ∧ rot f a (a + 1) (k + 1) (k + 1) = f (k + 1) := by
 simp only [rot]
 constructor
 ·rw [if_neg (by omega), if_pos (by omega)]; congr 1; omega
 ·rw [if_neg (by omega), if_neg (by omega)]
theorem rot_dn (f : Nat → Nat) (m k : Nat) (h : k + 1 ≤ m) : upd (upd (rot f (k + 1) m (m + 1)) (k + 1) (f k)) k (f m) = rot f k m (m + 1) := by
 funext x
 simp only [upd, rot]
 repeat' split
 all_goals first
  | rfl
  | (exfalso; omega)
  | (congr 1; omega)
theorem rot_dn_at (f : Nat → Nat) (m k : Nat) (_h : k + 1 ≤ m) : rot f (k + 1) m (m + 1) k = f k ∧ rot f (k + 1) m (m + 1) (k + 1) = f m := by
 simp only [rot]
 constructor
 ·rw [if_neg (by omega), if_neg (by omega)]
 ·rw [if_pos (by omega)]; congr 1; omega
theorem srt_le {D f : Nat → Nat} {a b : Nat} (h : Srt D f a b) (i j : Nat) (h1 : a ≤ i) (h2 : i ≤ j) (h3 : j < b) : i = j ∨ ltL D (f i) (f j) := by
 rcases Nat.eq_or_lt_of_le h2 with q | q
 ·exact .inl q
 ·exact .inr (h i j h1 q h3)
theorem srt_lt {D f : Nat → Nat} {a b i j z : Nat} (h : Srt D f a b) (h1 : a ≤ i) (h2 : i ≤ j) (h3 : j < b) (hz : ltL D (f j) z) : ltL D (f i) z := by
 rcases srt_le h i j h1 h2 h3 with rfl | q
 ·exact hz
 ·exact q.trans hz
theorem srt_gt {D f : Nat → Nat} {a b i j z : Nat} (h : Srt D f a b) (h1 : a ≤ i) (h2 : i ≤ j) (h3 : j < b) (hz : ltL D z (f i)) : ltL D z (f j) := by
 rcases srt_le h i j h1 h2 h3 with rfl | q
 ·exact hz
 ·exact hz.trans q
theorem sm_left {D f g : Nat → Nat} {a m b s e mid : Nat} (h : Mid D f a m b s e mid g) (hh : s = a ∨ s = mid) : SM D g a mid g := by
 refine SM.self ?_
 rcases hh with rfl | rfl
 ·exact h.s2
 ·exact h.s1
theorem sm_right {D f g g1 : Nat → Nat} {a m b s e mid : Nat} (h : Mid D f a m b s e mid g) (hh : e = mid ∨ e = b) (h1 : ∀ k, mid ≤ k → g1 k = g k) : SM D g1 mid b g1 := by
 refine SM.self ?_
 intro i j q1 q2 q3
 rw [h1 i q1, h1 j (by omega)]
 rcases hh with rfl | rfl
 ·exact h.s4 i j q1 q2 q3
 ·exact h.s3 i j q1 q2 q3
theorem Srt.cong {D f g : Nat → Nat} {a b : Nat} (h : Srt D f a b) (e : ∀ k, a ≤ k → g k = f k) : Srt D g a b := fun i j q1 q2 q3 => by rw [e i q1, e j (by omega)]; exact h i j q1 q2 q3
theorem Lr.cong {f g : Nat → Nat} {a m b : Nat} (h : Lr f a m b) (e : ∀ k, a ≤ k → g k = f k) : Lr g a m b := fun i j q1 q2 q3 q4 => by rw [e i q1, e j (by omega)]; exact h i j q1 q2 q3 q4
theorem SM.lt {D f g : Nat → Nat} {a b n : Nat} (h : SM D f a b g) (hb : b ≤ n) (hf : ∀ k, k < n → f k < n) (k : Nat) (hk : k < n) : g k < n := by
 by_cases q : a ≤ k ∧ k < b
 ·obtain ⟨i, q1, q2, q3⟩ := (h.seg (g k)).1 ⟨k, q.1, q.2, rfl⟩
  rw [← q3]; exact hf i (by omega)
 ·rw [h.out k (by omega)]; exact hf k hk
theorem Mid.lt {D f g : Nat → Nat} {a m b s e mid n : Nat} (h : Mid D f a m b s e mid g) (hb : b ≤ n) (hf : ∀ k, k < n → f k < n) (k : Nat) (hk : k < n) : g k < n := by
 by_cases q : a ≤ k ∧ k < b
 ·obtain ⟨i, q1, q2, q3⟩ := (h.seg (g k)).1 ⟨k, q.1, q.2, rfl⟩
  rw [← q3]; exact hf i (by omega)
 ·rw [h.out k (by omega)]; exact hf k hk
def Up (f : Nat → Nat) (a b : Nat) : Prop := ∀ i j, a ≤ i → i < j → j < b → f i < f j
theorem SM.trans {D f g h : Nat → Nat} {a b : Nat} (h1 : SM D f a b g) (h2 : SM D g a b h) : SM D f a b h where
 out := fun k hk => by rw [h2.out k hk, h1.out k hk]
 seg := fun x => (h2.seg x).trans (h1.seg x)
 srt := h2.srt
theorem seg_step {f g : Nat → Nat} {a i : Nat} (hi : a ≤ i) (h : ∀ x, Seg g a i x ↔ Seg f a i x) (e : g i = f i) (x : Nat) : Seg g a (i + 1) x ↔ Seg f a (i + 1) x := by
 constructor
 ·rintro ⟨k, q1, q2, q3⟩
  by_cases q : k = i
  ·subst q; exact ⟨k, q1, q2, by rw [← e]; exact q3⟩
  ·obtain ⟨j, z1, z2, z3⟩ := (h x).1 ⟨k, q1, by omega, q3⟩
   exact ⟨j, z1, by omega, z3⟩
 ·rintro ⟨k, q1, q2, q3⟩
  by_cases q : k = i
  ·subst q; exact ⟨k, q1, q2, by rw [e]; exact q3⟩
  ·obtain ⟨j, z1, z2, z3⟩ := (h x).2 ⟨k, q1, by omega, q3⟩
   exact ⟨j, z1, by omega, z3⟩
theorem in_step {D f g g' : Nat → Nat} {a i : Nat} (hi : a ≤ i) (h1 : SM D f a i g) (h2 : SM D g a (i + 1) g') : SM D f a (i + 1) g' where
 out := fun k hk => by rw [h2.out k hk, h1.out k (by omega)]
 seg := fun x => (h2.seg x).trans (seg_step hi h1.seg (h1.out i (.inr (Nat.le_refl _))) x)
 srt := h2.srt
theorem in_num {D f g : Nat → Nat} {a b i k : Nat} (hup : Up f a b) (h1 : SM D f a i g) (hib : i < b) (hk : a ≤ k) (hki : k < i) : g k < g i := by
 rw [h1.out i (.inr (Nat.le_refl _))]
 obtain ⟨j, z1, z2, z3⟩ := (h1.seg (g k)).1 ⟨k, hk, hki, rfl⟩
 rw [← z3]; exact hup _ _ z1 z2 hib
theorem seg_two {D f g1 g2 : Nat → Nat} {a m b : Nat} (ha : a ≤ m) (hb : m ≤ b) (h1 : SM D f a m g1) (h2 : SM D g1 m b g2) (x : Nat) : Seg g2 a b x ↔ Seg f a b x := by
 constructor
 ·rintro ⟨i, q1, q2, rfl⟩
  by_cases q : i < m
  ·rw [h2.out i (.inl q)]
   obtain ⟨j, z1, z2, z3⟩ := (h1.seg (g1 i)).1 ⟨i, q1, q, rfl⟩
   exact ⟨j, z1, by omega, z3⟩
  ·obtain ⟨j, z1, z2, z3⟩ := (h2.seg (g2 i)).1 ⟨i, by omega, q2, rfl⟩
   exact ⟨j, by omega, z2, by rw [← z3]; exact (h1.out j (.inr z1)).symm⟩
 ·rintro ⟨i, q1, q2, rfl⟩
  by_cases q : i < m
  ·obtain ⟨j, z1, z2, z3⟩ := (h1.seg (f i)).2 ⟨i, q1, q, rfl⟩
   exact ⟨j, z1, by omega, by rw [h2.out j (.inl z2)]; exact z3⟩
  ·have e1 : g1 i = f i := h1.out i (.inr (by omega))
   obtain ⟨j, z1, z2, z3⟩ := (h2.seg (g1 i)).2 ⟨i, by omega, q2, rfl⟩
   exact ⟨j, by omega, z2, by rw [z3, e1]⟩
theorem lr_two {D f g1 g2 : Nat → Nat} {a m b : Nat} (hup : Up f a b) (h1 : SM D f a m g1) (h2 : SM D g1 m b g2) : Lr g2 a m b := by
 intro i j q1 q2 q3 q4
 rw [h2.out i (.inl q2)]
 obtain ⟨i', y1, y2, y3⟩ := (h1.seg (g1 i)).1 ⟨i, q1, q2, rfl⟩
 obtain ⟨j', x1, x2, x3⟩ := (h2.seg (g2 j)).1 ⟨j, q3, q4, rfl⟩
 rw [← y3, ← x3, h1.out j' (.inr x1)]
 exact hup _ _ y1 (by omega) x2
end Go.Proofs.YtafoklilkdnepaaGreatDoor

/- Rows of the calls' own: one cell read, one cell set, a row just made. No program's function. -/
namespace Go.Proofs.YtafoklilkdnepaaGreatDoor
open Go.RowKit

theorem frozen_blk {w : World} {g : Nat} {cs : Array Value} {t : TypeId} (h : w.heap[g]? = some (.cells cs t (0, 0))) (i : Nat) : w.frozen? ⟨g, i, none⟩ = false := by simp [World.frozen?, h]
theorem lt_blk {w : World} {g : Nat} {o : Obj} (h : w.heap[g]? = some o) : g < w.heap.size := (Array.getElem?_eq_some_iff.1 h).1
theorem add_blk (g j : Nat) : (⟨g, 0, none⟩ : Addr).add j = ⟨g, j, none⟩ := by unfold Addr.add; split <;> simp_all

theorem OwnK.free_ {α : Type} {t k : Nat} {enc : α → List Value} {w : World} {G c : Nat} {xs : List α} (h : OwnK t k enc w (some ⟨G, 0, none⟩) c xs) (i : Nat) : w.frozen? ⟨G, i, none⟩ = false := by
 rcases h.2 with ⟨hv, _⟩ | ⟨g, cap, cur, hv, _, hg, _, _, _, _⟩
 ·injection hv with hA; cases hA
 ·have hA : (some ⟨G, 0, none⟩ : Option Addr) = some ⟨g, 0, none⟩ := by injection hv
  injection hA with hA; injection hA with hG; subst hG
  simp [World.frozen?, hg]
theorem flat_set {α β : Type} (enc : α → List β) (k : Nat) (hk : ∀ x, (enc x).length = k) (v : β) (o : Nat) (ho : o < k) : ∀ (xs : List α) (i : Nat) (hi : i < xs.length) (y : α), enc y = (enc xs[i]).set o v → (xs.set i y).flatMap enc = (xs.flatMap enc).set (i * k + o) v
 | [], i => fun hi => absurd hi (by simp)
 | x :: xs, 0 => fun _ y hy => by
  rw [List.set_cons_zero, List.flatMap_cons, List.flatMap_cons, hy, List.getElem_cons_zero, Nat.zero_mul, Nat.zero_add, List.set_append_left _ _ (by rw [hk]; exact ho)]
 | x :: xs, i + 1 => fun hi y hy => by
  have ih := flat_set enc k hk v o ho xs i (by simpa using hi) y (by simpa using hy)
  have e1 : (i + 1) * k + o = k + (i * k + o) := by rw [Nat.add_mul]; omega
  rw [List.set_cons_succ, List.flatMap_cons, List.flatMap_cons, ih, List.set_append_right _ _ (by rw [hk, e1]; omega), hk, e1, Nat.add_sub_cancel_left]
theorem OwnK.set {α : Type} {t k : Nat} {enc : α → List Value} {w : World} {G c : Nat} {xs : List α} (h : OwnK t k enc w (some ⟨G, 0, none⟩) c xs) (hk : ∀ x, (enc x).length = k) (i : Nat) (hi : i < xs.length) (o : Nat) (ho : o < k) (v : Value) (y : α)
  (hy : enc y = (enc xs[i]).set o v) : OwnK t k enc (w.setCell ⟨G, i * k + o, none⟩ v) (some ⟨G, 0, none⟩) c (xs.set i y) := by
 have := (World.ownsRow.stored h (i * k + o) v).1
 unfold OwnK
 rw [List.length_set, flat_set enc k hk v o ho xs i hi y hy]
 exact this
/-- a store into a row whose elements have one cell -/
theorem OwnK.set1 {α : Type} {t : Nat} {val : α → Value} {w : World} {G c : Nat} {xs : List α} (h : OwnK t 1 (fun x => [val x]) w (some ⟨G, 0, none⟩) c xs) (i : Nat) (hi : i < xs.length) (y : α) : OwnK t 1 (fun x => [val x]) (w.setCell ⟨G, i, none⟩ (val y)) (some ⟨G, 0, none⟩) c (xs.set i y) := by
 have := h.set (fun _ => rfl) i hi 0 (by omega) (val y) y rfl
 rwa [Nat.mul_one] at this
theorem flat_one {α : Type} {val : α → Value} (xs : List α) : (xs.flatMap fun x => [val x]) = xs.map val := by
 induction xs with
 | nil => rfl
 | cons x xs ih => rw [List.flatMap_cons, ih]; rfl
/-- what a cell of such a row holds -/
theorem OwnK.cell1 {α : Type} {t : Nat} {val : α → Value} {w : World} {G c : Nat} {xs : List α} (h : OwnK t 1 (fun x => [val x]) w (some ⟨G, 0, none⟩) c xs) (i : Nat) (hi : i < xs.length) : w.cell? ⟨G, i, none⟩ = some (val xs[i]) := by
 have := World.ownsRow.cells h (g := G) rfl i (val xs[i]) (by rw [flat_one]; simp [hi])
 rwa [add_blk] at this
/-- a row just made -/
theorem OwnK.made {α : Type} (t : Nat) (val : α → Value) (w : World) (n : Nat) (z : α) (hn : n ≤ maxLen) : OwnK t 1 (fun x => [val x]) (w.alloc (.cells (madeCells #[val z] n) t)) (some ⟨w.heap.size, 0, none⟩) n (List.replicate n z) := by
 refine ⟨by simp, .inr ⟨w.heap.size, n, madeCells #[val z] n, by simp, Nat.zero_le _, heap_alloc_new w _, by simp, hn, ?_, ?_⟩⟩
 ·rw [madeCells_one]; simp
 ·rw [madeCells_one, flat_one]; simp
theorem OwnK.mono {α : Type} {t k : Nat} {enc : α → List Value} {w : World} {A : Option Addr} {c : Nat} {xs : List α} (h : OwnK t k enc w A c xs) {w' : World} (hb : ∀ b ∈ fpo A, w'.heap[b]? = w.heap[b]?) : OwnK t k enc w' A c xs := by
 refine ⟨h.1, ?_⟩
 rcases h.2 with hv | ⟨g, cap, cur, hv, hb', hg, rest⟩
 ·exact .inl hv
 ·have hA : A = some ⟨g, 0, none⟩ := by injection hv
  subst hA
  exact .inr ⟨g, cap, cur, hv, hb', by rw [hb g (by simp [fpo])]; exact hg, rest⟩

end Go.Proofs.YtafoklilkdnepaaGreatDoor

/- Rows of numbers as they lie in memory. No program's function. -/
namespace Go.Proofs.YtafoklilkdnepaaGreatDoor
open Go.RowKit

/-- a number's cell -/
def inE (n : Int) : List Value := [.int .i64 n]
theorem inE_length (n : Int) : (inE n).length = 1 := rfl
theorem inE_one (n : Int) : ∀ u ∈ inE n, u.oneCell' = true := by
 intro u hu
 obtain rfl : u = .int .i64 n := by simpa [inE] using hu
 rfl
theorem RdKI.at_ {w : World} {A : Option Addr} {l : List Int} (h : RdK inE w A l) (i : Nat) (hi : i < l.length) : ∃ ad, A = some ad ∧ w.cell? (ad.add i) = some (.int .i64 l[i]) := by
 obtain ⟨ad, b, off, h1, h2, _, h3⟩ := RdK.at_ h 1 inE_length (by omega) i hi
 rw [Nat.mul_one] at h2
 exact ⟨ad, h1, by rw [h2]; exact h3 0 _ rfl⟩
end Go.Proofs.YtafoklilkdnepaaGreatDoor

/- The contracts of Go library functions at this translation, laid in plain words by the tool of the kit; no condition. -/
namespace Go.Proofs
open Go.Shelf
def Tryz.lays106_ren : Go.Shelf.Ren := ⟨fun | 106 => 157 | 213 => 190 | 265 => 206 | n => n, fun | 9 => 9 | 3 => 3 | n => n, fun | n => n⟩
theorem Tryz.lays106 : Go.Proofs.Lays.n106 Tryz.prog Tryz.lays106_ren := {
 mixed := by kernel_rfl
 f106 := Tryz.func157.trans (congrArg some (by kernel_rfl))
 f213 := Tryz.func190.trans (congrArg some (by kernel_rfl))
 f265 := Tryz.func206.trans (congrArg some (by kernel_rfl))
 t3 := Tryz.underlying3
 a3 := Tryz.isAgg3
 z3 := Tryz.sizeOf3
 v3 := Tryz.zeroValue3
 t9 := Tryz.underlying9
 a9 := Tryz.isAgg9
 z9 := Tryz.sizeOf9
 v9 := Tryz.zeroValue9 }
open Go.RowKit in
/-- strings.Compare: "Compare returns an integer comparing two strings lexicographically. The result will be 0 if a == b, -1 if a < b, and +1 if a > b.": IT RETURNS 'Lib.compareBytes a b'; the world is as it was. (LAID: no walk: one application.) -/
theorem Tryz.strings_Compare (a b : ByteArray) (w : World) :
  Calls Tryz.prog 157 #[.string a, .string b] w fun e w' => e = .returned (.int .i64 (Lib.compareBytes a.data.toList b.data.toList)) ∧ w' = w := Any.strings_Compare Tryz.lays106 a b w
def Tryz.lays122_ren : Go.Shelf.Ren := ⟨fun | 122 => 156 | 215 => 189 | n => n, fun | 3 => 3 | 4 => 4 | n => n, fun | n => n⟩
theorem Tryz.lays122 : Go.Proofs.Lays.n122 Tryz.prog Tryz.lays122_ren := {
 mixed := by kernel_rfl
 f122 := Tryz.func156.trans (congrArg some (by kernel_rfl))
 f215 := Tryz.func189.trans (congrArg some (by kernel_rfl))
 t3 := Tryz.underlying3
 a3 := Tryz.isAgg3
 z3 := Tryz.sizeOf3
 v3 := Tryz.zeroValue3
 t4 := Tryz.underlying4
 a4 := Tryz.isAgg4
 z4 := Tryz.sizeOf4
 v4 := Tryz.zeroValue4 }
open Go.RowKit in
/-- cmp.Compare at int: "Compare returns -1 if x is less than y, 0 if x equals y, +1 if x is greater than y.": IT RETURNS 'Lib.compareInt x y'; the world is as it was. (LAID: no walk: one application.) -/
theorem Tryz.cmp_Compare_int (x y : Int) (w : World) :
  Calls Tryz.prog 156 #[.int .i64 x, .int .i64 y] w fun e w' => e = .returned (.int .i64 (Lib.compareInt x y)) ∧ w' = w := Any.cmp_Compare_int Tryz.lays122 x y w
end Go.Proofs

/- The order of values and of rows: cmp.Or, value.Value.Cmp. For every values. -/
namespace Go.Proofs.YtafoklilkdnepaaGreatDoor
open Go.RowKit

/-- the first that is not 0 -/
def orV : List Int → Int
 | [] => 0
 | x :: r => if x = 0 then orV r else x
def cmpVV (a b : VD) : Int := orV [Lib.compareInt a.kind b.kind, Lib.compareInt a.num b.num, Lib.compareBytes a.text.data.toList b.text.data.toList]
def cmpRV : List VD → List VD → Int
 | [], [] => 0
 | [], _ :: _ => -1
 | _ :: _, [] => 1
 | a :: l, b :: r => if cmpVV a b = 0 then cmpRV l r else cmpVV a b

theorem compareInt_neg (x y : Int) : Lib.compareInt y x = -Lib.compareInt x y := by
 unfold Lib.compareInt
 split <;> split <;> (try split) <;> omega
theorem compareInt_b (x y : Int) : -1 ≤ Lib.compareInt x y ∧ Lib.compareInt x y ≤ 1 := by
 unfold Lib.compareInt
 split <;> (try split) <;> omega
theorem compareBytes_neg : ∀ (x y : List UInt8), Lib.compareBytes y x = -Lib.compareBytes x y
 | [], [] => rfl
 | [], _ :: _ => rfl
 | _ :: _, [] => rfl
 | a :: l, b :: r => by
  unfold Lib.compareBytes
  by_cases h1 : a < b
  ·have h2 : ¬ b < a := by rw [UInt8.lt_iff_toNat_lt] at h1 ⊢; omega
   rw [if_neg h2, if_pos h1, if_pos h1]; rfl
  ·by_cases h2 : b < a
   ·rw [if_pos h2, if_neg h1, if_pos h2]
   ·rw [if_neg h2, if_neg h1, if_neg h1, if_neg h2]; exact compareBytes_neg l r
theorem compareBytes_b : ∀ (x y : List UInt8), -1 ≤ Lib.compareBytes x y ∧ Lib.compareBytes x y ≤ 1
 | [], [] => ⟨by decide, by decide⟩
 | [], _ :: _ => ⟨Int.le_refl (-1), show (-1 : Int) ≤ 1 by decide⟩
 | _ :: _, [] => ⟨show (-1 : Int) ≤ 1 by decide, Int.le_refl 1⟩
 | a :: l, b :: r => by
  unfold Lib.compareBytes
  split
  ·omega
  ·split
   ·omega
   ·exact compareBytes_b l r
theorem cmpVV_neg (a b : VD) : cmpVV b a = -cmpVV a b := by
 unfold cmpVV
 rw [compareInt_neg a.kind, compareInt_neg a.num, compareBytes_neg a.text.data.toList]
 generalize Lib.compareInt a.kind b.kind = x
 generalize Lib.compareInt a.num b.num = y
 generalize Lib.compareBytes a.text.data.toList b.text.data.toList = z
 simp only [orV]
 by_cases h1 : x = 0 <;> by_cases h2 : y = 0 <;> by_cases h3 : z = 0 <;> simp [h1, h2, h3]
theorem cmpVV_b (a b : VD) : -1 ≤ cmpVV a b ∧ cmpVV a b ≤ 1 := by
 have h1 := compareInt_b a.kind b.kind
 have h2 := compareInt_b a.num b.num
 have h3 := compareBytes_b a.text.data.toList b.text.data.toList
 unfold cmpVV
 simp only [orV]
 split
 ·split
  ·split <;> omega
  ·omega
 ·omega
theorem cmpRV_neg : ∀ (l r : List VD), cmpRV r l = -cmpRV l r
 | [], [] => rfl
 | [], _ :: _ => rfl
 | _ :: _, [] => rfl
 | a :: l, b :: r => by
  unfold cmpRV
  rw [cmpVV_neg a b]
  by_cases h : cmpVV a b = 0
  ·rw [if_pos (by omega), if_pos h]; exact cmpRV_neg l r
  ·rw [if_neg (by omega), if_neg h]
theorem cmpRV_b : ∀ (l r : List VD), -1 ≤ cmpRV l r ∧ cmpRV l r ≤ 1
 | [], [] => ⟨by decide, by decide⟩
 | [], _ :: _ => ⟨Int.le_refl (-1), show (-1 : Int) ≤ 1 by decide⟩
 | _ :: _, [] => ⟨show (-1 : Int) ≤ 1 by decide, Int.le_refl 1⟩
 | a :: l, b :: r => by
  unfold cmpRV
  split
  ·exact cmpRV_b l r
  ·exact cmpVV_b a b

set_option maxHeartbeats 800000 in
theorem or_any (A : Option Addr) (cap n : Nat) (l : List Int) (hn : l.length = n) (w : World) (h : RdK inE w A l) (hl : n ≤ 140737000000000) :
  Calls Tryz.prog 155 #[.slice A n cap] w fun e w' => e = .returned (.int .i64 (orV l)) ∧ w' = w := by
 subst hn
 go_enter Tryz.func155, Tryz.ntmps155
 go_wp2
 go_loopw [8] (fun i wr => ∃ k : Nat, k ≤ l.length ∧ i = .int .i64 k ∧ Hid (orV l = orV (l.drop k)) ∧ wr = w) (fun i _ => l.length - (intOf i).toNat)
 case atStart => exact ⟨0, by omega, rfl, Lib.hid rfl, rfl⟩
 case round =>
  obtain ⟨k, hk, rfl, Ho, rfl⟩ := hrel
  by_cases hlt : k < l.length
  ·obtain ⟨ad, rfl, c0⟩ := RdKI.at_ h k hlt
   have hst : orV (l.drop k) = if l[k] = 0 then orV (l.drop (k + 1)) else l[k] := by rw [List.drop_eq_getElem_cons hlt]; rfl
   obtain ⟨x, hx⟩ : ∃ x, x = l[k] := ⟨_, rfl⟩
   rw [← hx] at hst c0
   have Hst := Lib.hid hst
   clear hst hx
   by_cases h0 : x = 0
   ·subst h0
    have Hq := Lib.hid (show orV l = orV (l.drop (k + 1)) by rw [Ho.out, Hst.out, if_pos rfl])
    go_wp2
    go_roundw
    case rel => exact ⟨k + 1, by omega, by go_num, Hq, trivial⟩
    case measure => simp [intOf]; omega
   ·have Hq := Lib.hid (show orV l = x by rw [Ho.out, Hst.out, if_neg h0])
    have hq : (x == 0) = false := by rw [beq_eq_false_iff_ne]; exact h0
    have hq' : (x != 0) = true := by rw [bne, hq]; rfl
    go_wp2
    go_ret
    exact ⟨ret_int Hq.out.symm, rfl⟩
  ·obtain rfl : k = l.length := by omega
   have Hq := Lib.hid (show orV l = 0 by rw [Ho.out, List.drop_length]; rfl)
   go_wp2
   go_ret
   exact ⟨ret_int Hq.out.symm, rfl⟩

theorem wp_still_tail' {P : Program} {id : Nat} {Q : Exit → Act → World → Prop} {a : Act} {w : World} {l : List Oper} (n : Nat) (hm : P.follows .mixedOrders = true) (hB : Region.lexTailB .any l.toArray n = true)
  (h : ∀ w2, w2 = w.drew → wpStill P l.toArray w2 (fun a' => wpList P l.toArray Q (l.drop n) a' w2) (l.take n) a) : (Code.region id l.toArray true).wp P Q a w :=
 wp_region_still_tail n hm hB (h _ rfl)

set_option maxRecDepth 20000 in
set_option maxHeartbeats 1600000 in
theorem cmpVal_any (a b : VD) (w : World) :
  Calls Tryz.prog 112 #[a.val, b.val] w fun e w' => e = .returned (.int .i64 (cmpVV a b)) ∧ Touch [] w w' := by
 obtain ⟨k1, n1, s1⟩ := a
 obtain ⟨k2, n2, s2⟩ := b
 have h1 := fun w' => Tryz.cmp_Compare_int k1 k2 w'
 have h2 := fun w' => Tryz.cmp_Compare_int n1 n2 w'
 have h3 := fun w' => Tryz.strings_Compare s1 s2 w'
 have hc : cmpVV ⟨k1, n1, s1⟩ ⟨k2, n2, s2⟩ = orV [Lib.compareInt k1 k2, Lib.compareInt n1 n2, Lib.compareBytes s1.data.toList s2.data.toList] := rfl
 rw [hc]
 obtain ⟨x, hx⟩ : ∃ x, x = Lib.compareInt k1 k2 := ⟨_, rfl⟩
 obtain ⟨y, hy⟩ : ∃ y, y = Lib.compareInt n1 n2 := ⟨_, rfl⟩
 obtain ⟨z, hz⟩ : ∃ z, z = Lib.compareBytes s1.data.toList s2.data.toList := ⟨_, rfl⟩
 rw [← hx, ← hy, ← hz]
 rw [← hx] at h1
 rw [← hy] at h2
 rw [← hz] at h3
 have H1 := Lib.hid h1; have H2 := Lib.hid h2; have H3 := Lib.hid h3
 have t0 := (((Touch.refl [] w).alloc (.cells #[.int .i64 k1, .int .i64 n1, .string s1] 31)).alloc (.cells #[.int .i64 k2, .int .i64 n2, .string s2] 31))
 clear h1 h2 h3 hx hy hz hc
 dsimp only [VD.val]
 go_enter Tryz.func112, Tryz.ntmps112
 go_wp2_with fail
 refine wp_still_tail' 15 (by kernel_rfl) (by kernel_rfl) ?_
 intro w2 hw2
 have ta := (((Touch.refl [] (w.alloc (.cells #[.int .i64 k1, .int .i64 n1, .string s1] 31))).alloc (.cells #[.int .i64 k2, .int .i64 n2, .string s2] 31))).drew
 have tb := ((Touch.refl [] ((w.alloc (.cells #[.int .i64 k1, .int .i64 n1, .string s1] 31)).alloc (.cells #[.int .i64 k2, .int .i64 n2, .string s2] 31)))).drew
 have t2 := t0.drew
 rw [← hw2] at ta tb t2
 have hb1 := heap_alloc_new w (.cells #[.int .i64 k1, .int .i64 n1, .string s1] 31)
 have hb2 := heap_alloc_new (w.alloc (.cells #[.int .i64 k1, .int .i64 n1, .string s1] 31)) (.cells #[.int .i64 k2, .int .i64 n2, .string s2] 31)
 rw [World.size_alloc] at hb2
 have e0 := ta.cell (cell_blk hb1 (i := 0) rfl) (by simp)
 have e1 := ta.cell (cell_blk hb1 (i := 1) rfl) (by simp)
 have e2 := ta.cell (cell_blk hb1 (i := 2) rfl) (by simp)
 have f0 := tb.cell (cell_blk hb2 (i := 0) rfl) (by simp)
 have f1 := tb.cell (cell_blk hb2 (i := 1) rfl) (by simp)
 have f2 := tb.cell (cell_blk hb2 (i := 2) rfl) (by simp)
 clear hb1 hb2 ta tb t0 hw2
 simp only [List.take_succ_cons, List.take_zero, List.drop_succ_cons, List.drop_zero]
 repeat still_step
 still_call (H1.out _)
 repeat still_step
 still_call (H2.out _)
 repeat still_step
 still_call (H3.out _)
 refine wpStill_nil ?_
 have r3 : RdK inE (w2.alloc (.cells #[.int .i64 x, .int .i64 y, .int .i64 z] 3)) (some ⟨w2.heap.size, 0, none⟩) [x, y, z] := RdK.row w2 3 [x, y, z] _ rfl
 go_wp2_with fail
 refine (or_any _ 3 3 [x, y, z] rfl _ r3 (by omega)).mono ?_
 rintro e w3 ⟨rfl, rfl⟩
 go_wp2
 go_ret
 exact ⟨rfl, t2.alloc _⟩
end Go.Proofs.YtafoklilkdnepaaGreatDoor

/- A schema in plain words: names, checks, texts, what is read back. No program. -/
namespace Go.Proofs.YtafoklilkdnepaaGreatDoor

/-- a column -/
structure CD where
 name : ByteArray
 typ : Int

def letB (c : UInt8) : Bool := decide (97 ≤ c.toNat) && decide (c.toNat ≤ 122)
def innB (c : UInt8) : Bool := letB c || (decide (c.toNat = 95) || (decide (48 ≤ c.toNat) && decide (c.toNat ≤ 57)))
/-- is it a right name? -/
def nameV (s : List UInt8) : Bool := match s with
 | [] => false
 | c :: _ => decide (s.length ≤ 16) && (letB c && s.all innB)
/-- the error of a column behind others -/
def errC (pre : List CD) (c : CD) : Int :=
 if nameV c.name.data.toList = false then 13 else if c.typ ≠ 1 ∧ c.typ ≠ 2 then 12 else if (pre.any fun d => decide (d.name = c.name)) = true then 14 else 0
def chkL (pre : List CD) : List CD → Int
 | [] => 0
 | c :: r => if errC pre c = 0 then chkL (pre ++ [c]) r else errC pre c
def checkV (cs : List CD) : Int := if cs.length < 1 ∨ 16 < cs.length then 31 else chkL [] cs

theorem chk_step {cs : List CD} {k : Nat} (h : k < cs.length) : chkL (cs.take k) (cs.drop k) = if errC (cs.take k) cs[k] = 0 then chkL (cs.take (k + 1)) (cs.drop (k + 1)) else errC (cs.take k) cs[k] := by
 rw [List.drop_eq_getElem_cons h]
 show (if _ then _ else _) = _
 rw [List.take_succ_eq_append_getElem h]
theorem chk_zero {cs : List CD} {k : Nat} (h : chkL (cs.take k) (cs.drop k) = 0) (j : Nat) (h1 : k ≤ j) (h2 : j < cs.length) : errC (cs.take j) cs[j] = 0 := by
 have hk : k < cs.length := by omega
 rw [chk_step hk] at h
 by_cases he : errC (cs.take k) cs[k] = 0
 ·rw [if_pos he] at h
  by_cases hj : j = k
  ·subst hj; exact he
  ·exact chk_zero h j (by omega) h2
 ·rw [if_neg he] at h; exact absurd h he
termination_by cs.length - k
theorem errC_zero {pre : List CD} {c : CD} (h : errC pre c = 0) : nameV c.name.data.toList = true ∧ (c.typ = 1 ∨ c.typ = 2) ∧ ∀ d ∈ pre, d.name ≠ c.name := by
 unfold errC at h
 split at h
 ·cases h
 ·rename_i h1
  split at h
  ·cases h
  ·rename_i h2
   split at h
   ·cases h
   ·rename_i h3
    refine ⟨by simpa using h1, by omega, fun d hd he => h3 ?_⟩
    rw [List.any_eq_true]
    exact ⟨d, hd, by simpa using he⟩
theorem check_zero {cs : List CD} (h : checkV cs = 0) : 1 ≤ cs.length ∧ cs.length ≤ 16 ∧ ∀ j (hj : j < cs.length), nameV cs[j].name.data.toList = true ∧ (cs[j].typ = 1 ∨ cs[j].typ = 2) := by
 unfold checkV at h
 split at h
 ·cases h
 ·refine ⟨by omega, by omega, fun j hj => ?_⟩
  have := errC_zero (chk_zero (cs := cs) (k := 0) (by simpa using h) j (by omega) hj)
  exact ⟨this.1, this.2.1⟩
theorem errC_cases (pre : List CD) (c : CD) : errC pre c = 0 ∨ errC pre c = 12 ∨ errC pre c = 13 ∨ errC pre c = 14 := by
 unfold errC
 split
 ·exact .inr (.inr (.inl rfl))
 ·split
  ·exact .inr (.inl rfl)
  ·split
   ·exact .inr (.inr (.inr rfl))
   ·exact .inl rfl
theorem chkL_cases (pre cs : List CD) : chkL pre cs = 0 ∨ chkL pre cs = 12 ∨ chkL pre cs = 13 ∨ chkL pre cs = 14 := by
 induction cs generalizing pre with
 | nil => exact .inl rfl
 | cons c r ih =>
  have e : chkL pre (c :: r) = if errC pre c = 0 then chkL (pre ++ [c]) r else errC pre c := rfl
  rw [e]
  split
  ·exact ih _
  ·rcases errC_cases pre c with h | h
   ·contradiction
   ·exact .inr h
theorem checkV_cases (cs : List CD) : checkV cs = 0 ∨ (12 ≤ checkV cs ∧ checkV cs ≤ 31) := by
 unfold checkV
 split
 ·exact .inr (by omega)
 ·rcases chkL_cases [] cs with h | h
  ·exact .inl h
  ·right; omega

/-- the word of a type -/
def wordV (t : Int) : List UInt8 := if t = 1 then [105, 110, 116] else [116, 101, 120, 116]
def partV (c : CD) : List UInt8 := c.name.data.toList ++ 32 :: wordV c.typ
/-- the text of a right schema -/
def textV (cs : List CD) : List UInt8 := 40 :: (Lib.join (cs.map partV) [44, 32] ++ [41])
def showV (cs : List CD) : List UInt8 := if checkV cs = 0 then textV cs else []

/-- the pieces between ", " -/
def splitF (sep : List UInt8) : Nat → List UInt8 → List (List UInt8)
 | 0, s => [s]
 | f + 1, s => if Lib.index s sep = -1 then [s] else s.take (Lib.index s sep).toNat :: splitF sep f (s.drop ((Lib.index s sep).toNat + sep.length))
def splitV (s : List UInt8) (sep : List UInt8) : List (List UInt8) := splitF sep s.length s
/-- the type of a word -/
def typV (w : List UInt8) : Int := if w = [105, 110, 116] then 1 else if w = [116, 101, 120, 116] then 2 else 0
def colV (p : List UInt8) : CD := let x := Lib.cut p [32]; ⟨⟨x.1.toArray⟩, typV x.2.1⟩
/-- between the brackets -/
def bodyV (t : List UInt8) : List UInt8 := Lib.trimSuffix (Lib.trimPrefix t [40]) [41]
def colsV (t : List UInt8) : List CD := (splitV (bodyV t) [44, 32]).map colV
/-- the schema of a text -/
def parseV (t : List UInt8) : Option (List CD) := if t = [] ∨ showV (colsV t) ≠ t then none else some (colsV t)
end Go.Proofs.YtafoklilkdnepaaGreatDoor
