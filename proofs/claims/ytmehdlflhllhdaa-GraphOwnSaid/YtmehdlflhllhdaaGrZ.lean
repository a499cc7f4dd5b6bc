/- Two sorted runs, one behind the other, made one by exchanging segments. Plainly. -/
import Derived.Test.YtmehdlflhllhdaaGrY
namespace Go.Proofs.Ytmehdlflhllhdaa

/-- by depth, then by number -/
def ltL (D : Nat → Nat) (x y : Nat) : Prop := D x < D y ∨ (D x = D y ∧ x < y)
theorem ltL.trans {D : Nat → Nat} {x y z : Nat} (h : ltL D x y) (g : ltL D y z) : ltL D x z := by unfold ltL at *; omega
theorem ltL_irrefl (D : Nat → Nat) (x : Nat) : ¬ ltL D x x := by unfold ltL; omega
/-- the one with the less number stands first just if the other's depth is not less -/
theorem ltL_num {D : Nat → Nat} {x y : Nat} (h : x < y) : ltL D x y ↔ ¬ D y < D x := by unfold ltL; omega
theorem ltL_num2 {D : Nat → Nat} {x y : Nat} (h : x < y) : ltL D y x ↔ D y < D x := by unfold ltL; omega

def Srt (D : Nat → Nat) (f : Nat → Nat) (a b : Nat) : Prop := ∀ i j, a ≤ i → i < j → j < b → ltL D (f i) (f j)
def Lr (f : Nat → Nat) (a m b : Nat) : Prop := ∀ i j, a ≤ i → i < m → m ≤ j → j < b → f i < f j
def Seg (f : Nat → Nat) (a b x : Nat) : Prop := ∃ i, a ≤ i ∧ i < b ∧ f i = x
structure SM (D : Nat → Nat) (f : Nat → Nat) (a b : Nat) (g : Nat → Nat) : Prop where
  out : ∀ k, k < a ∨ b ≤ k → g k = f k
  seg : ∀ x, Seg g a b x ↔ Seg f a b x
  srt : Srt D g a b

theorem rot_out {f : Nat → Nat} {a b s m e : Nat} (h1 : a ≤ s) (h2 : s ≤ m) (h3 : m ≤ e) (h4 : e ≤ b) (k : Nat) (hk : k < a ∨ b ≤ k) : rot f s m e k = f k := by
  unfold rot
  rw [if_neg (by omega), if_neg (by omega)]
theorem rot_seg {f : Nat → Nat} {a b s m e : Nat} (h1 : a ≤ s) (h2 : s ≤ m) (h3 : m ≤ e) (h4 : e ≤ b) (x : Nat) : Seg (rot f s m e) a b x ↔ Seg f a b x := by
  constructor
  · rintro ⟨i, hi1, hi2, rfl⟩
    unfold rot
    split
    · exact ⟨i - s + m, by omega, by omega, rfl⟩
    · split
      · exact ⟨i - (e - m), by omega, by omega, rfl⟩
      · exact ⟨i, hi1, hi2, rfl⟩
  · rintro ⟨i, hi1, hi2, rfl⟩
    by_cases q1 : m ≤ i ∧ i < e
    · refine ⟨i - m + s, by omega, by omega, ?_⟩
      unfold rot
      rw [if_pos (by omega)]
      congr 1; omega
    · by_cases q2 : s ≤ i ∧ i < m
      · refine ⟨i + (e - m), by omega, by omega, ?_⟩
        unfold rot
        rw [if_neg (by omega), if_pos (by omega)]
        congr 1; omega
      · refine ⟨i, hi1, hi2, ?_⟩
        unfold rot
        rw [if_neg (by omega), if_neg (by omega)]

theorem sm_one {D f : Nat → Nat} {a b i : Nat} (_hab : a + 1 < b) (hs : Srt D f (a + 1) b) (h1 : a + 1 ≤ i) (h2 : i ≤ b) (hL : ∀ h, a + 1 ≤ h → h < i → ltL D (f h) (f a)) (hR : ∀ h, i ≤ h → h < b → ltL D (f a) (f h)) : SM D f a b (rot f a (a + 1) i) where
  out := fun k hk => rot_out (Nat.le_refl _) (by omega) h1 h2 k hk
  seg := fun x => rot_seg (Nat.le_refl _) (by omega) h1 h2 x
  srt := fun p q hp hpq hq => by
    have e : ∀ k, a ≤ k → k < b → rot f a (a + 1) i k = if k + 1 < i then f (k + 1) else if k + 1 = i then f a else f k := fun k hk1 hk2 => by
      unfold rot
      by_cases z : k + 1 < i
      · rw [if_pos (by omega), if_pos z]; congr 1; omega
      · rw [if_neg (by omega), if_neg z]
        by_cases z2 : k + 1 = i
        · rw [if_pos (by omega), if_pos z2]; congr 1; omega
        · rw [if_neg (by omega), if_neg z2]
    rw [e p hp (by omega), e q (by omega) hq]
    by_cases q1 : q + 1 < i
    · rw [if_pos (by omega), if_pos q1]; exact hs _ _ (by omega) (by omega) (by omega)
    · rw [if_neg q1]
      by_cases q2 : q + 1 = i
      · rw [if_pos q2, if_pos (by omega)]; exact hL _ (by omega) (by omega)
      · rw [if_neg q2]
        by_cases p1 : p + 1 < i
        · rw [if_pos p1]; exact hs _ _ (by omega) (by omega) hq
        · rw [if_neg p1]
          by_cases p2 : p + 1 = i
          · rw [if_pos p2]; exact hR _ (by omega) hq
          · rw [if_neg p2]; exact hs _ _ (by omega) hpq hq

theorem sm_last {D f : Nat → Nat} {a m i : Nat} (_ham : a < m) (hs : Srt D f a m) (h1 : a ≤ i) (h2 : i ≤ m) (hL : ∀ h, a ≤ h → h < i → ltL D (f h) (f m)) (hR : ∀ h, i ≤ h → h < m → ltL D (f m) (f h)) : SM D f a (m + 1) (rot f i m (m + 1)) where
  out := fun k hk => rot_out h1 h2 (by omega) (Nat.le_refl _) k hk
  seg := fun x => rot_seg h1 h2 (by omega) (Nat.le_refl _) x
  srt := fun p q hp hpq hq => by
    have e : ∀ k, a ≤ k → k < m + 1 → rot f i m (m + 1) k = if k < i then f k else if k = i then f m else f (k - 1) := fun k hk1 hk2 => by
      unfold rot
      by_cases z : k < i
      · rw [if_neg (by omega), if_neg (by omega), if_pos z]
      · rw [if_neg z]
        by_cases z2 : k = i
        · rw [if_pos (by omega), if_pos z2]; congr 1; omega
        · rw [if_neg (by omega), if_pos (by omega), if_neg z2]; congr 1; omega
    rw [e p hp (by omega), e q (by omega) hq]
    by_cases q1 : q < i
    · rw [if_pos (by omega), if_pos q1]; exact hs _ _ hp hpq (by omega)
    · rw [if_neg q1]
      by_cases q2 : q = i
      · rw [if_pos q2, if_pos (by omega)]; exact hL _ hp (by omega)
      · rw [if_neg q2]
        by_cases p1 : p < i
        · rw [if_pos p1]; exact hs _ _ hp (by omega) (by omega)
        · rw [if_neg p1]
          by_cases p2 : p = i
          · rw [if_pos p2]; exact hR _ (by omega) (by omega)
          · rw [if_neg p2]; exact hs _ _ (by omega) (by omega) (by omega)

/-- what the exchange in the middle gives: sm: the start, e: the end -/
structure Mid (D f : Nat → Nat) (a m b s e mid : Nat) (g : Nat → Nat) : Prop where
  s1 : Srt D g a s
  s2 : Srt D g s mid
  s3 : Srt D g mid e
  s4 : Srt D g e b
  l1 : Lr g a s mid
  l2 : Lr g mid e b
  cr : ∀ i j, a ≤ i → i < mid → mid ≤ j → j < b → ltL D (g i) (g j)
  out : ∀ k, k < a ∨ b ≤ k → g k = f k
  seg : ∀ x, Seg g a b x ↔ Seg f a b x

theorem mid_of {D f : Nat → Nat} {a m b s mid lo hi : Nat} (ham : a < m) (hmb : m < b) (hs1 : Srt D f a m) (hs2 : Srt D f m b) (hlr : Lr f a m b) (hmid : mid = (a + b) / 2)
    (hlh : (mid < m ∧ lo = mid + m - b ∧ hi = mid) ∨ (m ≤ mid ∧ lo = a ∧ hi = m)) (hsl : lo ≤ s) (hsh : s ≤ hi)
    (hP : ∀ c, lo ≤ c → c < s → ltL D (f c) (f (mid + m - 1 - c))) (hN : ∀ c, s ≤ c → c < hi → ltL D (f (mid + m - 1 - c)) (f c)) :
    Mid D f a m b s (mid + m - s) mid (rot f s m (mid + m - s)) ∧ a ≤ s ∧ s ≤ mid ∧ s ≤ m ∧ m ≤ mid + m - s ∧ mid + m - s ≤ b ∧ mid ≤ mid + m - s ∧ a < mid ∧ mid < b := by
  have b1 : a < mid := by omega
  have b2 : mid < b := by omega
  have b3 : a ≤ s := by omega
  have b4 : s ≤ mid := by omega
  have b5 : s ≤ m := by omega
  have b6 : m ≤ mid + m - s := by omega
  have b7 : mid + m - s ≤ b := by omega
  have e : ∀ k, a ≤ k → k < b → rot f s m (mid + m - s) k = if k < s then f k else if k < mid then f (k - s + m) else if k < mid + m - s then f (k - (mid - s)) else f k := fun k _ _ => by
    unfold rot
    by_cases z : k < s
    · rw [if_neg (by omega), if_neg (by omega), if_pos z]
    · rw [if_neg z]
      by_cases z2 : k < mid
      · rw [if_pos (by omega), if_pos z2]
      · rw [if_neg (by omega), if_neg z2]
        by_cases z3 : k < mid + m - s
        · rw [if_pos (by omega), if_pos z3]; congr 1; omega
        · rw [if_neg (by omega), if_neg z3]
  have g1 : ∀ k, a ≤ k → k < s → rot f s m (mid + m - s) k = f k := fun k h1 h2 => by rw [e k h1 (by omega), if_pos h2]
  have g2 : ∀ k, s ≤ k → k < mid → rot f s m (mid + m - s) k = f (k - s + m) := fun k h1 h2 => by rw [e k (by omega) (by omega), if_neg (by omega), if_pos h2]
  have g3 : ∀ k, mid ≤ k → k < mid + m - s → rot f s m (mid + m - s) k = f (k - (mid - s)) := fun k h1 h2 => by rw [e k (by omega) (by omega), if_neg (by omega), if_neg (by omega), if_pos h2]
  have g4 : ∀ k, mid + m - s ≤ k → k < b → rot f s m (mid + m - s) k = f k := fun k h1 h2 => by rw [e k (by omega) h2, if_neg (by omega), if_neg (by omega), if_neg (by omega)]
  have le1 : ∀ i j, a ≤ i → i ≤ j → j < m → i = j ∨ ltL D (f i) (f j) := fun i j h1 h2 h3 => by
    rcases Nat.eq_or_lt_of_le h2 with q | q
    · exact .inl q
    · exact .inr (hs1 i j h1 q h3)
  have le2 : ∀ i j, m ≤ i → i ≤ j → j < b → i = j ∨ ltL D (f i) (f j) := fun i j h1 h2 h3 => by
    rcases Nat.eq_or_lt_of_le h2 with q | q
    · exact .inl q
    · exact .inr (hs2 i j h1 q h3)
  have chain : ∀ {x y z t : Nat}, (x = y ∨ ltL D (f x) (f y)) → ltL D (f y) (f z) → (z = t ∨ ltL D (f z) (f t)) → ltL D (f x) (f t) := by
    intro x y z t h1 h2 h3
    rcases h1 with rfl | h1 <;> rcases h3 with rfl | h3
    · exact h2
    · exact h2.trans h3
    · exact h1.trans h2
    · exact (h1.trans h2).trans h3
  refine ⟨⟨fun i j h1 h2 h3 => ?_, fun i j h1 h2 h3 => ?_, fun i j h1 h2 h3 => ?_, fun i j h1 h2 h3 => ?_, fun i j h1 h2 h3 h4 => ?_, fun i j h1 h2 h3 h4 => ?_, fun i j h1 h2 h3 h4 => ?_, fun k hk => rot_out b3 b5 b6 b7 k hk, fun x => rot_seg b3 b5 b6 b7 x⟩, b3, b4, b5, b6, b7, by omega, b1, b2⟩
  · rw [g1 i h1 (by omega), g1 j (by omega) h3]; exact hs1 _ _ h1 h2 (by omega)
  · rw [g2 i h1 (by omega), g2 j (by omega) h3]; exact hs2 _ _ (by omega) (by omega) (by omega)
  · rw [g3 i h1 (by omega), g3 j (by omega) h3]; exact hs1 _ _ (by omega) (by omega) (by omega)
  · rw [g4 i h1 (by omega), g4 j (by omega) h3]; exact hs2 _ _ (by omega) h2 h3
  · rw [g1 i h1 h2, g2 j h3 h4]; exact hlr _ _ h1 (by omega) (by omega) (by omega)
  · rw [g3 i h1 h2, g4 j h3 h4]; exact hlr _ _ (by omega) (by omega) (by omega) h4
  · by_cases q1 : i < s
    · rw [g1 i h1 q1]
      by_cases q2 : j < mid + m - s
      · rw [g3 j h3 q2]; exact hs1 _ _ h1 (by omega) (by omega)
      · rw [g4 j (by omega) h4]
        have hp := hP (s - 1) (by omega) (by omega)
        rw [show mid + m - 1 - (s - 1) = mid + m - s by omega] at hp
        exact chain (le1 i (s - 1) h1 (by omega) (by omega)) hp (le2 (mid + m - s) j b6 (by omega) h4)
    · rw [g2 i (by omega) h2]
      by_cases q2 : j < mid + m - s
      · rw [g3 j h3 q2]
        have hn := hN s (Nat.le_refl _) (by omega)
        exact chain (le2 (i - s + m) (mid + m - 1 - s) (by omega) (by omega) (by omega)) hn (le1 s (j - (mid - s)) b3 (by omega) (by omega))
      · rw [g4 j (by omega) h4]; exact hs2 _ _ (by omega) (by omega) h4

/-- the two halves, each made one -/
theorem mid_join {D f g g1 g2 : Nat → Nat} {a m b s e mid : Nat} (h : Mid D f a m b s e mid g) (ha : a < mid) (hb : mid < b) (h1 : SM D g a mid g1) (h2 : SM D g1 mid b g2) : SM D f a b g2 where
  out := fun k hk => by rw [h2.out k (by omega), h1.out k (by omega), h.out k hk]
  seg := fun x => by
    rw [← h.seg x]
    constructor
    · rintro ⟨i, q1, q2, rfl⟩
      by_cases q : i < mid
      · have : g2 i = g1 i := h2.out i (.inl q)
        rw [this]
        obtain ⟨j, z1, z2, z3⟩ := (h1.seg (g1 i)).1 ⟨i, q1, q, rfl⟩
        exact ⟨j, z1, by omega, z3⟩
      · obtain ⟨j, z1, z2, z3⟩ := (h2.seg (g2 i)).1 ⟨i, by omega, q2, rfl⟩
        exact ⟨j, by omega, z2, by rw [← z3]; exact (h1.out j (.inr z1)).symm⟩
    · rintro ⟨i, q1, q2, rfl⟩
      by_cases q : i < mid
      · obtain ⟨j, z1, z2, z3⟩ := (h1.seg (g i)).2 ⟨i, q1, q, rfl⟩
        exact ⟨j, z1, by omega, by rw [h2.out j (.inl z2)]; exact z3⟩
      · have e1 : g1 i = g i := h1.out i (.inr (by omega))
        obtain ⟨j, z1, z2, z3⟩ := (h2.seg (g1 i)).2 ⟨i, by omega, q2, rfl⟩
        exact ⟨j, by omega, z2, by rw [z3, e1]⟩
  srt := fun i j q1 q2 q3 => by
    by_cases z1 : j < mid
    · rw [h2.out i (.inl (by omega)), h2.out j (.inl z1)]; exact h1.srt i j q1 q2 z1
    · by_cases z2 : i < mid
      · have e1 : g2 i = g1 i := h2.out i (.inl z2)
        rw [e1]
        obtain ⟨i', y1, y2, y3⟩ := (h1.seg (g1 i)).1 ⟨i, q1, z2, rfl⟩
        obtain ⟨j', x1, x2, x3⟩ := (h2.seg (g2 j)).1 ⟨j, by omega, q3, rfl⟩
        rw [← y3, ← x3, h1.out j' (.inr x1)]
        exact h.cr i' j' y1 y2 x1 x2
      · exact h2.srt i j (by omega) q2 q3
/-- a run that is one already -/
theorem SM.self {D f : Nat → Nat} {a b : Nat} (h : Srt D f a b) : SM D f a b f := ⟨fun _ _ => rfl, fun _ => Iff.rfl, h⟩
end Go.Proofs.Ytmehdlflhllhdaa
