/- The runs of a set, the text of a field and of a spec in plain words; it is read back. No program. -/
import Derived.Test.YtoabloeechphkaaDoorCronPR
import Derived.Lib.Join
import Derived.Lib.TrailingZeros
namespace Go.Proofs.YtoabloeechphkaaDoor

theorem join_snoc (b : UInt8) (l : List (List UInt8)) (y : List UInt8) (h : l ≠ []) : Lib.join (l ++ [y]) [b] = Lib.join l [b] ++ b :: y := by
  cases l with
  | nil => exact absurd rfl h
  | cons x r => rw [List.cons_append, Lib.join_cons, Lib.join_cons]; simp [Lib.joinTail]
/-- digits of a number below 100 -/
def dg (n : Nat) : List UInt8 := if n < 10 then [UInt8.ofNat (48 + n)] else [UInt8.ofNat (48 + n / 10), UInt8.ofNat (48 + n % 10)]
theorem dg_dec (n : Nat) (h : n < 100) : Lib.decDigits n = dg n := by
  unfold dg
  rw [Lib.decDigits]
  by_cases h1 : n < 10
  · rw [dif_pos h1, if_pos h1]
  · rw [dif_neg h1, if_neg h1, Lib.decDigits, dif_pos (by omega)]; rfl
theorem dg_all : (List.range 64).all (fun n => (decide (1 ≤ (dg n).length) && decide ((dg n).length ≤ 2)) && ((dg n).all digB && decide (decN (dg n) = n))) = true := by decide +kernel
theorem dg_wd {n : Nat} (h : n < 64) : Wd (dg n) ∧ decN (dg n) = n := by
  have := List.all_eq_true.1 dg_all n (List.mem_range.2 h)
  simp only [Bool.and_eq_true, decide_eq_true_eq] at this
  exact ⟨⟨⟨this.1.1, this.1.2⟩, this.2.1⟩, this.2.2⟩
/-- the text of a run -/
def runT (r : Nat × Nat) : List UInt8 := if r.1 < r.2 then dg r.1 ++ 45 :: dg r.2 else dg r.1
/-- the runs of a set from a place on -/
inductive Runs (s : Nat) : Nat → List (Nat × Nat) → Prop
  | nil (p : Nat) (h : ∀ j, p ≤ j → j < 64 → s.testBit j = false) : Runs s p []
  | cons (p a b : Nat) (l : List (Nat × Nat)) (h1 : p ≤ a) (h2 : ∀ j, p ≤ j → j < a → s.testBit j = false) (h3 : a ≤ b) (h4 : b < 64) (h5 : ∀ j, a ≤ j → j ≤ b → s.testBit j = true) (h6 : b + 1 < 64 → s.testBit (b + 1) = false) (h7 : Runs s (b + 1) l) : Runs s p ((a, b) :: l)
theorem last_run (s : Nat) : ∀ (d a : Nat), a + d = 63 → s.testBit a = true → ∃ b, a ≤ b ∧ b < 64 ∧ (∀ j, a ≤ j → j ≤ b → s.testBit j = true) ∧ (b + 1 < 64 → s.testBit (b + 1) = false)
  | 0, a, h, ha => ⟨a, Nat.le_refl _, by omega, fun j h1 h2 => by obtain rfl : j = a := by omega
                                                                  exact ha, fun h => by omega⟩
  | d + 1, a, h, ha => by
    rcases hb : s.testBit (a + 1) with _ | _
    · exact ⟨a, Nat.le_refl _, by omega, fun j h1 h2 => by obtain rfl : j = a := by omega
                                                           exact ha, fun _ => hb⟩
    · obtain ⟨b, h1, h2, h3, h4⟩ := last_run s d (a + 1) (by omega) hb
      exact ⟨b, by omega, h2, fun j hj1 hj2 => by
        by_cases e : j = a
        · rw [e]; exact ha
        · exact h3 j (by omega) hj2, h4⟩
theorem runs_ex (s : Nat) : ∀ (d p : Nat), 64 ≤ p + d → ∃ l, Runs s p l
  | 0, p, h => ⟨[], Runs.nil p (fun j h1 h2 => by omega)⟩
  | d + 1, p, h => by
    by_cases hp : 64 ≤ p
    · exact ⟨[], Runs.nil p (fun j h1 h2 => by omega)⟩
    · rcases hb : s.testBit p with _ | _
      · obtain ⟨l, hl⟩ := runs_ex s d (p + 1) (by omega)
        cases hl with
        | nil _ h1 => exact ⟨[], Runs.nil p (fun j h2 h3 => by
            by_cases e : j = p
            · rw [e]; exact hb
            · exact h1 j (by omega) h3)⟩
        | cons _ a b l h1 h2 h3 h4 h5 h6 h7 => exact ⟨(a, b) :: l, Runs.cons p a b l (by omega) (fun j h8 h9 => by
            by_cases e : j = p
            · rw [e]; exact hb
            · exact h2 j (by omega) h9) h3 h4 h5 h6 h7⟩
      · obtain ⟨b, h1, h2, h3, h4⟩ := last_run s (63 - p) p (by omega) hb
        obtain ⟨l, hl⟩ := runs_ex s d (b + 1) (by omega)
        exact ⟨_, Runs.cons p p b l (Nat.le_refl _) (fun j h8 h9 => by omega) h1 h2 h3 h4 hl⟩
/-- a set from a place on -/
def fromB (s p : Nat) : Nat := s / 2 ^ p * 2 ^ p
theorem fromB_bit (s p j : Nat) : (fromB s p).testBit j = (decide (p ≤ j) && s.testBit j) := by
  unfold fromB
  rw [← Nat.shiftLeft_eq, Nat.testBit_shiftLeft, ← Nat.shiftRight_eq_div_pow, Nat.testBit_shiftRight]
  by_cases h : p ≤ j
  · rw [show p + (j - p) = j by omega]
  · simp [h]
theorem fromB_lt (s p : Nat) (h : s < 18446744073709551616) : fromB s p < 18446744073709551616 := Nat.lt_of_le_of_lt (Nat.div_mul_le_self _ _) h
theorem fromB_zero (s : Nat) : fromB s 0 = s := by unfold fromB; simp
/-- the numbers of the runs are the set's -/
def orR : List (Nat × Nat) → Nat
  | [] => 0
  | r :: l => rowV r.1 r.2 1 ||| orR l
theorem orR_lt : ∀ l, orR l < 18446744073709551616
  | [] => by decide
  | r :: l => or_lt (rowV_lt _ _ _) (orR_lt l)
theorem runs_or {s : Nat} (hs : s < 18446744073709551616) : ∀ {p : Nat} {l : List (Nat × Nat)}, Runs s p l → orR l = fromB s p := by
  intro p l h
  induction h with
  | nil p h =>
    refine bits_ext (orR_lt []) (fromB_lt s p hs) fun j hj => ?_
    rw [fromB_bit]
    by_cases hp : p ≤ j
    · rw [h j hp hj]; simp [orR]
    · simp [orR, hp]
  | cons p a b l h1 h2 h3 h4 h5 h6 _ ih =>
    refine bits_ext (orR_lt _) (fromB_lt s p hs) fun j hj => ?_
    show (rowV a b 1 ||| orR l).testBit j = _
    rw [ih, Nat.testBit_or, fromB_bit, fromB_bit, rowV_bit _ _ _ _ hj, Bool.eq_iff_iff]
    simp only [rowP, Nat.mod_one, decide_true, Bool.and_true, Bool.or_eq_true, Bool.and_eq_true, decide_eq_true_eq]
    constructor
    · rintro (⟨h8, h9⟩ | ⟨h8, h9⟩)
      · exact ⟨by omega, h5 j h8 h9⟩
      · exact ⟨by omega, h9⟩
    · rintro ⟨h8, h9⟩
      by_cases q1 : j < a
      · rw [h2 j h8 q1] at h9; cases h9
      · by_cases q2 : j ≤ b
        · exact .inl ⟨by omega, q2⟩
        · exact .inr ⟨by omega, h9⟩
theorem runs_in {s : Nat} {p : Nat} {l : List (Nat × Nat)} (h : Runs s p l) : ∀ r ∈ l, r.1 ≤ r.2 ∧ r.2 < 64 ∧ s.testBit r.1 = true ∧ s.testBit r.2 = true := by
  induction h with
  | nil p h => simp
  | cons p a b l h1 h2 h3 h4 h5 h6 _ ih =>
    intro r hr
    rcases List.mem_cons.1 hr with rfl | hr
    · exact ⟨h3, h4, h5 a (Nat.le_refl _) h3, h5 b h3 (Nat.le_refl _)⟩
    · exact ih r hr

/-- splitting joined pieces gives the pieces -/
theorem fold_piece (b : UInt8) : ∀ (t : List UInt8) (I : List (List UInt8)) (l : List UInt8), b ∉ t → t.foldl (splStep b) (I, l) = (I, l ++ t)
  | [], I, l, _ => by simp
  | c :: r, I, l, h => by
    have h1 : ¬ c = b := fun e => h (by simp [e])
    have e : splStep b (I, l) c = (I, l ++ [c]) := if_neg h1
    rw [List.foldl_cons, e, fold_piece b r I (l ++ [c]) (fun hm => h (by simp [hm]))]; simp
theorem fold_join (b : UInt8) : ∀ (r : List (List UInt8)) (I : List (List UInt8)) (l : List UInt8), (∀ t ∈ r, b ∉ t) → ((Lib.joinTail [b] r).foldl (splStep b) (I, l)).1 ++ [((Lib.joinTail [b] r).foldl (splStep b) (I, l)).2] = I ++ l :: r
  | [], I, l, _ => by simp [Lib.joinTail]
  | t :: r, I, l, h => by
    have e : Lib.joinTail [b] (t :: r) = b :: (t ++ Lib.joinTail [b] r) := by simp [Lib.joinTail]
    have e2 : splStep b (I, l) b = (I ++ [l], []) := if_pos rfl
    rw [e, List.foldl_cons, e2, List.foldl_append, fold_piece b t _ _ (h t (by simp)), List.nil_append, fold_join b r (I ++ [l]) t (fun u hu => h u (by simp [hu]))]
    simp
theorem split_join (b : UInt8) (ts : List (List UInt8)) (hne : ts ≠ []) (h : ∀ t ∈ ts, b ∉ t) : splitV (Lib.join ts [b]) [b] = ts := by
  cases ts with
  | nil => exact absurd rfl hne
  | cons t r =>
    rw [← spl_split, Lib.join_cons]
    unfold spl splA
    rw [List.foldl_append, fold_piece b t _ _ (h t (by simp)), List.nil_append, fold_join b r [] t (fun u hu => h u (by simp [hu]))]
    simp
theorem runT_form {f : Nat} {r : Nat × Nat} (h1 : r.1 ≤ r.2) (h2 : r.2 < 64) (h3 : loF f ≤ r.1) (h4 : r.2 ≤ hiF f) : itemV f (runT r) = (rowV r.1 r.2 1, 0) := by
  obtain ⟨a, b⟩ := r
  simp only at h1 h2 h3 h4
  obtain ⟨wa, ea⟩ := dg_wd (n := a) (by omega)
  obtain ⟨wb, eb⟩ := dg_wd (n := b) h2
  have ht : tailV (loF f) (hiF f) a b 1 = (rowV a b 1, 0) := tail_ok (k := 1) (by omega)
  unfold runT
  by_cases hab : a < b
  · rw [if_pos hab]
    rw [item_on (Form.c (dg a) (dg b) wa wb rfl), ea, eb, ht]
  · obtain rfl : a = b := by omega
    rw [if_neg hab]
    rw [item_on (Form.b (dg a) wa rfl), ea, ht]
theorem wd_chars {w : List UInt8} (h : Wd w) : ∀ c ∈ w, digB c = true := fun c hc => List.all_eq_true.1 h.2 c hc
theorem runT_chars {r : Nat × Nat} (h1 : r.1 < 64) (h2 : r.2 < 64) : (∀ c ∈ runT r, digB c = true ∨ c = 45) ∧ runT r ≠ [] ∧ (runT r).length ≤ 5 ∧ ∃ c, (runT r).head? = some c ∧ digB c = true := by
  obtain ⟨wa, -⟩ := dg_wd h1
  obtain ⟨wb, -⟩ := dg_wd h2
  have hd := wa.head
  unfold runT
  by_cases hab : r.1 < r.2
  · rw [if_pos hab]
    obtain ⟨c, hc, hh⟩ := hd (45 :: dg r.2)
    refine ⟨fun c hc => ?_, by simp, ?_, c, hh, hc⟩
    · rcases List.mem_append.1 hc with h | h
      · exact .inl (wd_chars wa c h)
      · rcases List.mem_cons.1 h with h | h
        · exact .inr h
        · exact .inl (wd_chars wb c h)
    · have := wa.1; have := wb.1
      simp; omega
  · rw [if_neg hab]
    obtain ⟨c, hc, hh⟩ := hd []
    rw [List.append_nil] at hh
    refine ⟨fun c hc => .inl (wd_chars wa c hc), fun e => (by rw [e] at hh; cases hh), by have := wa.1; omega, c, hh, hc⟩
theorem items_runs {f : Nat} : ∀ (l : List (Nat × Nat)) (s0 : Nat), (∀ r ∈ l, r.1 ≤ r.2 ∧ r.2 < 64 ∧ loF f ≤ r.1 ∧ r.2 ≤ hiF f) → itemsV f (l.map runT) s0 = (0, s0 ||| orR l)
  | [], s0, _ => by rw [List.map_nil, itemsV]; show _ = (0, s0 ||| 0); rw [Nat.or_zero]
  | r :: l, s0, h => by
    obtain ⟨h1, h2, h3, h4⟩ := h r (by simp)
    rw [List.map_cons, itemsV, runT_form h1 h2 h3 h4, if_pos rfl, items_runs l _ (fun x hx => h x (by simp [hx]))]
    show (0, (s0 ||| rowV r.1 r.2 1) ||| orR l) = (0, s0 ||| (rowV r.1 r.2 1 ||| orR l))
    rw [Nat.or_assoc]
/-- a field's text -/
def fldT (a : Bool) (l : List (Nat × Nat)) : List UInt8 := if a = true then [42] else Lib.join (l.map runT) [44]
end Go.Proofs.YtoabloeechphkaaDoor
