/- The calendar in plain words: years behind 2000, months, days; a minute's date. No program. -/
import Derived.Test.YtoabloeechphkaaDoorBase
namespace Go.Proofs.YtoabloeechphkaaDoor

def leapV (y : Nat) : Bool := decide (y % 4 = 0) && (decide (y % 100 ≠ 0) || decide (y % 400 = 0))
theorem leapV_iff (y : Nat) : leapV y = true ↔ y % 4 = 0 ∧ (y % 100 ≠ 0 ∨ y % 400 = 0) := by
  simp [leapV]
/-- days of a month from 1 to 12 -/
def daysV (y m : Nat) : Nat := if m = 2 then (if leapV y then 29 else 28) else if m = 4 ∨ m = 6 ∨ m = 9 ∨ m = 11 then 30 else 31
theorem daysV_bd (y m : Nat) : 28 ≤ daysV y m ∧ daysV y m ≤ 31 := by
  unfold daysV; split
  · split <;> omega
  · split <;> omega
/-- how many leap years there are among so many from 2000 on -/
def leapsV (n : Nat) : Nat := if n = 0 then 0 else (n - 1) / 4 - (n - 1) / 100 + (n - 1) / 400 + 1
def yearV (n : Nat) : Nat := n * 365 + leapsV n
def sizeV (y : Nat) : Nat := if leapV y then 366 else 365
theorem sizeV_bd (y : Nat) : 365 ≤ sizeV y ∧ sizeV y ≤ 366 := by unfold sizeV; split <;> omega
theorem leaps_step (n : Nat) : leapsV (n + 1) = leapsV n + if leapV (2000 + n) then 1 else 0 := by
  have h := leapV_iff (2000 + n)
  unfold leapsV
  rw [if_neg (by omega)]
  by_cases h0 : n = 0
  · subst h0; rw [if_pos rfl]; rw [if_pos (h.2 (by omega))]
  · rw [if_neg h0]
    by_cases hl : leapV (2000 + n) = true
    · rw [if_pos hl]
      have := h.1 hl
      omega
    · rw [if_neg hl]
      have hn : ¬ ((2000 + n) % 4 = 0 ∧ ((2000 + n) % 100 ≠ 0 ∨ (2000 + n) % 400 = 0)) := fun x => hl (h.2 x)
      omega
theorem year_step (n : Nat) : yearV (n + 1) = yearV n + sizeV (2000 + n) := by
  unfold yearV sizeV
  rw [leaps_step]
  split <;> omega
theorem year_mono {a b : Nat} (h : a ≤ b) : yearV a ≤ yearV b := by
  induction b with
  | zero => obtain rfl : a = 0 := by omega
            exact Nat.le_refl _
  | succ b ih =>
    rcases Nat.lt_or_ge b a with hl | hl
    · obtain rfl : a = b + 1 := by omega
      exact Nat.le_refl _
    · have := ih hl; rw [year_step]; omega
theorem year_ge (n : Nat) : n * 365 ≤ yearV n := by unfold yearV; omega
theorem leapsV_le (n : Nat) : leapsV n ≤ n := by
  unfold leapsV; split <;> omega
theorem year_le (n : Nat) : yearV n ≤ n * 366 := by have := leapsV_le n; unfold yearV; omega
/-- the first guess is not too great -/
theorem year_guess (day : Nat) : yearV (day / 146097 * 400 + day % 146097 / 366) ≤ day := by
  unfold yearV leapsV
  split <;> omega
/-- this is the year of a day -/
def IsYear (n day : Nat) : Prop := yearV n ≤ day ∧ day < yearV (n + 1)
theorem IsYear.uniq {a b day : Nat} (h : IsYear a day) (k : IsYear b day) : a = b := by
  rcases Nat.lt_trichotomy a b with hl | hl | hl
  · have := year_mono (show a + 1 ≤ b by omega); have h2 := h.2; have k1 := k.1; omega
  · exact hl
  · have := year_mono (show b + 1 ≤ a by omega); have h2 := h.1; have k1 := k.2; omega
def yrF : Nat → Nat → Nat → Nat
  | 0, n, _ => n
  | f + 1, n, day => if yearV (n + 1) ≤ day then yrF f (n + 1) day else n
def yrV (day : Nat) : Nat := yrF day 0 day
theorem yrF_is (f n day : Nat) (h : yearV n ≤ day) (hf : day < n + f + 1) : IsYear (yrF f n day) day := by
  induction f generalizing n with
  | zero => have := year_ge (n + 1); exact ⟨h, by unfold yrF; omega⟩
  | succ f ih =>
    unfold yrF
    split
    · rename_i hl; exact ih (n + 1) hl (by omega)
    · exact ⟨h, by omega⟩
theorem year_zero : yearV 0 = 0 := rfl
theorem yrV_is (day : Nat) : IsYear (yrV day) day := yrF_is day 0 day (by rw [year_zero]; omega) (by omega)
theorem yrV_of {n day : Nat} (h : IsYear n day) : yrV day = n := (yrV_is day).uniq h

/-- days ahead of a month in its year -/
def cumV (y : Nat) : Nat → Nat
  | 0 => 0
  | m + 1 => if m = 0 then 0 else cumV y m + daysV y m
theorem cum_one (y : Nat) : cumV y 1 = 0 := rfl
theorem cum_step (y m : Nat) (h : 1 ≤ m) : cumV y (m + 1) = cumV y m + daysV y m := by
  show (if m = 0 then _ else _) = _
  rw [if_neg (by omega)]
theorem cum_13 (y : Nat) : cumV y 13 = sizeV y := by
  simp only [cumV, daysV, sizeV]
  cases leapV y <;> simp
theorem cum_mono (y : Nat) {a b : Nat} (h1 : 1 ≤ a) (h : a ≤ b) : cumV y a ≤ cumV y b := by
  induction b with
  | zero => omega
  | succ b ih =>
    rcases Nat.lt_or_ge b a with hl | hl
    · obtain rfl : a = b + 1 := by omega
      exact Nat.le_refl _
    · have := ih hl; rw [cum_step y b (by omega)]; omega
/-- the month of a day of a year -/
def IsMonth (y m of : Nat) : Prop := 1 ≤ m ∧ m ≤ 12 ∧ cumV y m ≤ of ∧ of < cumV y (m + 1)
theorem IsMonth.uniq {y a b of : Nat} (h : IsMonth y a of) (k : IsMonth y b of) : a = b := by
  obtain ⟨h1, h2, h3, h4⟩ := h
  obtain ⟨k1, k2, k3, k4⟩ := k
  rcases Nat.lt_trichotomy a b with hl | hl | hl
  · have := cum_mono y (show 1 ≤ a + 1 by omega) (show a + 1 ≤ b by omega); omega
  · exact hl
  · have := cum_mono y (show 1 ≤ b + 1 by omega) (show b + 1 ≤ a by omega); omega
def moF (y : Nat) : Nat → Nat → Nat → Nat
  | 0, m, _ => m
  | f + 1, m, of => if cumV y (m + 1) ≤ of then moF y f (m + 1) of else m
def moV (y of : Nat) : Nat := moF y 11 1 of
theorem moF_is (y f m of : Nat) (hm : 1 ≤ m) (h : cumV y m ≤ of) (hf : m + f = 12) (hl : of < sizeV y) : IsMonth y (moF y f m of) of := by
  induction f generalizing m with
  | zero =>
    obtain rfl : m = 12 := by omega
    exact ⟨by unfold moF; omega, by unfold moF; omega, h, by rw [← cum_13] at hl; exact hl⟩
  | succ f ih =>
    unfold moF
    split
    · rename_i hl2; exact ih (m + 1) (by omega) hl2 (by omega)
    · exact ⟨hm, by omega, h, by omega⟩
theorem moV_is (y of : Nat) (h : of < sizeV y) : IsMonth y (moV y of) of := moF_is y 11 1 of (by omega) (by rw [cum_one]; omega) rfl h
theorem moV_of {y m of : Nat} (h : IsMonth y m of) : moV y of = m :=
  (moV_is y of (by have := cum_mono y (a := m + 1) (b := 13) (by omega) (by have := h.2.1; omega); rw [cum_13] at this; have := h.2.2.2; omega)).uniq h

/-- a minute's date -/
structure DateD where
  y : Nat
  mo : Nat
  d : Nat
  h : Nat
  mi : Nat
  wd : Nat
def ofV (day : Nat) : Nat := day - yearV (yrV day)
def dateV (n : Nat) : DateD :=
  let day := n / 1440
  let y := 2000 + yrV day
  let m := moV y (ofV day)
  ⟨y, m, ofV day - cumV y m + 1, n % 1440 / 60, n % 1440 % 60, (day + 6) % 7⟩
theorem ofV_lt (day : Nat) : ofV day < sizeV (2000 + yrV day) := by
  have h := yrV_is day
  have h2 := h.2
  rw [year_step] at h2
  have h1 := h.1
  unfold ofV; omega
theorem month_is (day : Nat) : IsMonth (2000 + yrV day) (moV (2000 + yrV day) (ofV day)) (ofV day) := moV_is _ _ (ofV_lt day)
theorem date_bd (n : Nat) : 2000 ≤ (dateV n).y ∧ 1 ≤ (dateV n).mo ∧ (dateV n).mo ≤ 12 ∧ 1 ≤ (dateV n).d ∧ (dateV n).d ≤ daysV (dateV n).y (dateV n).mo ∧ (dateV n).d ≤ 31 ∧ (dateV n).h < 24 ∧ (dateV n).mi < 60 ∧ (dateV n).wd < 7 := by
  obtain ⟨h1, h2, h3, h4⟩ := month_is (n / 1440)
  rw [cum_step _ _ h1] at h4
  have h5 := daysV_bd (2000 + yrV (n / 1440)) (moV (2000 + yrV (n / 1440)) (ofV (n / 1440)))
  simp only [dateV]
  refine ⟨by omega, h1, h2, by omega, by omega, by omega, ?_, ?_, ?_⟩ <;> omega
/-- the days behind one of a month, as far as the month goes, are of that month -/
theorem same_month (day k : Nat) (hk : (dateV (day * 1440)).d + k ≤ daysV (dateV (day * 1440)).y (dateV (day * 1440)).mo) :
    (dateV ((day + k) * 1440)).mo = (dateV (day * 1440)).mo := by
  have e1 : day * 1440 / 1440 = day := Nat.mul_div_cancel _ (by decide)
  have e2 : (day + k) * 1440 / 1440 = day + k := Nat.mul_div_cancel _ (by decide)
  simp only [dateV, e1, e2] at hk ⊢
  obtain ⟨h1, h2, h3, h4⟩ := month_is day
  obtain ⟨m, hm⟩ : ∃ m, m = moV (2000 + yrV day) (ofV day) := ⟨_, rfl⟩
  rw [← hm] at h1 h2 h3 h4 hk ⊢
  rw [cum_step _ _ h1] at h4
  have hy := yrV_is day
  have hc := cum_mono (2000 + yrV day) (a := m + 1) (b := 13) (by omega) (by omega)
  rw [cum_13, cum_step _ _ h1] at hc
  have hs := year_step (yrV day)
  have hof : ofV day = day - yearV (yrV day) := rfl
  have hy1 := hy.1
  have hY : yrV (day + k) = yrV day := yrV_of ⟨by omega, by rw [hs]; omega⟩
  rw [hY]
  have hof2 : ofV (day + k) = ofV day + k := by unfold ofV; rw [hY]; omega
  rw [hof2]
  exact moV_of ⟨h1, h2, by omega, by rw [cum_step _ _ h1]; omega⟩
end Go.Proofs.YtoabloeechphkaaDoor
