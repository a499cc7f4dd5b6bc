/- What an expression's value is, as the program reckons it; which shapes a right form has. No walk. -/
import Derived.Test.YtlkckkagoommaaaAloneX
import Derived.Test.YtlkckkagoommaaaTypedX
namespace Go.Proofs.Ytlkckkagoommaaa
open Go.RowKit

def wAnd : ByteArray := S [97, 110, 100]
def wOr : ByteArray := S [111, 114]
def wEither : ByteArray := S [101, 105, 116, 104, 101, 114]
def wIf : ByteArray := S [105, 102]
def wCat : ByteArray := S [99, 97, 116]
/-- the ways of comparing, by their texts -/
def cmpI (s : ByteArray) : Int := Lib.idxOfS [S [], S [61], S [33, 61], S [60], S [60, 61], S [62], S [62, 61]] s
/-- what is told by the first Arg alone, or which Arg tells it; nothing: all are asked -/
def lazyV (d : ND) (f : VD) : Option (VD ⊕ Nat) :=
  if d.op = wAnd then (if f.tru = true then some (.inr 1) else some (.inl (ofV 0)))
  else if d.op = wOr then (if f.tru = true then some (.inl (ofV 1)) else some (.inr 1))
  else if d.name = wEither then (if f.kind = 0 then some (.inr 1) else some (.inl f))
  else if d.name = wIf then some (.inr (if f.tru = true then 1 else 2))
  else none
def bitIf (k : Int) (r : VD × Int) : VD × Int := if r.2 = 0 ∧ k = 4 then (bitV r.1.tru, 0) else r
def lazyX {α : Type} (ev : α → VD × Int) (d : ND) (args : List α) (f : VD) : Option (VD × Int) :=
  match lazyV d f with
  | none => none
  | some (.inl v) => some (v, 0)
  | some (.inr q) => match args[q]? with
    | none => some (zeroV, 0)
    | some a => some (bitIf d.kind (ev a))
/-- two values, by an operation or a call that asks for both -/
def bothV (d : ND) (f s : VD) : VD × Int :=
  if d.name = wCat then catV f s else if 0 < cmpI d.op then (compareV (cmpI d.op) f s, 0) else arithV ((d.op.data.toList.headD 0).toNat : Int) f s
def evalX (cs : List CD) (row : List VD) : (n : Nat) → TX n → VD × Int
  | 0, _ => (zeroV, 0)
  | n + 1, e =>
    if e.1.kind = 1 then (row.getD ((placeV cs e.1.name).getD 0) zeroV, 0)
    else if e.1.kind = 2 then (e.1.v, 0)
    else match e.2 with
      | [] => (zeroV, 0)
      | a :: r =>
        if (evalX cs row n a).2 ≠ 0 then (zeroV, (evalX cs row n a).2)
        else match lazyX (evalX cs row n) e.1 (a :: r) (evalX cs row n a).1 with
          | some z => z
          | none => match r with
            | [] => aloneV e.1 (evalX cs row n a).1
            | b :: _ => if (evalX cs row n b).2 ≠ 0 then (zeroV, (evalX cs row n b).2) else bothV e.1 (evalX cs row n a).1 (evalX cs row n b).1
theorem evalX_succ (cs : List CD) (row : List VD) (n : Nat) (e : TX (n + 1)) : evalX cs row (n + 1) e =
    if e.1.kind = 1 then (row.getD ((placeV cs e.1.name).getD 0) zeroV, 0)
    else if e.1.kind = 2 then (e.1.v, 0)
    else match e.2 with
      | [] => (zeroV, 0)
      | a :: r =>
        if (evalX cs row n a).2 ≠ 0 then (zeroV, (evalX cs row n a).2)
        else match lazyX (evalX cs row n) e.1 (a :: r) (evalX cs row n a).1 with
          | some z => z
          | none => match r with
            | [] => aloneV e.1 (evalX cs row n a).1
            | b :: _ => if (evalX cs row n b).2 ≠ 0 then (zeroV, (evalX cs row n b).2) else bothV e.1 (evalX cs row n a).1 (evalX cs row n b).1 := rfl
/-- right all the way down -/
def okX (cs : List CD) : (n : Nat) → TX n → Prop
  | 0, _ => True
  | n + 1, e => formV e.1 e.2.length = true ∧ (e.1.kind = 1 → (placeV cs e.1.name).isSome = true) ∧ ∀ a ∈ e.2, okX cs n a
theorem okX_of (cs : List CD) : ∀ (n d : Nat) (e : TX n), (typedX cs n d e).2 = 0 → okX cs n e
  | 0, _, e => e.elim
  | n + 1, d, e => fun h => by
    rw [typedX_succ] at h
    by_cases h1 : 32 < d
    · rw [if_pos h1] at h; cases h
    rw [if_neg h1] at h
    by_cases h2 : formV e.1 e.2.length = false
    · rw [if_pos h2] at h; cases h
    rw [if_neg h2] at h
    have h2' : formV e.1 e.2.length = true := by simpa using h2
    by_cases h3 : e.1.kind = 2
    · refine ⟨h2', fun h4 => by omega, fun a ha => ?_⟩
      unfold formV at h2'
      rw [if_neg (by omega), if_pos h3, Bool.and_eq_true, Bool.and_eq_true, Bool.and_eq_true] at h2'
      have := of_decide_eq_true h2'.2.2.1
      rw [List.eq_nil_of_length_eq_zero this] at ha
      cases ha
    rw [if_neg h3] at h
    by_cases h4 : e.1.kind = 1
    · rw [if_pos h4] at h
      refine ⟨h2', fun _ => ?_, fun a ha => ?_⟩
      · rcases hp : placeV cs e.1.name with _ | q
        · unfold colT at h; rw [hp] at h; cases h
        · rfl
      · unfold formV at h2'
        rw [if_pos h4, Bool.and_eq_true, Bool.and_eq_true] at h2'
        have := of_decide_eq_true h2'.2.1
        rw [List.eq_nil_of_length_eq_zero this] at ha
        cases ha
    rw [if_neg h4] at h
    refine ⟨h2', fun h => absurd h h4, fun a ha => ?_⟩
    rcases hf : e.2.find? (fun a => decide ((typedX cs n (d + 1) a).2 ≠ 0)) with _ | b
    · have := List.find?_eq_none.1 hf a ha
      exact okX_of cs n (d + 1) a (by simpa using this)
    · rw [hf] at h
      have := List.find?_some hf
      simp only [decide_eq_true_eq] at this
      exact absurd h this

/-- a right form that is no column and no constant -/
theorem shape {d : ND} {n : Nat} (h : formV d n = true) (h1 : d.kind ≠ 1) (h2 : d.kind ≠ 2) :
    (d.kind = 3 ∧ n = 1 ∧ d.name = S [] ∧ (d.op = S [45] ∨ d.op = wNot)) ∨
    (d.kind = 4 ∧ n = 2 ∧ d.name = S [] ∧ (d.op = S [43] ∨ d.op = S [45] ∨ d.op = S [42] ∨ d.op = S [47] ∨ d.op = S [37] ∨ d.op = S [61] ∨ d.op = S [33, 61] ∨ d.op = S [60] ∨ d.op = S [60, 61] ∨ d.op = S [62] ∨ d.op = S [62, 61] ∨ d.op = wAnd ∨ d.op = wOr)) ∨
    (d.kind = 5 ∧ d.op = S [] ∧ ((n = 1 ∧ (d.name = wLen ∨ d.name = wAbs ∨ d.name = wIsnull)) ∨ (n = 2 ∧ (d.name = wCat ∨ d.name = wEither)) ∨ (n = 3 ∧ d.name = wIf))) := by
  unfold formV at h
  rw [if_neg h1, if_neg h2, Bool.and_eq_true, Bool.and_eq_true] at h
  obtain ⟨ha, _, hc⟩ := h
  have hr : ∃ r ∈ rulesV d.kind, r.name = keyN d ∧ n = r.args.length := by
    unfold ruleV at ha
    rcases hi : ruleI d with _ | k
    · rw [hi] at ha; cases ha
    · rw [hi] at ha
      unfold ruleI at hi
      rw [List.findIdx?_eq_some_iff_getElem] at hi
      obtain ⟨hk, hp, _⟩ := hi
      simp only at ha
      rw [List.getElem?_eq_getElem hk] at ha
      exact ⟨_, List.getElem_mem hk, of_decide_eq_true hp, of_decide_eq_true ha⟩
  obtain ⟨r, hm, hn, hl⟩ := hr
  unfold rulesV at hm
  unfold keyN at hn
  by_cases k3 : d.kind = 3
  · left
    rw [if_neg (by omega)] at hc hn
    have hc' := of_decide_eq_true hc
    rw [if_pos k3] at hm
    simp only [List.mem_cons, List.not_mem_nil, or_false] at hm
    rcases hm with rfl | rfl
    · exact ⟨k3, hl, hc', .inl hn.symm⟩
    · exact ⟨k3, hl, hc', .inr hn.symm⟩
  rw [if_neg k3] at hm
  by_cases k4 : d.kind = 4
  · right; left
    rw [if_neg (by omega)] at hc hn
    have hc' := of_decide_eq_true hc
    rw [if_pos k4] at hm
    simp only [List.mem_cons, List.not_mem_nil, or_false] at hm
    refine ⟨k4, ?_, hc', ?_⟩
    · rcases hm with rfl | rfl | rfl | rfl | rfl | rfl | rfl | rfl | rfl | rfl | rfl | rfl | rfl <;> exact hl
    · rcases hm with rfl | rfl | rfl | rfl | rfl | rfl | rfl | rfl | rfl | rfl | rfl | rfl | rfl <;> simp only at hn <;> rw [← hn] <;> simp [wAnd, wOr]
  rw [if_neg k4] at hm
  by_cases k5 : d.kind = 5
  · right; right
    rw [if_pos k5] at hc hn
    have hc' := of_decide_eq_true hc
    rw [if_pos k5] at hm
    simp only [List.mem_cons, List.not_mem_nil, or_false] at hm
    refine ⟨k5, hc', ?_⟩
    rcases hm with rfl | rfl | rfl | rfl | rfl | rfl
    · exact .inl ⟨hl, .inl hn.symm⟩
    · exact .inl ⟨hl, .inr (.inl hn.symm)⟩
    · exact .inl ⟨hl, .inr (.inr hn.symm)⟩
    · exact .inr (.inl ⟨hl, .inl hn.symm⟩)
    · exact .inr (.inl ⟨hl, .inr hn.symm⟩)
    · exact .inr (.inr ⟨hl, hn.symm⟩)
  · rw [if_neg k5] at hm; cases hm

/-- texts stay short -/
theorem arith_text (o : Int) (a b : VD) (M : Nat) : (arithV o a b).1.text.size ≤ M := by
  have h0 : (S []).size = 0 := rfl
  unfold arithV
  (repeat' split) <;> simp [zeroV, ofV, h0]
theorem bit_text (b : Bool) (M : Nat) : (bitV b).text.size ≤ M := by
  have h0 : (S []).size = 0 := rfl
  cases b <;> simp [bitV, ofV, h0]
theorem alone_text (d : ND) (v : VD) (M : Nat) (h : v.text.size ≤ M) : (aloneV d v).1.text.size ≤ M := by
  unfold aloneV
  split
  · exact bit_text _ _
  · split
    · exact bit_text _ _
    · split
      · exact h
      · split
        · exact Nat.zero_le _
        · split
          · exact h
          · exact arith_text _ _ _ _
theorem both_text (d : ND) (f s : VD) (M : Nat) (hM : 64 ≤ M) : (bothV d f s).1.text.size ≤ M := by
  have h0 : (S []).size = 0 := rfl
  unfold bothV
  split
  · unfold catV
    split
    · exact Nat.zero_le _
    · split
      · exact Nat.zero_le _
      · show (f.text ++ s.text).size ≤ M
        rw [ByteArray.size_append]; omega
  · split
    · unfold compareV
      split
      · exact Nat.zero_le _
      · exact bit_text _ _
    · exact arith_text _ _ _ _
theorem eval_text (cs : List CD) (row : List VD) (M : Nat) (hM : 64 ≤ M) (hr : ∀ v ∈ row, v.text.size ≤ M) : ∀ (n : Nat) (e : TX n), allX (fun q => q.v.text.size ≤ M) n e → (evalX cs row n e).1.text.size ≤ M
  | 0, e => e.elim
  | n + 1, e => fun ha => by
    obtain ⟨h1, h2⟩ := ha
    rw [evalX_succ]
    generalize e.1 = d at h1 h2 ⊢
    generalize e.2 = args at h1 h2 ⊢
    split
    · simp only
      rw [List.getD_eq_getElem?_getD]
      rcases hg : row[(placeV cs d.name).getD 0]? with _ | v
      · exact Nat.zero_le _
      · exact hr v (List.mem_of_getElem? hg)
    · split
      · exact h1
      · cases args with
        | nil => exact Nat.zero_le _
        | cons a r =>
          have e1 := eval_text cs row M hM hr n a (h2 a List.mem_cons_self)
          simp only
          split
          · exact Nat.zero_le _
          · rcases hl : lazyX (evalX cs row n) d (a :: r) (evalX cs row n a).1 with _ | z
            · simp only
              cases r with
              | nil => exact alone_text _ _ _ e1
              | cons b r =>
                simp only
                split
                · exact Nat.zero_le _
                · exact both_text _ _ _ _ hM
            · simp only
              unfold lazyX at hl
              rcases hv : lazyV d (evalX cs row n a).1 with _ | v
              · rw [hv] at hl; cases hl
              · rw [hv] at hl
                cases v with
                | inl v =>
                  cases hl
                  unfold lazyV at hv
                  (repeat' split at hv) <;> simp at hv <;> subst hv <;> first | exact e1 | exact Nat.zero_le _
                | inr q =>
                  simp only at hl
                  rcases hq : (a :: r)[q]? with _ | x
                  · rw [hq] at hl; cases hl; exact Nat.zero_le _
                  · rw [hq] at hl
                    cases hl
                    have := eval_text cs row M hM hr n x (h2 x (List.mem_of_getElem? hq))
                    unfold bitIf
                    split
                    · exact bit_text _ _
                    · exact this
end Go.Proofs.Ytlkckkagoommaaa
