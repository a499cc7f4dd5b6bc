/- The pieces of a text, an item of a field, as the document reads them: they are what the program reads. No program. -/
import Derived.Test.YtoabloeechphkaaDoorCronParse
namespace Go.Proofs.YtoabloeechphkaaDoor

def splStep (b : UInt8) (p : List (List UInt8) × List UInt8) (c : UInt8) : List (List UInt8) × List UInt8 := if c = b then (p.1 ++ [p.2], []) else (p.1, p.2 ++ [c])
def splA (b : UInt8) (s : List UInt8) : List (List UInt8) × List UInt8 := s.foldl (splStep b) ([], [])
def spl (b : UInt8) (s : List UInt8) : List (List UInt8) := (splA b s).1 ++ [(splA b s).2]
theorem splA_snoc (b : UInt8) (s : List UInt8) (c : UInt8) : splA b (s ++ [c]) = splStep b (splA b s) c := by simp [splA]
def glue (l : List UInt8) : List (List UInt8) → List (List UInt8)
  | [] => [l]
  | h :: t => (l ++ h) :: t
theorem splitF_ne (sep : List UInt8) (f : Nat) (r : List UInt8) : splitF sep f r ≠ [] := by
  cases f with
  | zero => simp [splitF]
  | succ f => unfold splitF; split <;> simp
theorem glue_nil {l : List (List UInt8)} (h : l ≠ []) : glue [] l = l := by
  cases l with
  | nil => exact absurd rfl h
  | cons a t => rfl
theorem pre_one (b c : UInt8) (r : List UInt8) : ([b] : List UInt8).isPrefixOf (c :: r) = (b == c) := by simp [List.isPrefixOf]
theorem spl_gen (b : UInt8) : ∀ (r : List UInt8) (f : Nat), r.length ≤ f → ∀ (I : List (List UInt8)) (l : List UInt8), (r.foldl (splStep b) (I, l)).1 ++ [(r.foldl (splStep b) (I, l)).2] = I ++ glue l (splitF [b] f r)
  | [], f, _, I, l => by
    have : splitF [b] f [] = [[]] := split_last (by rfl)
    rw [this]; simp [glue]
  | c :: r, 0, h, _, _ => by simp at h
  | c :: r, f + 1, h, I, l => by
    rw [List.length_cons] at h
    rw [List.foldl_cons]
    by_cases hc : c = b
    · have hi : Lib.index (c :: r) [b] = 0 := by unfold Lib.index; rw [pre_one, hc]; simp
      have hs : splitF [b] (f + 1) (c :: r) = [] :: splitF [b] f r := by
        show (if _ then _ else _) = _
        rw [hi, if_neg (by omega)]; rfl
      have e : splStep b (I, l) c = (I ++ [l], []) := if_pos hc
      rw [e, spl_gen b r f (by omega), hs, glue_nil (splitF_ne _ _ _)]
      simp [glue]
    · have hb : (b == c) = false := beq_eq_false_iff_ne.2 (fun e => hc e.symm)
      have e : splStep b (I, l) c = (I, l ++ [c]) := if_neg hc
      have ih := spl_gen b r (f + 1) (by omega) I (l ++ [c])
      rw [e, ih]
      by_cases hn : Lib.index r [b] = -1
      · have h1 : Lib.index (c :: r) [b] = -1 := by unfold Lib.index; rw [pre_one, hb, hn]; rfl
        rw [split_last hn, split_last h1]; simp [glue]
      · obtain ⟨i, hi, hil⟩ := index_le r [b] hn
        have h1 : Lib.index (c :: r) [b] = (i : Int) + 1 := by
          unfold Lib.index
          rw [pre_one, hb, hi]
          have : ((i : Int) == -1) = false := by rw [beq_eq_false_iff_ne]; omega
          rw [this]; rfl
        have hs : splitF [b] (f + 1) (c :: r) = (c :: r.take i) :: splitF [b] f (r.drop (i + 1)) := by
          show (if _ then _ else _) = _
          rw [h1, if_neg (by omega)]
          have : ((i : Int) + 1).toNat = i + 1 := by omega
          rw [this]; rfl
        have hs2 : splitF [b] (f + 1) r = r.take i :: splitF [b] f (r.drop (i + 1)) := by
          show (if _ then _ else _) = _
          rw [hi, if_neg (by omega), Int.toNat_natCast]; rfl
        rw [hs, hs2]; simp [glue]
theorem spl_split (b : UInt8) (s : List UInt8) : spl b s = splitV s [b] := by
  have := spl_gen b s s.length (Nat.le_refl _) [] []
  unfold spl splA splitV
  rw [this, List.nil_append, glue_nil (splitF_ne _ _ _)]

/-- digits at the head of a text: the number, how many; none: there are none, or too many -/
def rn (t : List UInt8) : Option (Nat × Nat) :=
  if (t.takeWhile digB).length = 0 ∨ 2 < (t.takeWhile digB).length then none else some (decN (t.takeWhile digB), (t.takeWhile digB).length)
def chkV (lo hi : Nat) (fr to st : Int) (rest : List UInt8) (bare : Bool) : Nat × Int := if rest ≠ [] ∨ bare = true then (0, 20) else tailV lo hi fr to st
def finV (lo hi : Nat) (star star0 : Bool) (fr to : Int) (t : List UInt8) : Nat × Int :=
  if t.head? = some 47 then
    match rn t.tail with
    | none => (0, 20)
    | some (st, d) => if star = true then chkV lo hi fr to st (t.tail.drop d) false else (0, 20)
  else chkV lo hi fr to 1 t star0
/-- an item, as the document reads it -/
def ritem (lo hi : Nat) (s : List UInt8) : Nat × Int :=
  if s.head? = some 42 then finV lo hi true true lo hi s.tail
  else match rn s with
    | none => (0, 20)
    | some (n, d) =>
      if (s.drop d).head? = some 45 then
        match rn (s.drop d).tail with
        | none => (0, 20)
        | some (m, d2) => finV lo hi true false n m ((s.drop d).tail.drop d2)
      else finV lo hi false false n n (s.drop d)

/-- a word of one or two digits -/
def Wd (w : List UInt8) : Prop := (1 ≤ w.length ∧ w.length ≤ 2) ∧ w.all digB = true
theorem Wd.num {w : List UInt8} (h : Wd w) : numV w = decN w := numV_some h
theorem num_wd {w : List UInt8} (h : ¬ numV w < 0) : Wd w := by
  by_cases hw : Wd w
  · exact hw
  · rw [numV_none hw] at h; omega
theorem Wd.not {w : List UInt8} (h : Wd w) {c : UInt8} (hc : digB c = false) : c ∉ w := fun hm => by
  have := List.all_eq_true.1 h.2 c hm
  rw [hc] at this; cases this
theorem takeWhile_app {w u : List UInt8} (h : w.all digB = true) (hu : ∀ c, u.head? = some c → digB c = false) : (w ++ u).takeWhile digB = w := by
  induction w with
  | nil =>
    cases u with
    | nil => rfl
    | cons c r => simp [List.takeWhile, hu c rfl]
  | cons c r ih =>
    rw [List.all_cons, Bool.and_eq_true] at h
    rw [List.cons_append, List.takeWhile_cons, h.1, if_pos rfl, ih h.2]
theorem rn_wd {w u : List UInt8} (h : Wd w) (hu : ∀ c, u.head? = some c → digB c = false) : rn (w ++ u) = some (decN w, w.length) := by
  unfold rn
  rw [takeWhile_app h.2 hu, if_neg (by have := h.1; omega)]
theorem rn_wd0 {w : List UInt8} (h : Wd w) : rn w = some (decN w, w.length) := by
  have := rn_wd (u := []) h (by simp)
  rwa [List.append_nil] at this
theorem rn_some {t : List UInt8} {n d : Nat} (h : rn t = some (n, d)) : ∃ w u, t = w ++ u ∧ Wd w ∧ n = decN w ∧ d = w.length := by
  unfold rn at h
  split at h
  · cases h
  · rename_i hl
    injection h with h
    injection h with h1 h2
    refine ⟨t.takeWhile digB, t.dropWhile digB, (List.takeWhile_append_dropWhile).symm, ⟨by omega, ?_⟩, h1.symm, h2.symm⟩
    exact List.all_eq_true.2 fun c hc => by
      clear hl h1 h2
      induction t with
      | nil => simp at hc
      | cons a r ih =>
        rw [List.takeWhile_cons] at hc
        by_cases ha : digB a = true
        · rw [if_pos ha] at hc
          rcases List.mem_cons.1 hc with rfl | hc
          · exact ha
          · exact ih hc
        · rw [if_neg ha] at hc; simp at hc

/-- a right item -/
inductive Form (lo hi : Nat) (s : List UInt8) : Nat × Int → Prop
  | a (w : List UInt8) (h : Wd w) (e : s = 42 :: 47 :: w) : Form lo hi s (tailV lo hi lo hi (decN w))
  | b (w : List UInt8) (h : Wd w) (e : s = w) : Form lo hi s (tailV lo hi (decN w) (decN w) 1)
  | c (w v : List UInt8) (h : Wd w) (k : Wd v) (e : s = w ++ 45 :: v) : Form lo hi s (tailV lo hi (decN w) (decN v) 1)
  | d (w v u : List UInt8) (h : Wd w) (k : Wd v) (m : Wd u) (e : s = (w ++ 45 :: v) ++ 47 :: u) : Form lo hi s (tailV lo hi (decN w) (decN v) (decN u))

theorem cut_no {s : List UInt8} {b : UInt8} (h : b ∉ s) : Lib.cut s [b] = (s, [], false) := by
  have hi : Lib.index s [b] = -1 := by
    induction s with
    | nil => rfl
    | cons c r ih =>
      have h1 : b ≠ c := fun e => h (by simp [e])
      have h2 : b ∉ r := fun e => h (by simp [e])
      unfold Lib.index
      rw [pre_one, ih h2, beq_eq_false_iff_ne.2 h1]; rfl
  unfold Lib.cut
  rw [hi]; rfl
theorem index_app {p q : List UInt8} {b : UInt8} (h : b ∉ p) : Lib.index (p ++ b :: q) [b] = p.length := by
  induction p with
  | nil => unfold Lib.index; rw [List.nil_append]; simp only; rw [pre_one]; simp
  | cons c r ih =>
    have h1 : b ≠ c := fun e => h (by simp [e])
    have h2 : b ∉ r := fun e => h (by simp [e])
    rw [List.cons_append]
    unfold Lib.index
    rw [pre_one, ih h2, beq_eq_false_iff_ne.2 h1]
    have : ((r.length : Int) == -1) = false := by rw [beq_eq_false_iff_ne]; omega
    rw [this]; simp
theorem cut_yes {p q : List UInt8} {b : UInt8} (h : b ∉ p) : Lib.cut (p ++ b :: q) [b] = (p, q, true) := by
  unfold Lib.cut
  rw [index_app h]
  simp
theorem first_of {b : UInt8} : ∀ {s : List UInt8}, b ∈ s → ∃ p q, s = p ++ b :: q ∧ b ∉ p
  | [], h => by cases h
  | c :: r, h => by
    by_cases hc : c = b
    · exact ⟨[], r, by rw [hc]; rfl, by simp⟩
    · have hr : b ∈ r := by
        rcases List.mem_cons.1 h with e | e
        · exact absurd e.symm hc
        · exact e
      obtain ⟨p, q, e, hp⟩ := first_of hr
      exact ⟨c :: p, q, by rw [e]; rfl, fun hm => by
        rcases List.mem_cons.1 hm with e2 | e2
        · exact hc e2.symm
        · exact hp e2⟩
theorem cut_cases (s : List UInt8) (b : UInt8) : (b ∉ s ∧ Lib.cut s [b] = (s, [], false)) ∨ ∃ p q, b ∉ p ∧ s = p ++ b :: q ∧ Lib.cut s [b] = (p, q, true) := by
  by_cases h : b ∈ s
  · obtain ⟨p, q, e, hp⟩ := first_of h
    exact .inr ⟨p, q, hp, e, by rw [e]; exact cut_yes hp⟩
  · exact .inl ⟨h, cut_no h⟩
theorem dig47 : digB 47 = false := by decide
theorem dig45 : digB 45 = false := by decide
theorem dig42 : digB 42 = false := by decide
theorem num_nn (w : List UInt8) (h : Wd w) : ¬ numV w < 0 := by rw [h.num]; omega
theorem app_not {w v : List UInt8} {c : UInt8} (h : c ∉ w) (k : c ∉ v) (d : UInt8) (hd : c ≠ d) : c ∉ w ++ d :: v := by
  intro hm
  rcases List.mem_append.1 hm with e | e
  · exact h e
  · rcases List.mem_cons.1 e with e | e
    · exact hd e
    · exact k e
theorem Wd.head {w : List UInt8} (h : Wd w) (u : List UInt8) : ∃ c, digB c = true ∧ (w ++ u).head? = some c := by
  cases w with
  | nil => have := h.1.1; simp at this
  | cons c r =>
    have := h.2
    rw [List.all_cons, Bool.and_eq_true] at this
    exact ⟨c, this.1, rfl⟩

/-- the program: a right item, or the error 20 -/
theorem item_form (f : Nat) (s : List UInt8) : Form (loF f) (hiF f) s (itemV f s) ∨ itemV f s = (0, 20) := by
  have key : ∀ (sp : List UInt8) (st : Option (List UInt8)), (∀ w, st = some w → Wd w) → 47 ∉ sp → (∀ w, st = some w → s = sp ++ 47 :: w) → (st = none → s = sp) →
      Form (loF f) (hiF f) s (spanV (loF f) (hiF f) (st.map fun w => (decN w : Int)) sp) ∨ spanV (loF f) (hiF f) (st.map fun w => (decN w : Int)) sp = (0, 20) := fun sp st hw hs hsome hnone => by
    unfold spanV
    by_cases h1 : sp = [42] ∧ (st.map fun w => (decN w : Int)).isSome = true
    · rw [if_pos h1]
      obtain ⟨w, rfl⟩ : ∃ w, st = some w := by cases st with
        | none => simp at h1
        | some w => exact ⟨w, rfl⟩
      exact .inl (Form.a w (hw w rfl) (by rw [hsome w rfl, h1.1]; rfl))
    · rw [if_neg h1]
      unfold pairV
      rcases cut_cases sp 45 with ⟨hn, hc⟩ | ⟨a, b, ha, he, hc⟩
      · rw [hc]
        simp only
        by_cases hneg : numV sp < 0 ∨ (if false = true then numV [] else numV sp) < 0 ∨ ((st.map fun w => (decN w : Int)).isSome && !false) = true
        · rw [if_pos hneg]; exact .inr rfl
        · rw [if_neg hneg]
          have hwd := num_wd (fun h => hneg (.inl h))
          have hst : st = none := by
            cases st with
            | none => rfl
            | some w => exact absurd (.inr (.inr rfl)) hneg
          subst hst
          rw [hwd.num]
          exact .inl (Form.b sp hwd (hnone rfl))
      · rw [hc]
        simp only
        by_cases hneg : numV a < 0 ∨ (if True then numV b else numV a) < 0 ∨ ((st.map fun w => (decN w : Int)).isSome && !true) = true
        · rw [if_pos hneg]; exact .inr rfl
        · rw [if_neg hneg, if_pos trivial]
          have hwa := num_wd (fun h => hneg (.inl h))
          have hwb := num_wd (w := b) (fun h => hneg (.inr (.inl (by rw [if_pos trivial]; exact h))))
          rw [hwa.num, hwb.num]
          cases st with
          | none => exact .inl (Form.c a b hwa hwb (by rw [hnone rfl, he]))
          | some w => exact .inl (Form.d a b w hwa hwb (hw w rfl) (by rw [hsome w rfl, he]))
  unfold itemV
  rcases cut_cases s 47 with ⟨hn, hc⟩ | ⟨p, q, hp, he, hc⟩
  · rw [hc]
    simp only
    rw [if_neg (by simp)]
    exact key s none (fun w h => by cases h) hn (fun w h => by cases h) (fun _ => rfl)
  · rw [hc]
    simp only
    rw [if_pos trivial]
    by_cases hq : numV q < 0
    · rw [if_pos hq]; exact .inr rfl
    · rw [if_neg hq]
      have hwq := num_wd hq
      rw [hwq.num]
      exact key p (some q) (fun w h => by cases h; exact hwq) hp (fun w h => by cases h; exact he) (fun h => by cases h)
/-- the document: a right item, or the error 20 -/
theorem fin_form {lo hi : Nat} {s : List UInt8} {star star0 : Bool} {fr to : Int} {t : List UInt8} (h0 : star0 = true → star = true)
    (hb : t = [] → star0 = false → Form lo hi s (tailV lo hi fr to 1)) (hs : ∀ w, Wd w → t = 47 :: w → star = true → Form lo hi s (tailV lo hi fr to (decN w))) :
    Form lo hi s (finV lo hi star star0 fr to t) ∨ finV lo hi star star0 fr to t = (0, 20) := by
  unfold finV
  by_cases h1 : t.head? = some 47
  · rw [if_pos h1]
    rcases hr : rn t.tail with _ | ⟨st, d⟩
    · exact .inr rfl
    · obtain ⟨w, u, e, hw, rfl, rfl⟩ := rn_some hr
      simp only
      by_cases hst : star = true
      · rw [if_pos hst]
        unfold chkV
        rw [e, List.drop_left]
        by_cases hu : u = []
        · subst hu
          rw [if_neg (by simp)]
          refine .inl (hs w hw ?_ hst)
          cases t with
          | nil => cases h1
          | cons c r =>
            simp at h1 e
            rw [h1, e]
        · rw [if_pos (.inl hu)]; exact .inr rfl
      · rw [if_neg hst]; exact .inr rfl
  · rw [if_neg h1]
    unfold chkV
    by_cases hu : t ≠ [] ∨ star0 = true
    · rw [if_pos hu]; exact .inr rfl
    · rw [if_neg hu]
      have h3 : t = [] := by
        by_cases h3 : t = []
        · exact h3
        · exact absurd (.inl h3) hu
      exact .inl (hb h3 (by
        cases star0 with
        | false => rfl
        | true => exact absurd (.inr rfl) hu))
theorem ritem_form (lo hi : Nat) (s : List UInt8) : Form lo hi s (ritem lo hi s) ∨ ritem lo hi s = (0, 20) := by
  unfold ritem
  by_cases h1 : s.head? = some 42
  · rw [if_pos h1]
    obtain ⟨r, rfl⟩ : ∃ r, s = 42 :: r := by
      cases s with
      | nil => cases h1
      | cons c r => simp at h1; exact ⟨r, by rw [h1]⟩
    exact fin_form (fun _ => rfl) (fun _ h => by cases h) (fun w hw e _ => Form.a w hw (by rw [List.tail_cons] at e; rw [e]))
  · rw [if_neg h1]
    rcases hr : rn s with _ | ⟨n, d⟩
    · exact .inr rfl
    · obtain ⟨w, u, e, hw, rfl, rfl⟩ := rn_some hr
      simp only
      rw [e, List.drop_left]
      by_cases h2 : u.head? = some 45
      · rw [if_pos h2]
        obtain ⟨r, rfl⟩ : ∃ r, u = 45 :: r := by
          cases u with
          | nil => cases h2
          | cons c r => simp at h2; exact ⟨r, by rw [h2]⟩
        rw [List.tail_cons]
        rcases hr2 : rn r with _ | ⟨m, d2⟩
        · exact .inr rfl
        · obtain ⟨v, u2, e2, hv, rfl, rfl⟩ := rn_some hr2
          simp only
          rw [e2, List.drop_left]
          exact fin_form (fun h => by cases h) (fun h _ => Form.c w v hw hv (by rw [h, List.append_nil])) (fun x hx h _ => Form.d w v x hw hv hx (by rw [h]; simp))
      · rw [if_neg h2]
        exact fin_form (fun h => by cases h) (fun h _ => Form.b w hw (by rw [h, List.append_nil])) (fun x hx h hs => by cases hs)
theorem item_on {f : Nat} {s : List UInt8} {r : Nat × Int} (h : Form (loF f) (hiF f) s r) : itemV f s = r := by
  cases h with
  | a w h e =>
    subst e
    have hc : Lib.cut (42 :: 47 :: w) [47] = ([42], w, true) := cut_yes (p := [42]) (by decide)
    unfold itemV
    rw [hc]
    simp only
    rw [if_pos trivial, if_neg (num_nn w h), h.num]
    unfold spanV
    rw [if_pos ⟨rfl, rfl⟩]; rfl
  | b w h e =>
    subst e
    unfold itemV
    rw [cut_no (h.not dig47)]
    simp only
    rw [if_neg (by simp)]
    unfold spanV
    rw [if_neg (fun x => by cases x.2), cut_no (h.not dig45)]
    unfold pairV
    simp only
    rw [if_neg (by
      rintro (x | x | x)
      · exact num_nn s h x
      · exact num_nn s h x
      · cases x), h.num]; rfl
  | c w v h k e =>
    subst e
    unfold itemV
    rw [cut_no (app_not (h.not dig47) (k.not dig47) 45 (by decide))]
    simp only
    rw [if_neg (by simp)]
    unfold spanV
    rw [if_neg (fun x => by cases x.2), cut_yes (h.not dig45)]
    unfold pairV
    simp only
    rw [if_pos trivial, if_neg (by
      rintro (x | x | x)
      · exact num_nn w h x
      · exact num_nn v k x
      · cases x), h.num, k.num]; rfl
  | d w v u h k m e =>
    subst e
    unfold itemV
    rw [cut_yes (app_not (h.not dig47) (k.not dig47) 45 (by decide))]
    simp only
    rw [if_pos trivial, if_neg (num_nn u m), m.num]
    unfold spanV
    have hne : ¬ w ++ 45 :: v = [42] := fun x => by
      obtain ⟨c, hc, hh⟩ := h.head (45 :: v)
      rw [x] at hh
      simp at hh
      rw [← hh, dig42] at hc; cases hc
    rw [if_neg (fun x => hne x.1), cut_yes (h.not dig45)]
    unfold pairV
    simp only
    rw [if_pos trivial, if_neg (by
      rintro (x | x | x)
      · exact num_nn w h x
      · exact num_nn v k x
      · cases x), h.num, k.num]; rfl
theorem ritem_on {lo hi : Nat} {s : List UInt8} {r : Nat × Int} (h : Form lo hi s r) : ritem lo hi s = r := by
  have fin47 : ∀ (star0 : Bool) (fr to : Int) (u : List UInt8), Wd u → finV lo hi true star0 fr to (47 :: u) = tailV lo hi fr to (decN u) := fun star0 fr to u hu => by
    unfold finV
    rw [if_pos (show (47 :: u).head? = some 47 from rfl), List.tail_cons, rn_wd0 hu]
    simp only
    rw [if_pos trivial]
    unfold chkV
    rw [List.drop_length, if_neg (by simp)]
  have finE : ∀ (star : Bool) (fr to : Int), finV lo hi star false fr to [] = tailV lo hi fr to 1 := fun star fr to => by
    unfold finV
    rw [if_neg (by simp)]
    unfold chkV
    rw [if_neg (by simp)]
  have hd : ∀ (w u : List UInt8), Wd w → ¬ (w ++ u).head? = some 42 := fun w u h x => by
    obtain ⟨c, hc, hh⟩ := h.head u
    rw [x] at hh
    injection hh with hh
    rw [← hh, dig42] at hc; cases hc
  cases h with
  | a w h e =>
    subst e
    unfold ritem
    rw [if_pos (show (42 :: 47 :: w).head? = some 42 from rfl), List.tail_cons, fin47 _ _ _ _ h]
  | b w h e =>
    subst e
    unfold ritem
    rw [if_neg (by have := hd s [] h; rwa [List.append_nil] at this), rn_wd0 h]
    simp only
    rw [List.drop_length, if_neg (by simp), finE]
  | c w v h k e =>
    subst e
    unfold ritem
    rw [if_neg (hd w _ h), rn_wd h (fun c hc => by simp at hc; rw [← hc]; exact dig45)]
    simp only
    rw [List.drop_left, if_pos (show (45 :: v).head? = some 45 from rfl), List.tail_cons, rn_wd0 k]
    simp only
    rw [List.drop_length, finE]
  | d w v u h k m e =>
    subst e
    unfold ritem
    rw [List.append_assoc, List.cons_append, if_neg (hd w _ h), rn_wd h (fun c hc => by simp at hc; rw [← hc]; exact dig45)]
    simp only
    rw [List.drop_left, if_pos (show (45 :: (v ++ 47 :: u)).head? = some 45 from rfl), List.tail_cons, rn_wd k (fun c hc => by simp at hc; rw [← hc]; exact dig47)]
    simp only
    rw [List.drop_left, fin47 _ _ _ _ m]
/-- both read an item alike -/
theorem ritem_eq (f : Nat) (s : List UInt8) : ritem (loF f) (hiF f) s = itemV f s := by
  rcases item_form f s with h | h
  · exact ritem_on h
  · rcases ritem_form (loF f) (hiF f) s with k | k
    · exact (item_on k).symm
    · rw [h, k]
end Go.Proofs.YtoabloeechphkaaDoor
