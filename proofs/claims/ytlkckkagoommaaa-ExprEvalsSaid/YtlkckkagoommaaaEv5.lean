/- Part 5 of the texts of this proof, one behind the other; each begins with its own sentence. No condition beyond those that its theorems state. -/
import Derived.Test.YtlkckkagoommaaaEv4
/- The document's form and type of an expression are the program's. No walk. -/
namespace Go.Proofs.Ytlkckkagoommaaa
open Go.RowKit

theorem inL_iff (s : ByteArray) (l : List ByteArray) : inL s l = true ↔ s ∈ l := by
  unfold inL
  rw [List.any_eq_true]
  constructor
  · rintro ⟨x, hx, e⟩
    rwa [← of_decide_eq_true e]
  · intro h
    exact ⟨s, h, decide_eq_true rfl⟩
theorem formV_at {d : ND} {r : RU} {n : Nat} (h1 : d.kind ≠ 1) (h2 : d.kind ≠ 2) (hr : ruleV d = some r) (hl : n = r.args.length) (hz : isNull d.v = true) (hx : (if d.kind = 5 then decide (d.op = S []) else decide (d.name = S [])) = true) : formV d n = true := by
  unfold formV
  rw [if_neg h1, if_neg h2, hr, hz, hx]
  simp [hl]
theorem formV_null {d : ND} {n : Nat} (h : formV d n = true) (h1 : d.kind ≠ 1) (h2 : d.kind ≠ 2) : isNull d.v = true := by
  unfold formV at h
  rw [if_neg h1, if_neg h2, Bool.and_eq_true, Bool.and_eq_true] at h
  exact h.2.1
theorem formR_eq (d : ND) (n : Nat) : formR d n = formV d n := by
  obtain ⟨k, nm, v, op⟩ := d
  by_cases h1 : k = 1
  · unfold formR formV
    rw [if_pos h1, if_pos h1]
    cases isNull v <;> cases decide (op = S []) <;> cases decide (n = 0) <;> rfl
  by_cases h2 : k = 2
  · unfold formR formV
    rw [if_neg h1, if_pos h2, if_neg h1, if_pos h2]
  rw [Bool.eq_iff_iff]
  constructor
  · intro h
    unfold formR at h
    rw [if_neg h1, if_neg h2] at h
    split at h
    · cases h
    rename_i hz0
    have hz : isNull v = true := by simpa using hz0
    clear hz0
    split at h
    · rename_i hk
      have hk : k = 3 := hk
      subst hk
      simp only [Bool.and_eq_true, decide_eq_true_eq] at h
      obtain ⟨rfl, rfl, hc⟩ := h
      rw [inL_iff] at hc
      simp only [nNEG, List.mem_cons, List.not_mem_nil, or_false] at hc
      rcases hc with rfl | rfl
      · exact formV_at h1 h2 (r := ⟨S [45], [1], 1⟩) (by kernel_rfl) rfl hz rfl
      · exact formV_at h1 h2 (r := ⟨S [110, 111, 116], [0], 1⟩) (by kernel_rfl) rfl hz rfl
    split at h
    · rename_i hk
      have hk : k = 4 := hk
      subst hk
      simp only [Bool.and_eq_true, decide_eq_true_eq] at h
      obtain ⟨rfl, rfl, hc⟩ := h
      rw [inL_iff] at hc
      have hr : ∃ r, ruleV ⟨4, S [], v, op⟩ = some r ∧ 2 = r.args.length := by
        simp only [nBIN, List.mem_cons, List.not_mem_nil, or_false] at hc
        rcases hc with rfl | rfl | rfl | rfl | rfl | rfl | rfl | rfl | rfl | rfl | rfl | rfl | rfl
        · exact ⟨⟨S [43], [1, 1], 1⟩, by kernel_rfl, rfl⟩
        · exact ⟨⟨S [45], [1, 1], 1⟩, by kernel_rfl, rfl⟩
        · exact ⟨⟨S [42], [1, 1], 1⟩, by kernel_rfl, rfl⟩
        · exact ⟨⟨S [47], [1, 1], 1⟩, by kernel_rfl, rfl⟩
        · exact ⟨⟨S [37], [1, 1], 1⟩, by kernel_rfl, rfl⟩
        · exact ⟨⟨S [61], [-1, -1], 1⟩, by kernel_rfl, rfl⟩
        · exact ⟨⟨S [33, 61], [-1, -1], 1⟩, by kernel_rfl, rfl⟩
        · exact ⟨⟨S [60], [-1, -1], 1⟩, by kernel_rfl, rfl⟩
        · exact ⟨⟨S [60, 61], [-1, -1], 1⟩, by kernel_rfl, rfl⟩
        · exact ⟨⟨S [62], [-1, -1], 1⟩, by kernel_rfl, rfl⟩
        · exact ⟨⟨S [62, 61], [-1, -1], 1⟩, by kernel_rfl, rfl⟩
        · exact ⟨⟨S [97, 110, 100], [0, 0], 1⟩, by kernel_rfl, rfl⟩
        · exact ⟨⟨S [111, 114], [0, 0], 1⟩, by kernel_rfl, rfl⟩
      obtain ⟨r, hr, hl⟩ := hr
      exact formV_at h1 h2 hr hl hz rfl
    split at h
    · rename_i hk
      have hk : k = 5 := hk
      subst hk
      simp only [Bool.and_eq_true, Bool.or_eq_true, decide_eq_true_eq, inL_iff] at h
      obtain ⟨rfl, h⟩ := h
      have hr : ∃ r, ruleV ⟨5, nm, v, S []⟩ = some r ∧ n = r.args.length := by
        rcases h with ⟨rfl, hc⟩ | ⟨rfl, hc⟩ | ⟨rfl, rfl⟩
        · simp only [nC1, List.mem_cons, List.not_mem_nil, or_false] at hc
          rcases hc with rfl | rfl | rfl
          · exact ⟨⟨S [108, 101, 110], [2], 1⟩, by kernel_rfl, rfl⟩
          · exact ⟨⟨S [97, 98, 115], [1], 1⟩, by kernel_rfl, rfl⟩
          · exact ⟨⟨S [105, 115, 110, 117, 108, 108], [0], 1⟩, by kernel_rfl, rfl⟩
        · simp only [nC2, List.mem_cons, List.not_mem_nil, or_false] at hc
          rcases hc with rfl | rfl
          · exact ⟨⟨S [99, 97, 116], [2, 2], 2⟩, by kernel_rfl, rfl⟩
          · exact ⟨⟨S [101, 105, 116, 104, 101, 114], [-1, -1], -1⟩, by kernel_rfl, rfl⟩
        · exact ⟨⟨S [105, 102], [0, -1, -1], -1⟩, by kernel_rfl, rfl⟩
      obtain ⟨r, hr, hl⟩ := hr
      exact formV_at h1 h2 hr hl hz rfl
    · cases h
  · intro h
    have hz : isNull v = true := formV_null h h1 h2
    have hs := shape h h1 h2
    unfold formR
    rw [if_neg h1, if_neg h2, if_neg (by rw [hz]; simp)]
    rcases hs with ⟨hk, rfl, hn, ho⟩ | ⟨hk, rfl, hn, ho⟩ | ⟨hk, ho, hn⟩
    · have hk : k = 3 := hk
      have hn : nm = S [] := hn
      subst hk hn
      rcases ho with ho | ho <;> (have ho' : op = _ := ho; subst ho'; rfl)
    · have hk : k = 4 := hk
      have hn : nm = S [] := hn
      subst hk hn
      rcases ho with ho | ho | ho | ho | ho | ho | ho | ho | ho | ho | ho | ho | ho <;> (have ho' : op = _ := ho; subst ho'; rfl)
    · have hk : k = 5 := hk
      have ho : op = S [] := ho
      subst hk ho
      rcases hn with ⟨rfl, hn⟩ | ⟨rfl, hn⟩ | ⟨rfl, hn⟩
      · rcases hn with hn | hn | hn <;> (have hn' : nm = _ := hn; subst hn'; rfl)
      · rcases hn with hn | hn <;> (have hn' : nm = _ := hn; subst hn'; rfl)
      · have hn' : nm = _ := hn
        subst hn'
        rfl

def nEI : List ByteArray := [S [101, 105, 116, 104, 101, 114], S [105, 102]]
def nCMP : List ByteArray := [S [61], S [33, 61], S [60], S [60, 61], S [62], S [62, 61]]
def nLC : List ByteArray := [S [108, 101, 110], S [99, 97, 116]]
def nAR : List ByteArray := [S [45], S [43], S [42], S [47], S [37]]
/-- the type that all Args need, 0: any -/
def needV (k : Int) (nm op : ByteArray) : Int := if k = 5 ∧ inL nm nLC = true then 2 else if k = 5 ∧ nm = S [97, 98, 115] ∨ k ≠ 5 ∧ inL op nAR = true then 1 else 0
def misfit (need t : Int) : Bool := decide (need ≠ 0) && (decide (t ≠ 0) && decide (t ≠ need))
/-- the type of a right expression whose Args have these types, as the document's answer reckons it -/
def refTail (k : Int) (nm op : ByteArray) (ts : List Int) : Int × Int :=
  if k = 5 ∧ inL nm nEI = true then
    (if ts.getD (ts.length - 2) 0 ≠ 0 ∧ ts.getD (ts.length - 1) 0 ≠ 0 ∧ ts.getD (ts.length - 2) 0 ≠ ts.getD (ts.length - 1) 0 then (0, 12) else if ts.getD (ts.length - 2) 0 = 0 then (ts.getD (ts.length - 1) 0, 0) else (ts.getD (ts.length - 2) 0, 0))
  else if k = 4 ∧ inL op nCMP = true then (if ts.getD 0 0 ≠ 0 ∧ ts.getD 1 0 ≠ 0 ∧ ts.getD 0 0 ≠ ts.getD 1 0 then (0, 12) else (1, 0))
  else if ts.any (misfit (needV k nm op)) = true then (0, 12)
  else if k = 5 ∧ nm = S [99, 97, 116] then (2, 0) else (1, 0)
/-- .. as the program's rules have it -/
def ruleTail (d : ND) (ts : List Int) : Int × Int :=
  match ruleV d with
  | none => (0, 20)
  | some r => match fitL r.args ts 0 with
    | (both, true) => if r.out = -1 then (both, 0) else (r.out, 0)
    | (_, false) => (0, 12)
theorem tail_match (x : Int × Bool) (out : Int) : (match x with | (both, true) => if out = -1 then (both, 0) else (out, 0) | (_, false) => (0, 12) : Int × Int) = (if x.2 = true then (if out = -1 then (x.1, 0) else (out, 0)) else (0, 12)) := by
  obtain ⟨b, _ | _⟩ := x
  · rw [if_neg (by simp)]
  · rw [if_pos rfl]
theorem ruleTail_at {d : ND} {r : RU} (h : ruleV d = some r) (ts : List Int) : ruleTail d ts = (if (fitL r.args ts 0).2 = true then (if r.out = -1 then ((fitL r.args ts 0).1, 0) else (r.out, 0)) else (0, 12)) := by
  rw [← tail_match]
  unfold ruleTail
  rw [h]
theorem fit1 (w a : Int) (hw : w ≠ -1) : (fitL [w] [a] 0).2 = !misfit w a := by
  unfold misfit
  by_cases h0 : a = 0
  · subst h0; simp [fitL]
  by_cases h1 : w = 0
  · subst h1; simp [fitL]
  by_cases h2 : a = w
  · subst h2; simp [fitL, h0, hw]
  · simp [fitL, h0, h1, h2, hw, Ne.symm h2]
theorem fit2 (w a b : Int) (hw : w ≠ -1) : (fitL [w, w] [a, b] 0).2 = !(misfit w a || misfit w b) := by
  unfold misfit
  by_cases h1 : w = 0
  · subst h1; simp [fitL]
  by_cases h0 : a = 0 <;> by_cases k0 : b = 0 <;> by_cases h2 : a = w <;> by_cases k2 : b = w <;> simp_all [fitL, Ne.symm]
theorem fitO (a b : Int) : fitL [-1, -1] [a, b] 0 = if a ≠ 0 ∧ b ≠ 0 ∧ a ≠ b then (0, false) else if a = 0 then (b, true) else (a, true) := by
  by_cases h0 : a = 0
  · subst h0
    by_cases k0 : b = 0
    · subst k0; simp [fitL]
    · simp [fitL, k0]
  · by_cases k0 : b = 0
    · subst k0; simp [fitL, h0]
    · by_cases e : a = b
      · subst e; simp [fitL, h0]
      · simp [fitL, h0, k0, e]
theorem fitI (c a b : Int) : fitL [0, -1, -1] [c, a, b] 0 = fitL [-1, -1] [a, b] 0 := by
  show (if _ then _ else _) = _
  rw [if_pos (.inr rfl)]
theorem list1 {α : Type} {l : List α} (h : l.length = 1) : ∃ a, l = [a] := by
  match l, h with
  | [a], _ => exact ⟨a, rfl⟩
theorem list2 {α : Type} {l : List α} (h : l.length = 2) : ∃ a b, l = [a, b] := by
  match l, h with
  | [a, b], _ => exact ⟨a, b, rfl⟩
theorem list3 {α : Type} {l : List α} (h : l.length = 3) : ∃ a b c, l = [a, b, c] := by
  match l, h with
  | [a, b, c], _ => exact ⟨a, b, c, rfl⟩
theorem refTail_one {k : Int} {nm op : ByteArray} {ts : List Int} {a b : Int} (h : k = 5 ∧ inL nm nEI = true) (ha : ts.getD (ts.length - 2) 0 = a) (hb : ts.getD (ts.length - 1) 0 = b) : refTail k nm op ts = (if a ≠ 0 ∧ b ≠ 0 ∧ a ≠ b then (0, 12) else if a = 0 then (b, 0) else (a, 0)) := by
  unfold refTail
  rw [if_pos h, ha, hb]
theorem refTail_cmp {k : Int} {nm op : ByteArray} {ts : List Int} {a b : Int} (h : k = 4 ∧ inL op nCMP = true) (ha : ts.getD 0 0 = a) (hb : ts.getD 1 0 = b) : refTail k nm op ts = (if a ≠ 0 ∧ b ≠ 0 ∧ a ≠ b then (0, 12) else (1, 0)) := by
  unfold refTail
  rw [if_neg (fun h5 => by rw [h.1] at h5; exact absurd h5.1 (by decide)), if_pos h, ha, hb]
theorem refTail_need {k : Int} {nm op : ByteArray} {ts : List Int} {nd : Int} (h1 : ¬ (k = 5 ∧ inL nm nEI = true)) (h2 : ¬ (k = 4 ∧ inL op nCMP = true)) (h3 : needV k nm op = nd) : refTail k nm op ts = (if ts.any (misfit nd) = true then (0, 12) else if k = 5 ∧ nm = S [99, 97, 116] then (2, 0) else (1, 0)) := by
  unfold refTail
  rw [if_neg h1, if_neg h2, h3]
/-- a rule of numbers or of texts -/
theorem tail_need {d : ND} {nd out : Int} {ts : List Int} {l : List Int} {nm : ByteArray} (hr : ruleV d = some ⟨nm, l, out⟩) (hl : (l = [nd] ∧ ∃ a, ts = [a]) ∨ (l = [nd, nd] ∧ ∃ a b, ts = [a, b])) (hn : nd ≠ -1) (ho : out ≠ -1)
    (h1 : ¬ (d.kind = 5 ∧ inL d.name nEI = true)) (h2 : ¬ (d.kind = 4 ∧ inL d.op nCMP = true)) (h3 : needV d.kind d.name d.op = nd) (h4 : (if d.kind = 5 ∧ d.name = S [99, 97, 116] then ((2, 0) : Int × Int) else (1, 0)) = (out, 0)) : ruleTail d ts = refTail d.kind d.name d.op ts := by
  rw [ruleTail_at hr, refTail_need h1 h2 h3, h4]
  show (if (fitL l ts 0).2 = true then (if out = -1 then ((fitL l ts 0).1, 0) else (out, 0)) else (0, 12)) = _
  rw [if_neg ho]
  rcases hl with ⟨rfl, a, rfl⟩ | ⟨rfl, a, b, rfl⟩
  · rw [fit1 nd a hn]
    simp only [List.any_cons, List.any_nil, Bool.or_false]
    cases misfit nd a <;> rfl
  · rw [fit2 nd a b hn]
    simp only [List.any_cons, List.any_nil, Bool.or_false]
    cases misfit nd a <;> cases misfit nd b <;> rfl
theorem tail_cmp {d : ND} {ts : List Int} {nm : ByteArray} (hr : ruleV d = some ⟨nm, [-1, -1], 1⟩) (hl : ∃ a b, ts = [a, b]) (hk : d.kind = 4) (h2 : inL d.op nCMP = true) : ruleTail d ts = refTail d.kind d.name d.op ts := by
  obtain ⟨a, b, rfl⟩ := hl
  rw [ruleTail_at hr, refTail_cmp (a := a) (b := b) ⟨hk, h2⟩ rfl rfl]
  show (if (fitL [-1, -1] [a, b] 0).2 = true then (if (1 : Int) = -1 then ((fitL [-1, -1] [a, b] 0).1, 0) else (1, 0)) else (0, 12)) = _
  rw [fitO]
  by_cases e : a ≠ 0 ∧ b ≠ 0 ∧ a ≠ b
  · rw [if_pos e, if_pos e]; rfl
  · rw [if_neg e, if_neg e]; split <;> rfl
theorem one_eq (a b : Int) : (if (fitL [-1, -1] [a, b] 0).2 = true then (if (-1 : Int) = -1 then ((fitL [-1, -1] [a, b] 0).1, 0) else (-1, 0)) else (0, 12) : Int × Int) = (if a ≠ 0 ∧ b ≠ 0 ∧ a ≠ b then (0, 12) else if a = 0 then (b, 0) else (a, 0)) := by
  rw [fitO]
  by_cases e : a ≠ 0 ∧ b ≠ 0 ∧ a ≠ b
  · rw [if_pos e, if_pos e]; rfl
  · rw [if_neg e, if_neg e]
    by_cases e0 : a = 0
    · rw [if_pos e0, if_pos e0]; rfl
    · rw [if_neg e0, if_neg e0]; rfl
theorem tail_one {d : ND} {ts : List Int} {nm : ByteArray} {l : List Int} (hr : ruleV d = some ⟨nm, l, -1⟩) (hl : (l = [-1, -1] ∧ ∃ a b, ts = [a, b]) ∨ (l = [0, -1, -1] ∧ ∃ c a b, ts = [c, a, b])) (hk : d.kind = 5) (h2 : inL d.name nEI = true) : ruleTail d ts = refTail d.kind d.name d.op ts := by
  rw [ruleTail_at hr]
  rcases hl with ⟨rfl, a, b, rfl⟩ | ⟨rfl, c, a, b, rfl⟩
  · rw [refTail_one (a := a) (b := b) ⟨hk, h2⟩ rfl rfl]
    exact one_eq a b
  · rw [refTail_one (a := a) (b := b) ⟨hk, h2⟩ rfl rfl]
    have h := one_eq a b
    rw [← fitI c a b] at h
    exact h
theorem tail_eq {d : ND} {ts : List Int} (h : formV d ts.length = true) (h1 : d.kind ≠ 1) (h2 : d.kind ≠ 2) : ruleTail d ts = refTail d.kind d.name d.op ts := by
  have hs := shape h h1 h2
  obtain ⟨k, nm, v, op⟩ := d
  rcases hs with ⟨hk, hl, hn, ho⟩ | ⟨hk, hl, hn, ho⟩ | ⟨hk, ho, hn⟩
  · have hk : k = 3 := hk
    have hn : nm = S [] := hn
    have hl := list1 hl
    subst hk hn
    rcases ho with ho | ho
    · have ho' : op = _ := ho
      subst ho'
      exact tail_need (nm := S [45]) (l := [1]) (nd := 1) (out := 1) (by kernel_rfl) (.inl ⟨rfl, hl⟩) (by decide) (by decide) (fun h => absurd (show (3 : Int) = 5 from h.1) (by decide)) (fun h => absurd (show (3 : Int) = 4 from h.1) (by decide)) (by rfl) (by rfl)
    · have ho' : op = _ := ho
      subst ho'
      exact tail_need (nm := S [110, 111, 116]) (l := [0]) (nd := 0) (out := 1) (by kernel_rfl) (.inl ⟨rfl, hl⟩) (by decide) (by decide) (fun h => absurd (show (3 : Int) = 5 from h.1) (by decide)) (fun h => absurd (show (3 : Int) = 4 from h.1) (by decide)) (by rfl) (by rfl)
  · have hk : k = 4 := hk
    have hn : nm = S [] := hn
    have hl := list2 hl
    subst hk hn
    rcases ho with ho | ho | ho | ho | ho | ho | ho | ho | ho | ho | ho | ho | ho <;> (have ho' : op = _ := ho; subst ho')
    · exact tail_need (nm := S [43]) (l := [1, 1]) (nd := 1) (out := 1) (by kernel_rfl) (.inr ⟨rfl, hl⟩) (by decide) (by decide) (fun h => absurd (show (4 : Int) = 5 from h.1) (by decide)) (fun h => absurd (show inL (S [43]) nCMP = true from h.2) (by decide)) (by rfl) (by rfl)
    · exact tail_need (nm := S [45]) (l := [1, 1]) (nd := 1) (out := 1) (by kernel_rfl) (.inr ⟨rfl, hl⟩) (by decide) (by decide) (fun h => absurd (show (4 : Int) = 5 from h.1) (by decide)) (fun h => absurd (show inL (S [45]) nCMP = true from h.2) (by decide)) (by rfl) (by rfl)
    · exact tail_need (nm := S [42]) (l := [1, 1]) (nd := 1) (out := 1) (by kernel_rfl) (.inr ⟨rfl, hl⟩) (by decide) (by decide) (fun h => absurd (show (4 : Int) = 5 from h.1) (by decide)) (fun h => absurd (show inL (S [42]) nCMP = true from h.2) (by decide)) (by rfl) (by rfl)
    · exact tail_need (nm := S [47]) (l := [1, 1]) (nd := 1) (out := 1) (by kernel_rfl) (.inr ⟨rfl, hl⟩) (by decide) (by decide) (fun h => absurd (show (4 : Int) = 5 from h.1) (by decide)) (fun h => absurd (show inL (S [47]) nCMP = true from h.2) (by decide)) (by rfl) (by rfl)
    · exact tail_need (nm := S [37]) (l := [1, 1]) (nd := 1) (out := 1) (by kernel_rfl) (.inr ⟨rfl, hl⟩) (by decide) (by decide) (fun h => absurd (show (4 : Int) = 5 from h.1) (by decide)) (fun h => absurd (show inL (S [37]) nCMP = true from h.2) (by decide)) (by rfl) (by rfl)
    · exact tail_cmp (nm := S [61]) (by kernel_rfl) hl rfl (show inL (S [61]) nCMP = true by decide)
    · exact tail_cmp (nm := S [33, 61]) (by kernel_rfl) hl rfl (show inL (S [33, 61]) nCMP = true by decide)
    · exact tail_cmp (nm := S [60]) (by kernel_rfl) hl rfl (show inL (S [60]) nCMP = true by decide)
    · exact tail_cmp (nm := S [60, 61]) (by kernel_rfl) hl rfl (show inL (S [60, 61]) nCMP = true by decide)
    · exact tail_cmp (nm := S [62]) (by kernel_rfl) hl rfl (show inL (S [62]) nCMP = true by decide)
    · exact tail_cmp (nm := S [62, 61]) (by kernel_rfl) hl rfl (show inL (S [62, 61]) nCMP = true by decide)
    · exact tail_need (nm := S [97, 110, 100]) (l := [0, 0]) (nd := 0) (out := 1) (by kernel_rfl) (.inr ⟨rfl, hl⟩) (by decide) (by decide) (fun h => absurd (show (4 : Int) = 5 from h.1) (by decide)) (fun h => absurd (show inL (S [97, 110, 100]) nCMP = true from h.2) (by decide)) (by rfl) (by rfl)
    · exact tail_need (nm := S [111, 114]) (l := [0, 0]) (nd := 0) (out := 1) (by kernel_rfl) (.inr ⟨rfl, hl⟩) (by decide) (by decide) (fun h => absurd (show (4 : Int) = 5 from h.1) (by decide)) (fun h => absurd (show inL (S [111, 114]) nCMP = true from h.2) (by decide)) (by rfl) (by rfl)
  · have hk : k = 5 := hk
    have ho : op = S [] := ho
    subst hk ho
    rcases hn with ⟨hl, hn⟩ | ⟨hl, hn⟩ | ⟨hl, hn⟩
    · have hl := list1 hl
      rcases hn with hn | hn | hn <;> (have hn' : nm = _ := hn; subst hn')
      · exact tail_need (nm := S [108, 101, 110]) (l := [2]) (nd := 2) (out := 1) (by kernel_rfl) (.inl ⟨rfl, hl⟩) (by decide) (by decide) (fun h => absurd (show inL (S [108, 101, 110]) nEI = true from h.2) (by decide)) (fun h => absurd (show (5 : Int) = 4 from h.1) (by decide)) (by rfl) (by rfl)
      · exact tail_need (nm := S [97, 98, 115]) (l := [1]) (nd := 1) (out := 1) (by kernel_rfl) (.inl ⟨rfl, hl⟩) (by decide) (by decide) (fun h => absurd (show inL (S [97, 98, 115]) nEI = true from h.2) (by decide)) (fun h => absurd (show (5 : Int) = 4 from h.1) (by decide)) (by rfl) (by rfl)
      · exact tail_need (nm := S [105, 115, 110, 117, 108, 108]) (l := [0]) (nd := 0) (out := 1) (by kernel_rfl) (.inl ⟨rfl, hl⟩) (by decide) (by decide) (fun h => absurd (show inL (S [105, 115, 110, 117, 108, 108]) nEI = true from h.2) (by decide)) (fun h => absurd (show (5 : Int) = 4 from h.1) (by decide)) (by rfl) (by rfl)
    · have hl := list2 hl
      rcases hn with hn | hn <;> (have hn' : nm = _ := hn; subst hn')
      · exact tail_need (nm := S [99, 97, 116]) (l := [2, 2]) (nd := 2) (out := 2) (by kernel_rfl) (.inr ⟨rfl, hl⟩) (by decide) (by decide) (fun h => absurd (show inL (S [99, 97, 116]) nEI = true from h.2) (by decide)) (fun h => absurd (show (5 : Int) = 4 from h.1) (by decide)) (by rfl) (by rfl)
      · exact tail_one (nm := S [101, 105, 116, 104, 101, 114]) (l := [-1, -1]) (by kernel_rfl) (.inl ⟨rfl, hl⟩) rfl (show inL (S [101, 105, 116, 104, 101, 114]) nEI = true by decide)
    · have hl := list3 hl
      have hn' : nm = _ := hn
      subst hn'
      exact tail_one (nm := S [105, 102]) (l := [0, -1, -1]) (by kernel_rfl) (.inr ⟨rfl, hl⟩) rfl (show inL (S [105, 102]) nEI = true by decide)
end Go.Proofs.Ytlkckkagoommaaa

/- A right form's operations, one by one. No walk. -/
namespace Go.Proofs.Ytlkckkagoommaaa
open Go.RowKit

theorem evalX_at (cs : List CD) (row : List VD) (n : Nat) (e : TX (n + 1)) (h1 : e.1.kind ≠ 1) (h2 : e.1.kind ≠ 2) (h0 : 0 < e.2.length) : evalX cs row (n + 1) e =
    if (evalX cs row n e.2[0]).2 ≠ 0 then (zeroV, (evalX cs row n e.2[0]).2)
    else match lazyX (evalX cs row n) e.1 e.2 (evalX cs row n e.2[0]).1 with
      | some z => z
      | none => if h : 1 < e.2.length then (if (evalX cs row n e.2[1]).2 ≠ 0 then (zeroV, (evalX cs row n e.2[1]).2) else bothV e.1 (evalX cs row n e.2[0]).1 (evalX cs row n e.2[1]).1) else aloneV e.1 (evalX cs row n e.2[0]).1 := by
  rw [evalX_succ, if_neg h1, if_neg h2]
  revert h0
  generalize e.2 = args
  intro h0
  cases args with
  | nil => exact absurd h0 (by simp)
  | cons a r =>
    simp only [List.getElem_cons_zero]
    split
    · rfl
    · rcases hl : lazyX (evalX cs row n) e.1 (a :: r) (evalX cs row n a).1 with _ | z
      · cases r with
        | nil => rfl
        | cons b r => rfl
      · rfl
theorem S_ne {a b : List UInt8} (h : a ≠ b) : S a ≠ S b := fun q => h (S_inj q)
/-- which Arg is asked for is there -/
theorem lazy_in {d : ND} {n : Nat} (h : formV d n = true) (h1 : d.kind ≠ 1) (h2 : d.kind ≠ 2) (v : VD) (q : Nat) (hq : lazyV d v = some (.inr q)) : q < n := by
  have w1 : S [45] ≠ wAnd := S_ne (by decide)
  have w2 : S [45] ≠ wOr := S_ne (by decide)
  have w3 : wNot ≠ wAnd := S_ne (by decide)
  have w4 : wNot ≠ wOr := S_ne (by decide)
  have w5 : S [] ≠ wEither := S_ne (by decide)
  have w6 : S [] ≠ wIf := S_ne (by decide)
  have w7 : S [] ≠ wAnd := S_ne (by decide)
  have w8 : S [] ≠ wOr := S_ne (by decide)
  have hq2 : q ≤ 2 := by
    unfold lazyV at hq
    (repeat' split at hq) <;> simp at hq <;> (try omega)
  have hq1 : q = 2 → d.op ≠ wAnd ∧ d.op ≠ wOr ∧ d.name = wIf := by
    intro h2
    unfold lazyV at hq
    split at hq
    · (split at hq <;> simp at hq <;> omega)
    · split at hq
      · (split at hq <;> simp at hq <;> omega)
      · split at hq
        · (split at hq <;> simp at hq <;> omega)
        · split at hq
          · exact ⟨‹_›, ‹_›, ‹_›⟩
          · cases hq
  have hq0 : q ≠ 0 := by
    intro h0
    subst h0
    unfold lazyV at hq
    (repeat' split at hq) <;> simp at hq
  rcases shape h h1 h2 with ⟨_, hn, hnm, ho⟩ | ⟨_, hn, hnm, ho⟩ | ⟨_, ho, hh⟩
  · exfalso
    unfold lazyV at hq
    rcases ho with ho | ho <;> rw [ho, hnm] at hq
    · rw [if_neg w1, if_neg w2, if_neg w5, if_neg w6] at hq; cases hq
    · rw [if_neg w3, if_neg w4, if_neg w5, if_neg w6] at hq; cases hq
  · rcases Nat.lt_or_ge q 2 with h | h
    · omega
    · have := (hq1 (by omega)).2.2
      rw [hnm] at this; exact absurd this w6
  · rcases hh with ⟨hn, hm⟩ | ⟨hn, hm⟩ | ⟨hn, hm⟩
    · exfalso
      unfold lazyV at hq
      rw [ho, if_neg w7, if_neg w8] at hq
      rcases hm with hm | hm | hm <;> rw [hm] at hq <;> simp [wEither, wIf, wLen, wAbs, wIsnull, S_eq] at hq
    · rcases Nat.lt_or_ge q 2 with h | h
      · omega
      · have := (hq1 (by omega)).2.2
        rw [this] at hm
        rcases hm with hm | hm <;> exact absurd hm (S_ne (by decide))
    · omega
/-- what asks for two -/
theorem both_in {d : ND} {n : Nat} (h : formV d n = true) (h1 : d.kind ≠ 1) (h2 : d.kind ≠ 2) (v : VD) (hn : n ≠ 1) (hq : lazyV d v = none) :
    d.name = wCat ∨ (d.name ≠ wCat ∧ 1 ≤ cmpI d.op ∧ cmpI d.op ≤ 6) ∨ (d.name ≠ wCat ∧ cmpI d.op ≤ 0 ∧ ∃ o : UInt8, d.op = S [o] ∧ ((o.toNat : Int) = 43 ∨ (o.toNat : Int) = 45 ∨ (o.toNat : Int) = 42 ∨ (o.toNat : Int) = 47 ∨ (o.toNat : Int) = 37)) := by
  have c0 : S [] ≠ wCat := S_ne (by decide)
  rcases shape h h1 h2 with ⟨_, hn', _⟩ | ⟨_, _, hnm, ho⟩ | ⟨_, ho, hh⟩
  · exact absurd hn' hn
  · right
    rcases ho with ho | ho | ho | ho | ho | ho | ho | ho | ho | ho | ho | ho | ho
    · right; rw [ho, hnm]; exact ⟨c0, by decide, 43, rfl, by decide⟩
    · right; rw [ho, hnm]; exact ⟨c0, by decide, 45, rfl, by decide⟩
    · right; rw [ho, hnm]; exact ⟨c0, by decide, 42, rfl, by decide⟩
    · right; rw [ho, hnm]; exact ⟨c0, by decide, 47, rfl, by decide⟩
    · right; rw [ho, hnm]; exact ⟨c0, by decide, 37, rfl, by decide⟩
    · left; rw [ho, hnm]; exact ⟨c0, by decide, by decide⟩
    · left; rw [ho, hnm]; exact ⟨c0, by decide, by decide⟩
    · left; rw [ho, hnm]; exact ⟨c0, by decide, by decide⟩
    · left; rw [ho, hnm]; exact ⟨c0, by decide, by decide⟩
    · left; rw [ho, hnm]; exact ⟨c0, by decide, by decide⟩
    · left; rw [ho, hnm]; exact ⟨c0, by decide, by decide⟩
    · unfold lazyV at hq; rw [if_pos ho] at hq; split at hq <;> cases hq
    · unfold lazyV at hq; rw [ho] at hq; simp [wOr, wAnd, S_eq] at hq; split at hq <;> cases hq
  · rcases hh with ⟨hn', _⟩ | ⟨_, hm⟩ | ⟨_, hm⟩
    · exact absurd hn' hn
    · rcases hm with hm | hm
      · exact .inl hm
      · unfold lazyV at hq
        rw [ho, hm] at hq; simp [wAnd, wOr, S_eq] at hq; split at hq <;> cases hq
    · unfold lazyV at hq
      rw [ho, hm] at hq; simp [wAnd, wOr, wEither, wIf, S_eq] at hq
theorem form_args {d : ND} {n : Nat} (h : formV d n = true) (h1 : d.kind ≠ 1) (h2 : d.kind ≠ 2) : 0 < n := by
  rcases shape h h1 h2 with ⟨_, hn, _⟩ | ⟨_, hn, _⟩ | ⟨_, _, ⟨hn, _⟩ | ⟨hn, _⟩ | ⟨hn, _⟩⟩ <;> omega
end Go.Proofs.Ytlkckkagoommaaa
