/- A graph with all edges turned round: plainly; the law's own rows in memory. -/
import Derived.Test.YtmehdlflhllhdaaGrF
namespace Go.Proofs.Ytmehdlflhllhdaa
open Go.RowKit

/-- s is t turned round -/
theorem turn_eq {n : Nat} {ls tu : List (List Int)} (hl : ls.length ≤ n) (ha : ∀ l ∈ ls, allN n l = true) (hl2 : tu.length ≤ n) (ha2 : ∀ l ∈ tu, allN n l = true)
    (h : ∀ a b : Nat, (a : Int) ∈ tu.getD b [] ↔ (b : Int) ∈ ls.getD a []) : (fun a b => edge (nsL n tu) b a) = edge (nsL n ls) := by
  funext a b
  unfold edge
  rw [decide_eq_decide, nsOf_nsL n tu hl2, nsOf_nsL n ls hl, mem_rowU (allN_getD ha2 b), mem_rowU (allN_getD ha a)]
  exact h a b
theorem turn_up {n : Nat} {ls tu : List (List Int)} (h : (fun a b => edge (nsL n tu) b a) = edge (nsL n ls)) (l : List Int) : dnN (nsL n tu) l = upN (nsL n ls) l ∧ upN (nsL n tu) l = dnN (nsL n ls) l := by
  have h2 : edge (nsL n tu) = fun a b => edge (nsL n ls) b a := by
    funext a b
    exact congrFun (congrFun h b) a
  unfold dnN upN
  rw [nsL_length, nsL_length, h, h2]
  exact ⟨rfl, rfl⟩
theorem turn_ring {n : Nat} {ls tu : List (List Int)} (h : (fun a b => edge (nsL n tu) b a) = edge (nsL n ls)) (hr : ¬ Ring (nsL n ls)) : ¬ Ring (nsL n tu) := fun ⟨a, ha, w⟩ => hr ⟨a, by rw [nsL_length] at ha ⊢; exact ha, by
  rw [← h]
  exact Way.turn (s := fun a b => edge (nsL n tu) b a) (fun _ _ => rfl) w⟩

/-- a way of so many edges -/
inductive WayN (t : Nat → Nat → Bool) : Nat → Nat → Nat → Prop
  | nil (a : Nat) : WayN t 0 a a
  | cons {m a b c : Nat} (h : t a b = true) (w : WayN t m b c) : WayN t (m + 1) a c
theorem WayN.up {t : Nat → Nat → Bool} {D : Nat → Nat} (h : ∀ a b, t a b = true → D a < D b) {m a b : Nat} (w : WayN t m a b) : D a + m ≤ D b := by
  induction w with
  | nil => omega
  | cons e _ ih => have := h _ _ e; omega
theorem deep_way {ns : List (List Nat)} {D : Nat → Nat} (h : Deep ns D) (hns : ∀ k, ∀ x ∈ nsOf ns k, x < ns.length) : ∀ (d k : Nat), k < ns.length → D k = d → ∃ x, x < ns.length ∧ WayN (edge ns) d k x
  | 0, k, hk, _ => ⟨k, hk, .nil k⟩
  | d + 1, k, hk, e => by
    rcases h.most k with h0 | ⟨x, hx, h1⟩
    · omega
    · obtain ⟨y, hy, w⟩ := deep_way h hns d x (hns k x hx) (by omega)
      exact ⟨y, hy, .cons (by unfold edge; simpa using hx) w⟩
/-- no depth is greater than one of the turned graph -/
theorem turn_deep {n : Nat} {ls tu : List (List Int)} {D E : Nat → Nat} (h : (fun a b => edge (nsL n tu) b a) = edge (nsL n ls)) (hns : ∀ k, ∀ x ∈ nsOf (nsL n ls) k, x < (nsL n ls).length) (hD : Deep (nsL n ls) D) (hE : Deep (nsL n tu) E) (k : Nat) (hk : k < n) : ∃ x, x < n ∧ D k ≤ E x := by
  obtain ⟨x, hx, w⟩ := deep_way hD hns _ k (by rw [nsL_length]; exact hk) rfl
  rw [nsL_length] at hx
  have := w.up (D := E) (fun a b e => by
    have e2 : edge (nsL n tu) b a = true := by have := congrFun (congrFun h a) b; (try simp only at this); rw [this]; exact e
    exact hE.up b a (of_decide_eq_true e2))
  exact ⟨x, hx, by omega⟩
theorem mostV_ge : ∀ (ds : List Nat) (k : Nat), k < ds.length → ((ds.getD k 0 : Nat) : Int) ≤ mostV ds := by
  intro ds
  have key : ∀ m, m ≤ ds.length → ∀ k, k < m → ((ds.getD k 0 : Nat) : Int) ≤ mostV (ds.take m) := by
    intro m
    induction m with
    | zero => intro _ k hk; omega
    | succ m ih =>
      intro hm k hk
      rw [mostV_take ds m (by omega)]
      rcases Nat.lt_or_ge k m with q | q
      · have := ih (by omega) k q; omega
      · obtain rfl : k = m := by omega
        simp [show k < ds.length by omega]; omega
  intro k hk
  have := key ds.length (Nat.le_refl _) k hk
  rwa [List.take_length] at this
theorem mostV_is : ∀ (ds : List Nat), (ds = [] ∧ mostV ds = -1) ∨ ∃ k, k < ds.length ∧ mostV ds = ((ds.getD k 0 : Nat) : Int) := by
  intro ds
  have key : ∀ m, m ≤ ds.length → (m = 0 ∧ mostV (ds.take m) = -1) ∨ ∃ k, k < m ∧ mostV (ds.take m) = ((ds.getD k 0 : Nat) : Int) := by
    intro m
    induction m with
    | zero => intro _; left; exact ⟨rfl, rfl⟩
    | succ m ih =>
      intro hm
      right
      rw [mostV_take ds m (by omega)]
      have hd : ((ds.getD m 0 : Nat) : Int) = (ds[m]'(by omega) : Nat) := by simp [show m < ds.length by omega]
      rcases ih (by omega) with ⟨_, e⟩ | ⟨k, hk, e⟩
      · exact ⟨m, by omega, by rw [e, hd]; omega⟩
      · by_cases q : mostV (ds.take m) ≤ (ds[m]'(by omega) : Nat)
        · exact ⟨m, by omega, by rw [hd]; omega⟩
        · exact ⟨k, by omega, by rw [← e]; omega⟩
  have := key ds.length (Nat.le_refl _)
  rw [List.take_length] at this
  rcases this with ⟨e, h⟩ | h
  · exact .inl ⟨List.eq_nil_of_length_eq_zero e, h⟩
  · exact .inr h
theorem mostV_eq {ds es : List Nat} {n : Nat} (h1 : ds.length = n) (h2 : es.length = n) (h : ∀ k, k < n → ∃ x, x < n ∧ ds.getD k 0 ≤ es.getD x 0) (g : ∀ k, k < n → ∃ x, x < n ∧ es.getD k 0 ≤ ds.getD x 0) : mostV ds = mostV es := by
  have half : ∀ {ds es : List Nat}, ds.length = n → es.length = n → (∀ k, k < n → ∃ x, x < n ∧ ds.getD k 0 ≤ es.getD x 0) → mostV ds ≤ mostV es := by
    intro ds es h1 h2 h
    rcases mostV_is ds with ⟨e, q⟩ | ⟨k, hk, q⟩
    · subst e
      have : es = [] := List.eq_nil_of_length_eq_zero (by simp at h1; omega)
      rw [this]; exact Int.le_refl _
    · obtain ⟨x, hx, hle⟩ := h k (by omega)
      have := mostV_ge es x (by omega)
      rw [q]; omega
  exact Int.le_antisymm (half h1 h2 h) (half h2 h1 g)

/-- rows of the law's own -/
structure TuS (w0 : World) (Y n : Nat) (f : Nat → List Int) (sl : List SL) (wr : World) : Prop where
  own : OwnK 31 1 sE wr (some ⟨Y, 0, none⟩) n sl
  len : sl.length = n
  row : ∀ a (h : a < sl.length), sl[a].n = (f a).length ∧ OwnK 3 1 iE wr sl[a].A sl[a].c (f a)
  ne : ∀ s ∈ sl, ∀ b ∈ fpo s.A, b ≠ Y ∧ w0.heap.size ≤ b
  dm : ∀ a b (ha : a < sl.length) (hb : b < sl.length), a ≠ b → ∀ x ∈ fpo sl[a].A, x ∉ fpo sl[b].A
  t : Touch [] w0 wr
  ge : w0.heap.size ≤ Y
theorem TuS.touch0 {w0 : World} {Y n : Nat} {f : Nat → List Int} {sl : List SL} {wr w2 : World} (h : TuS w0 Y n f sl wr) (ht : Touch [] wr w2) : TuS w0 Y n f sl w2 :=
  ⟨h.own.touch0 ht, h.len, fun a ha => ⟨(h.row a ha).1, (h.row a ha).2.touch0 ht⟩, h.ne, h.dm, h.t.trans0 ht, h.ge⟩
theorem TuS.inR {w0 : World} {Y n : Nat} {f : Nat → List Int} {sl : List SL} {wr : World} (h : TuS w0 Y n f sl wr) : InR wr (some ⟨Y, 0, none⟩) ((List.range n).map f) := by
  refine ⟨sl, ⟨by simp [h.len], fun a h1 h2 => ?_⟩, rd_of_own h.own⟩
  have hr := h.row a h1
  have e : ((List.range n).map f)[a] = f a := by simp
  rw [e]
  exact ⟨hr.1, by rw [hr.1]; exact hr.2.le, rdI_of_ownI hr.2⟩
/-- one more at the end of a row -/
theorem TuS.app {w0 : World} {Y n k : Nat} {x : Int} {f : Nat → List Int} {sl : List SL} {wr w2 w3 : World} (h : TuS w0 Y n f sl wr) (hk : k < sl.length) (t2 : Touch [] wr w2) {A3 : Option Addr} {c3 q : Nat} (hq : q = (f k).length)
    (hown : OwnK 3 1 iE w3 A3 c3 (f k ++ [x])) (t3 : Touch (fpo sl[k].A) w2 w3) (hf : ∀ b ∈ fpo A3, b ∈ fpo sl[k].A ∨ wr.heap.size ≤ b) :
    TuS w0 Y n (fun a => if a = k then f a ++ [x] else f a) (sl.set k ⟨A3, q + 1, c3⟩) (w3.setCell ⟨Y, k, none⟩ (.slice A3 (q + 1) c3)) := by
  have T := (Touch.refl [Y] w3).setCell (p := ⟨Y, k, none⟩) (.inl (by simp)) (.slice A3 (q + 1) c3)
  have hY := h.own.lt Y (by simp [fpo])
  have hne := fun x hx => h.ne _ (List.getElem_mem hk) x hx
  have h2 := h.touch0 t2
  have hrl : ∀ a (ha : a < sl.length), ∀ x ∈ fpo sl[a].A, x < wr.heap.size := fun a ha x hx => (h.row a ha).2.lt x hx
  have hA3 : ∀ b ∈ fpo A3, b ≠ Y ∧ w0.heap.size ≤ b := fun b hb => by
    rcases hf b hb with q | q
    · exact hne b q
    · exact ⟨by omega, Nat.le_trans h.t.size q⟩
  have hother : ∀ a (ha : a < sl.length), a ≠ k → ∀ x ∈ fpo sl[a].A, x ∉ fpo A3 := fun a ha hak x hx hm => by
    rcases hf x hm with e | e
    · exact h.dm a k ha hk hak x hx e
    · have := hrl a ha x hx; omega
  have ho := (h2.own.touch t3 (fun b hb => by simp [fpo] at hb; subst hb; exact fun hm => (hne _ hm).1 rfl)).set1 k hk ⟨A3, q + 1, c3⟩
  refine ⟨ho, by simp [h.len], fun a ha => ?_, fun s hs b hb => ?_, fun a b ha hb hab y hy => ?_, ((h.t.trans0 t2).trans t3 (fun b hb => .inr (hne b hb).2)).trans T (fun b hb => by simp at hb; subst hb; exact .inr h.ge), h.ge⟩
  · simp only [List.length_set] at ha
    rw [List.getElem_set]
    split
    · rename_i e
      subst e
      rw [if_pos rfl]
      exact ⟨by rw [List.length_append, ← hq]; rfl, hown.touch T (fun b hb => by simp; exact (hA3 b hb).1)⟩
    · rename_i e
      rw [if_neg (fun q => e q.symm)]
      have hr := h2.row a ha
      exact ⟨hr.1, (hr.2.touch t3 (fun b hb => h.dm a k ha hk (fun q => e q.symm) b hb)).touch T (fun b hb => by simp; exact (h.ne _ (List.getElem_mem ha) b hb).1)⟩
  · rcases List.mem_or_eq_of_mem_set hs with e | rfl
    · exact h.ne s e b hb
    · exact hA3 b hb
  · simp only [List.length_set] at ha hb
    simp only [List.getElem_set] at hy ⊢
    by_cases e1 : k = a
    · rw [if_pos e1] at hy
      rw [if_neg (by omega)]
      exact fun hm => hother b hb (by omega) y hm hy
    · rw [if_neg e1] at hy
      by_cases e2 : k = b
      · rw [if_pos e2]
        exact hother a ha (by omega) y hy
      · rw [if_neg e2]
        exact h.dm a b ha hb hab y hy
end Go.Proofs.Ytmehdlflhllhdaa
