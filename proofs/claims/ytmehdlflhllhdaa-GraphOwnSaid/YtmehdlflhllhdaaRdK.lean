/- Rows of structs: what a slice of structs leads to; such a slice of the calls' own. No condition. -/
import Derived.Test.YtmehdlflhllhdaaTxt
namespace Go.Proofs.Ytmehdlflhllhdaa
open Go.RowKit

theorem flat_length {α β : Type} (enc : α → List β) (k : Nat) (hk : ∀ x, (enc x).length = k) (xs : List α) : (xs.flatMap enc).length = xs.length * k := by
  induction xs with
  | nil => simp
  | cons x xs ih => rw [List.flatMap_cons, List.length_append, hk, ih, List.length_cons, Nat.add_mul]; omega
theorem flat_get {α β : Type} (enc : α → List β) (k : Nat) (hk : ∀ x, (enc x).length = k) (xs : List α) (i j : Nat) (hi : i < xs.length) (hj : j < k) : (xs.flatMap enc)[i * k + j]? = (enc xs[i])[j]? := by
  induction xs generalizing i with
  | nil => simp at hi
  | cons x xs ih =>
    rw [List.flatMap_cons]
    rcases i with _ | i
    · rw [Nat.zero_mul, Nat.zero_add, List.getElem?_append_left (by rw [hk]; exact hj)]; rfl
    · have h1 : (i + 1) * k + j = (enc x).length + (i * k + j) := by rw [hk, Nat.add_mul]; omega
      rw [h1, List.getElem?_append_right (Nat.le_add_right _ _), Nat.add_sub_cancel_left]
      exact ih i (by simpa using hi)

/-- a slice's address leads to these structs -/
def RdK {α : Type} (enc : α → List Value) (w : World) (A : Option Addr) (xs : List α) : Prop := Rd w A (xs.flatMap enc)
theorem RdK.touch0 {α : Type} {enc : α → List Value} {w w' : World} {A : Option Addr} {xs : List α} (h : RdK enc w A xs) (ht : Touch [] w w') : RdK enc w' A xs := Rd.touch0 h ht
theorem RdK.touch {α : Type} {enc : α → List Value} {w w' : World} {A : Option Addr} {xs : List α} {fp : List Nat} (h : RdK enc w A xs) (ht : Touch fp w w') (hn : ∀ b ∈ fpo A, b ∉ fp) : RdK enc w' A xs := Rd.touch h ht hn
theorem RdK.nil {α : Type} (enc : α → List Value) (w : World) (A : Option Addr) : RdK enc w A [] := Rd.nil w A
theorem RdK.at_ {α : Type} {enc : α → List Value} {w : World} {A : Option Addr} {xs : List α} (h : RdK enc w A xs) (k : Nat) (hk : ∀ x, (enc x).length = k) (h0 : 0 < k) (i : Nat) (hi : i < xs.length) :
    ∃ ad b off, A = some ad ∧ ad.add (i * k) = ⟨b, off, none⟩ ∧ b = ad.block ∧ ∀ j u, (enc xs[i])[j]? = some u → w.cell? ⟨b, off + j, none⟩ = some u := by
  have hpos : 0 < (xs.flatMap enc).length := by rw [flat_length enc k hk]; exact Nat.mul_pos (by omega) h0
  obtain ⟨ad, rfl, hc⟩ := h hpos
  have hall : ∀ j u, (enc xs[i])[j]? = some u → w.cell? ((ad.add (i * k)).add j) = some u := fun j u hu => by
    have hj : j < k := by have := (List.getElem?_eq_some_iff.1 hu).1; rwa [hk] at this
    rw [add_of_add]
    exact hc _ u (by rw [flat_get enc k hk xs i j hi hj]; exact hu)
  have hfirst : (enc xs[i])[0]? = some ((enc xs[i])[0]'(by rw [hk]; exact h0)) := List.getElem?_eq_getElem _
  have h1 := hall 0 _ hfirst
  have hb := block_of_add ad (i * k)
  rcases hp : ad.add (i * k) with ⟨b, off, spot⟩
  rw [hp] at h1 hall hb
  have e0 : (⟨b, off, spot⟩ : Addr).add 0 = ⟨b, off, spot⟩ := by simp [Addr.add]
  rw [e0] at h1
  obtain rfl : spot = none := by simpa using World.cell?_spot h1
  refine ⟨ad, b, off, rfl, hp, hb, fun j u hu => ?_⟩
  have := hall j u hu
  have e1 : (⟨b, off, none⟩ : Addr).add j = ⟨b, off + j, none⟩ := by unfold Addr.add; split <;> simp_all
  rwa [e1] at this

/-- a slice of structs that the calls own -/
def OwnK {α : Type} (t k : Nat) (enc : α → List Value) (w : World) (A : Option Addr) (c : Nat) (xs : List α) : Prop := w.ownsRow 0 t k (.slice A xs.length c) xs.length (xs.flatMap enc)
theorem OwnK.nil {α : Type} (t k : Nat) (enc : α → List Value) (w : World) : OwnK t k enc w none 0 [] := World.ownsRow_nil _ _ _ _
theorem OwnK.head {α : Type} {t k : Nat} {enc : α → List Value} {w : World} {A : Option Addr} {c : Nat} {xs : List α} (h : OwnK t k enc w A c xs) : A = none ∧ xs = [] ∧ c = 0 ∨ ∃ g, A = some ⟨g, 0, none⟩ := by
  rcases h.2 with ⟨hv, h0⟩ | ⟨g, cap, cur, hv, _⟩
  · injection hv with hA _ hc; exact .inl ⟨hA, List.eq_nil_of_length_eq_zero h0, hc⟩
  · injection hv with hA _ _; exact .inr ⟨g, hA⟩
theorem OwnK.rd {α : Type} {t k : Nat} {enc : α → List Value} {w : World} {A : Option Addr} {c : Nat} {xs : List α} (h : OwnK t k enc w A c xs) : RdK enc w A xs := by
  intro h0
  rcases h.2 with hv | ⟨g, cap, cur, hv, _⟩
  · obtain rfl := List.eq_nil_of_length_eq_zero hv.2
    simp at h0
  · have hA : A = some ⟨g, 0, none⟩ := by injection hv
    subst hA
    exact ⟨_, rfl, World.ownsRow.cells h (g := g) rfl⟩
theorem OwnK.le {α : Type} {t k : Nat} {enc : α → List Value} {w : World} {A : Option Addr} {c : Nat} {xs : List α} (h : OwnK t k enc w A c xs) : xs.length ≤ c := by
  obtain ⟨_, ⟨hv, hn⟩ | ⟨g, cap, cur, hv, _, _, hnc, _⟩⟩ := h
  · omega
  · injection hv with _ _ h3; omega
theorem OwnK.touch {α : Type} {t k : Nat} {enc : α → List Value} {w w' : World} {A : Option Addr} {c : Nat} {xs : List α} {fp : List Nat} (h : OwnK t k enc w A c xs) (ht : Touch fp w w') (hn : ∀ b ∈ fpo A, b ∉ fp) : OwnK t k enc w' A c xs := by
  refine ⟨h.1, ?_⟩
  rcases h.2 with hv | ⟨g, cap, cur, hv, hb, hg, rest⟩
  · exact .inl hv
  · have hA : A = some ⟨g, 0, none⟩ := by injection hv
    subst hA
    exact .inr ⟨g, cap, cur, hv, hb, ht.blk hg (hn g (by simp [fpo])), rest⟩
theorem OwnK.touch0 {α : Type} {t k : Nat} {enc : α → List Value} {w w' : World} {A : Option Addr} {c : Nat} {xs : List α} (h : OwnK t k enc w A c xs) (ht : Touch [] w w') : OwnK t k enc w' A c xs := h.touch ht (by simp)
theorem OwnK.lt {α : Type} {t k : Nat} {enc : α → List Value} {w : World} {A : Option Addr} {c : Nat} {xs : List α} (h : OwnK t k enc w A c xs) : ∀ b ∈ fpo A, b < w.heap.size := by
  intro b hb
  rcases h.2 with ⟨hv, _⟩ | ⟨g, cap, cur, hv, _, hg, _⟩
  · injection hv with hA _ _; subst hA; cases hb
  · have hA : A = some ⟨g, 0, none⟩ := by injection hv
    subst hA
    have : b = g := by simpa [fpo] using hb
    subst this
    exact (Array.getElem?_eq_some_iff.1 hg).1
theorem OwnK.empty_new {α : Type} (t k : Nat) (enc : α → List Value) (w : World) : OwnK t k enc (w.alloc (.cells #[] t)) (some ⟨w.heap.size, 0, none⟩) 0 [] :=
  ⟨by simp, .inr ⟨w.heap.size, 0, #[], rfl, Nat.zero_le _, heap_alloc_new w _, Nat.le_refl _, Nat.zero_le _, by simp, by simp⟩⟩

/-- append onto structs that the calls own -/
theorem wpList_appK {α : Type} {enc : α → List Value} {w : World} {ops : Array Oper} {rest : List Oper} {o : Oper} {a : Act} {Q : Exit → Act → World → Prop} (hgd : o.guard = none) (s x : Operand) (t : TypeId)
    (ho : o.op = .call { callee := .builtin .append, args := #[s, x], argTypes := #[t, t] })
    (e : TypeId) (z : Value) (k bytes : Nat) (hinfo : (Try.prog.info? e).map (fun i => (i.zero, i.size, i.bytes)) = some (some z, k, bytes)) (ht : Try.prog.underlying t = some (.slice e))
    (hzs : z.cells.size = k) (hsz : 0 < k) (hk : ∀ x, (enc x).length = k) (hone : ∀ x, ∀ u ∈ enc x, u.oneCell' = true)
    (A0 : Option Addr) (n c0 : Nat) (xs : List α) (hn : xs.length = n) (hs : a.eval s = .slice A0 n c0) (hown : OwnK e k enc w A0 c0 xs)
    (A : Option Addr) (m c : Nat) (news : List α) (hm : news.length = m) (hx : a.eval x = .slice A m c) (hr : RdK enc w A news) (h63 : n + m ≤ 1000000000) (hby : bytes ≤ 1000)
    (h : ∀ A' c' w', OwnK e k enc w' A' c' (xs ++ news) → Touch (fpo A0) w w' → (∀ b ∈ fpo A', b ∈ fpo A0 ∨ b = w.heap.size) → wpList Try.prog ops Q rest (a.put o.dst (.slice A' (n + m) c')) w') :
    wpList Try.prog ops Q (o :: rest) a w := by
  obtain ⟨i0, hi0, hz0, hz1, hz2⟩ := info_parts hinfo
  subst hn hm
  have hb : (xs.length + news.length) * bytes ≤ 1000000000 * 1000 := Nat.mul_le_mul h63 hby
  refine wpList_app w hgd s x t ho e i0 z k bytes ht hi0 hz0 hz1 hz2 hzs hsz A0 xs.length c0 _ hs hown A news.length c (news.flatMap enc) hx (flat_length enc k hk news) hr
    (fun u hu => by obtain ⟨y, _, hy⟩ := List.mem_flatMap.1 hu; exact hone y u hy) (by simp only [maxLen]; omega) (by omega) ?_
  intro A' c' w' h2 h3 h4
  exact h A' c' w' (by unfold OwnK; rw [List.flatMap_append, List.length_append]; exact h2) h3 h4

/-- the same as one step of a region that draws its order -/
theorem step_appK {α : Type} {enc : α → List Value} {w : World} {ops : Array Oper} {o : Oper} {a : Act} {K : Act → World → Prop} {Q : Exit → Act → World → Prop} {E : Prop} (hgd : o.guard = none) (s x : Operand) (t : TypeId)
    (ho : o.op = .call { callee := .builtin .append, args := #[s, x], argTypes := #[t, t] })
    (e : TypeId) (z : Value) (k bytes : Nat) (hinfo : (Try.prog.info? e).map (fun i => (i.zero, i.size, i.bytes)) = some (some z, k, bytes)) (ht : Try.prog.underlying t = some (.slice e))
    (hzs : z.cells.size = k) (hsz : 0 < k) (hk : ∀ x, (enc x).length = k) (hone : ∀ x, ∀ u ∈ enc x, u.oneCell' = true)
    (A0 : Option Addr) (n c0 : Nat) (xs : List α) (hn : xs.length = n) (hs : a.eval s = .slice A0 n c0) (hown : OwnK e k enc w A0 c0 xs)
    (A : Option Addr) (m c : Nat) (news : List α) (hm : news.length = m) (hx : a.eval x = .slice A m c) (hr : RdK enc w A news) (h63 : n + m ≤ 1000000000) (hby : bytes ≤ 1000)
    (h : ∀ A' c' w', OwnK e k enc w' A' c' (xs ++ news) → Touch (fpo A0) w w' → (∀ b ∈ fpo A', b ∈ fpo A0 ∨ b = w.heap.size) → K (a.put o.dst (.slice A' (n + m) c')) w') :
    if Region.wanted o (yielded ops a.tmps) = true then Oper.wp Try.prog o a w K Q else E := by
  obtain ⟨i0, hi0, hz0, hz1, hz2⟩ := info_parts hinfo
  subst hn hm
  have hb : (xs.length + news.length) * bytes ≤ 1000000000 * 1000 := Nat.mul_le_mul h63 hby
  refine step_app w hgd s x t ho e i0 z k bytes ht hi0 hz0 hz1 hz2 hzs hsz A0 xs.length c0 _ hs hown A news.length c (news.flatMap enc) hx (flat_length enc k hk news) hr
    (fun u hu => by obtain ⟨y, _, hy⟩ := List.mem_flatMap.1 hu; exact hone y u hy) (by simp only [maxLen]; omega) (by omega) ?_
  intro A' c' w' h2 h3 h4
  exact h A' c' w' (by unfold OwnK; rw [List.flatMap_append, List.length_append]; exact h2) h3 h4

/-- one struct in a block of its own -/
theorem RdK.one {α : Type} {enc : α → List Value} (w : World) (t : TypeId) (x : α) (cs : Array Value) (h : cs.toList = enc x) : RdK enc (w.alloc (.cells cs t)) (some ⟨w.heap.size, 0, none⟩) [x] := fun _ =>
  ⟨_, rfl, fun j u hu => by
    have hadd : (⟨w.heap.size, 0, none⟩ : Addr).add j = ⟨w.heap.size, j, none⟩ := by unfold Addr.add; split <;> simp_all
    rw [hadd, cell_of_row _ w.heap.size j cs t (0, 0) (heap_alloc_new w _)]
    simpa [← h] using hu⟩
/-- a row in a block just made -/
theorem RdK.row {α : Type} {enc : α → List Value} (w : World) (t : TypeId) (l : List α) (cs : Array Value) (h : cs.toList = l.flatMap enc) : RdK enc (w.alloc (.cells cs t)) (some ⟨w.heap.size, 0, none⟩) l := fun _ =>
  ⟨_, rfl, fun j u hu => by
    have hadd : (⟨w.heap.size, 0, none⟩ : Addr).add j = ⟨w.heap.size, j, none⟩ := by unfold Addr.add; split <;> simp_all
    rw [hadd, cell_of_row _ w.heap.size j cs t (0, 0) (heap_alloc_new w _)]
    rw [← h] at hu
    simpa using hu⟩
end Go.Proofs.Ytmehdlflhllhdaa
