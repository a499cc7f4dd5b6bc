/- bywashref16.Below: the table of who lies below whom. For every list of needs. -/
import Derived.Test.YtmehdlflhllhdaaGrS
namespace Go.Proofs.Ytmehdlflhllhdaa
open Go.RowKit

/-- a row of n truths -/
def rowB (n : Nat) (f : Nat → Bool) : Array Value := ((List.range n).map fun b => Value.bool (f b)).toArray
theorem rowB_get (n : Nat) (f : Nat → Bool) (k : Nat) (hk : k < n) : (rowB n f)[k]? = some (.bool (f k)) := by
  unfold rowB; simp [hk]
theorem rowB_set (n : Nat) (f : Nat → Bool) (k : Nat) (v : Bool) : (rowB n f).setIfInBounds k (.bool v) = rowB n (fun b => if b = k then v else f b) := by
  apply Array.ext
  · simp [rowB]
  · intro i h1 h2
    by_cases h : i = k
    · subst h
      simp [rowB] at h1 ⊢
    · have h' : ¬ k = i := fun e => h e.symm
      simp [rowB, h, h']
theorem rowB_congr {n : Nat} {f g : Nat → Bool} (h : ∀ b, b < n → f b = g b) : rowB n f = rowB n g := by
  unfold rowB
  congr 1
  apply List.map_congr_left
  intro b hb
  rw [h b (List.mem_range.1 hb)]
theorem rowB_made (n : Nat) : madeCells #[Value.bool false] n = rowB n (fun _ => false) := by
  rw [madeCells_one]
  unfold rowB
  congr 1
  apply List.ext_getElem
  · simp
  · intro i h1 h2; simp

/-- the table in memory -/
structure TabAt (w : World) (A : Option Addr) (c : Nat) (bs : List Nat) (n : Nat) (T : Nat → Nat → Bool) : Prop where
  own : OwnK 43 1 sE w A c (bs.map fun b => (⟨some ⟨b, 0, none⟩, n, n⟩ : SL))
  row : ∀ a (h : a < bs.length), w.heap[bs[a]]? = some (.cells (rowB n (T a)) 4 (0, 0))
  nd : bs.Nodup
  nA : ∀ b ∈ bs, b ∉ fpo A
theorem TabAt.nil (w : World) (n : Nat) (T : Nat → Nat → Bool) : TabAt w none 0 [] n T := ⟨OwnK.nil _ _ _ _, fun a h => absurd h (by simp), .nil, by simp⟩
theorem TabAt.touch {w w' : World} {A : Option Addr} {c : Nat} {bs : List Nat} {n : Nat} {T : Nat → Nat → Bool} {fp : List Nat} (h : TabAt w A c bs n T) (ht : Touch fp w w') (h1 : ∀ b ∈ fpo A, b ∉ fp) (h2 : ∀ b ∈ bs, b ∉ fp) : TabAt w' A c bs n T :=
  ⟨h.own.touch ht h1, fun a ha => ht.blk (h.row a ha) (h2 _ (List.getElem_mem ha)), h.nd, h.nA⟩
theorem TabAt.touch0 {w w' : World} {A : Option Addr} {c : Nat} {bs : List Nat} {n : Nat} {T : Nat → Nat → Bool} (h : TabAt w A c bs n T) (ht : Touch [] w w') : TabAt w' A c bs n T := h.touch ht (by simp) (by simp)
theorem TabAt.congr {w : World} {A : Option Addr} {c : Nat} {bs : List Nat} {n : Nat} {T S : Nat → Nat → Bool} (h : TabAt w A c bs n T) (hl : bs.length ≤ n) (e : ∀ a b, a < n → b < n → T a b = S a b) : TabAt w A c bs n S :=
  ⟨h.own, fun a ha => by rw [h.row a ha, rowB_congr (fun b hb => e a b (by omega) hb)], h.nd, h.nA⟩
theorem TabAt.lt {w : World} {A : Option Addr} {c : Nat} {bs : List Nat} {n : Nat} {T : Nat → Nat → Bool} (h : TabAt w A c bs n T) : (∀ b ∈ fpo A, b < w.heap.size) ∧ ∀ b ∈ bs, b < w.heap.size :=
  ⟨h.own.lt, fun b hb => by
    obtain ⟨i, hi, rfl⟩ := List.getElem_of_mem hb
    exact lt_blk (h.row i hi)⟩
/-- one cell: where it is and what it holds -/
theorem TabAt.at_ {w : World} {A : Option Addr} {c : Nat} {bs : List Nat} {n : Nat} {T : Nat → Nat → Bool} (h : TabAt w A c bs n T) (a : Nat) (ha : a < bs.length) :
    ∃ G, A = some ⟨G, 0, none⟩ ∧ w.cell? ⟨G, a, none⟩ = some (.slice (some ⟨bs[a], 0, none⟩) n n) ∧ ∀ b, b < n → w.cell? ⟨bs[a], b, none⟩ = some (.bool (T a b)) := by
  rcases h.own.head with ⟨_, h0, _⟩ | ⟨G, rfl⟩
  · simp at h0; subst h0; simp at ha
  · refine ⟨G, rfl, ?_, fun b hb => cell_blk (h.row a ha) (rowB_get _ _ _ hb)⟩
    have := h.own.cell1 a (by simpa using ha)
    simpa [SL.val] using this
theorem TabAt.set {w : World} {A : Option Addr} {c : Nat} {bs : List Nat} {n : Nat} {T : Nat → Nat → Bool} (h : TabAt w A c bs n T) (a : Nat) (ha : a < bs.length) (k : Nat) (v : Bool) :
    TabAt (w.setCell ⟨bs[a], k, none⟩ (.bool v)) A c bs n (fun x y => if x = a ∧ y = k then v else T x y) := by
  have T1 := (Touch.refl [bs[a]] w).setCell (p := ⟨bs[a], k, none⟩) (.inl (by simp)) (.bool v)
  refine ⟨h.own.touch T1 (fun b hb hm => h.nA _ (List.getElem_mem ha) (by simp at hm; rw [← hm]; exact hb)), fun x hx => ?_, h.nd, h.nA⟩
  by_cases e : x = a
  · subst e
    rw [set_blk (h.row x hx), rowB_set]
    simp
  · have hne : bs[x] ≠ bs[a] := by
      have hp := List.pairwise_iff_getElem.1 h.nd
      rcases Nat.lt_or_gt_of_ne e with hl | hl
      · exact hp x a hx ha hl
      · exact fun q => hp a x ha hx hl q.symm
    rw [T1.blk (h.row x hx) (by simpa using hne)]
    simp [e]

/-- does a need b? -/
def tE (ls : List (List Int)) (a b : Nat) : Bool := hasL (ls.getD a []) (b : Int)
theorem tE_lt (ls : List (List Int)) (a : Nat) (h : a < ls.length) (b : Nat) : tE ls a b = hasL ls[a] (b : Int) := by unfold tE; simp [h]
theorem tE_ge (ls : List (List Int)) (a : Nat) (h : ls.length ≤ a) (b : Nat) : tE ls a b = false := by unfold tE hasL; simp [List.getElem?_eq_none h]

/-- the table on the way: at step m, row i, column k -/
def tabW (t : Nat → Nat → Bool) (m i k : Nat) : Nat → Nat → Bool := fun a b => if a < i ∨ (a = i ∧ b < k) then tabP t (m + 1) a b else tabP t m a b
theorem tabW_zero (t : Nat → Nat → Bool) (m : Nat) (a b : Nat) : tabP t m a b = tabW t m 0 0 a b := by unfold tabW; rw [if_neg (by omega)]
theorem tabW_row (t : Nat → Nat → Bool) (m i n a b : Nat) (hb : b < n) : tabW t m i n a b = tabW t m (i + 1) 0 a b := by
  unfold tabW
  by_cases h : a < i ∨ a = i
  · rw [if_pos (by omega), if_pos (by omega)]
  · rw [if_neg (by omega), if_neg (by omega)]
theorem tabW_end (t : Nat → Nat → Bool) (m n a b : Nat) (ha : a < n) : tabW t m n 0 a b = tabP t (m + 1) a b := by unfold tabW; rw [if_pos (by omega)]
theorem tabW_col (t : Nat → Nat → Bool) (m i k : Nat) : tabW t m i k i m = tabP t m i m := by
  unfold tabW; split
  · exact tabP_col t m i
  · rfl
theorem tabW_mid (t : Nat → Nat → Bool) (m i k b : Nat) : tabW t m i k m b = tabP t m m b := by
  unfold tabW; split
  · exact tabP_row t m b
  · rfl
theorem tabW_step (t : Nat → Nat → Bool) (m i k a b : Nat) : tabW t m i (k + 1) a b = if a = i ∧ b = k then tabP t (m + 1) i k else tabW t m i k a b := by
  unfold tabW
  by_cases h : a = i ∧ b = k
  · rw [if_pos h, if_pos (by omega), h.1, h.2]
  · rw [if_neg h]
    by_cases h2 : a < i ∨ (a = i ∧ b < k)
    · rw [if_pos h2, if_pos (by omega)]
    · rw [if_neg h2, if_neg (by omega)]
end Go.Proofs.Ytmehdlflhllhdaa
