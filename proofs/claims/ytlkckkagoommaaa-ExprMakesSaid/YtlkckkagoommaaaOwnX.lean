/- Rows of expressions of the calls' own: how one more comes to them. No program's function. -/
import Derived.Test.YtlkckkagoommaaaTree
namespace Go.Proofs.Ytlkckkagoommaaa
open Go.RowKit

/-- blocks behind a base that are there -/
def Fr (base : Nat) (w : World) : Nat → Prop := fun b => base ≤ b ∧ b < w.heap.size
/-- a row of expressions of the calls' own; what lies below it lies elsewhere -/
def OwnX (t : TypeId) (enc : XC → List Value) (base n : Nat) (w : World) (B : Option Addr) (c : Nat) (args : List (TX n)) : Prop :=
  ∃ xs : List XC, xs.length = args.length ∧ OwnK t 7 enc w B c xs ∧ (∀ b ∈ fpo B, base ≤ b) ∧ ∀ i (h1 : i < xs.length) (h2 : i < args.length), ExP enc (fun b => Fr base w b ∧ b ∉ fpo B) n w xs[i] args[i]
theorem OwnX.nil (t : TypeId) (enc : XC → List Value) (base n : Nat) (w : World) : OwnX t enc base n w none 0 [] := ⟨[], rfl, OwnK.nil _ _ _ _, by simp [fpo], fun i h => absurd h (by simp)⟩
theorem OwnX.lt {t : TypeId} {enc : XC → List Value} {base n : Nat} {w : World} {B : Option Addr} {c : Nat} {args : List (TX n)} (h : OwnX t enc base n w B c args) : ∀ b ∈ fpo B, base ≤ b ∧ b < w.heap.size := by
  obtain ⟨xs, _, h2, h3, _⟩ := h
  exact fun b hb => ⟨h3 b hb, h2.lt b hb⟩
theorem OwnX.touch {t : TypeId} {enc : XC → List Value} {base n : Nat} {w w' : World} {B : Option Addr} {c : Nat} {args : List (TX n)} {fp : List Nat} (h : OwnX t enc base n w B c args) (ht : Touch fp w w') (hfp : ∀ b ∈ fp, b < base) : OwnX t enc base n w' B c args := by
  obtain ⟨xs, h1, h2, h3, h4⟩ := h
  exact ⟨xs, h1, h2.touch ht (fun b hb hm => by have := hfp b hm; have := h3 b hb; omega), h3, fun i a b => ((h4 i a b).touch ht (fun b hb hp => by have := hfp b hb; have := hp.1.1; omega)).mono (fun b hb => ⟨⟨hb.1.1, Nat.lt_of_lt_of_le hb.1.2 ht.size⟩, hb.2⟩)⟩
theorem OwnX.touch0 {t : TypeId} {enc : XC → List Value} {base n : Nat} {w w' : World} {B : Option Addr} {c : Nat} {args : List (TX n)} (h : OwnX t enc base n w B c args) (ht : Touch [] w w') : OwnX t enc base n w' B c args := h.touch ht (by simp)
theorem OwnX.tree {t : TypeId} {enc : XC → List Value} {base n : Nat} {w : World} {B : Option Addr} {c : Nat} {args : List (TX n)} (h : OwnX t enc base n w B c args) (nd : ND) (m : Nat) (hm : m = args.length) : ExP enc (Fr base w) (n + 1) w ⟨nd, B, m, c⟩ (nd, args) := by
  have hlt := h.lt
  obtain ⟨xs, h1, h2, _, h4⟩ := h
  exact ⟨rfl, hm, hlt, xs, h1, h2.rd, fun i a b => (h4 i a b).mono fun b hb => hb.1⟩
theorem OwnX.base {t : TypeId} {enc : XC → List Value} {base base' n : Nat} {w : World} {B : Option Addr} {c : Nat} {args : List (TX n)} (h : OwnX t enc base n w B c args) (hb : base' ≤ base) : OwnX t enc base' n w B c args := by
  obtain ⟨xs, h1, h2, h3, h4⟩ := h
  exact ⟨xs, h1, h2, fun b hbm => by have := h3 b hbm; omega, fun i a b => (h4 i a b).mono fun b hp => ⟨⟨by have := hp.1.1; omega, hp.1.2⟩, hp.2⟩⟩

/-- append of one more expression -/
theorem wpList_appX {enc : XC → List Value} (hE : ∀ x, (enc x).length = 7) (hone : ∀ x, ∀ u ∈ enc x, u.oneCell' = true) {w : World} {ops : Array Oper} {rest : List Oper} {o : Oper} {a : Act} {Q : Exit → Act → World → Prop} (hgd : o.guard = none) (s y : Operand) (t : TypeId)
    (ho : o.op = .call { callee := .builtin .append, args := #[s, y], argTypes := #[t, t] })
    (e : TypeId) (z : Value) (bytes : Nat) (hinfo : (Try.prog.info? e).map (fun i => (i.zero, i.size, i.bytes)) = some (some z, 7, bytes)) (ht : Try.prog.underlying t = some (.slice e)) (hzs : z.cells.size = 7) (hby : bytes ≤ 1000)
    (base n : Nat) (B : Option Addr) (m c : Nat) (args : List (TX n)) (hm : args.length = m) (hs : a.eval s = .slice B m c) (hown : OwnX e enc base n w B c args)
    (x : XC) (r : TX n) (hx : ExP enc (fun b => Fr base w b ∧ b ∉ fpo B) n w x r) (hbase : base ≤ w.heap.size)
    (g : Nat) (hy : a.eval y = .slice (some ⟨w.heap.size, 0, none⟩) 1 g) (h63 : m + 1 ≤ 1000000000) {cs : Array Value} (hcs : cs.toList = enc x)
    (h : ∀ B' c' w', OwnX e enc base n w' B' c' (args ++ [r]) → Touch (fpo B) w w' → (∀ b ∈ fpo B', b ∈ fpo B ∨ w.heap.size < b) → wpList Try.prog ops Q rest (a.put o.dst (.slice B' (m + 1) c')) w') :
    wpList Try.prog ops Q (o :: rest) a (w.alloc (.cells cs e)) := by
  obtain ⟨xs, h1, h2, h3, h4⟩ := hown
  have ta := (Touch.refl [] w).alloc (.cells cs e)
  refine wpList_appK (enc := enc) hgd s y t ho e z 7 bytes hinfo ht hzs (by omega) hE hone B m c xs (by rw [h1, hm]) hs (h2.touch0 ta)
    (some ⟨w.heap.size, 0, none⟩) 1 g [x] rfl hy (RdK.one (enc := enc) w e x cs hcs) h63 hby ?_
  intro B' c' w' hown' t' hf'
  rw [World.size_alloc] at hf'
  have hw := t'.size
  rw [World.size_alloc] at hw
  have hlt := h2.lt
  have tt : Touch (fpo B) w w' := (ta.mono (fp2 := fpo B) (fun b hb => by simp at hb)).trans t' (fun b hb => .inl hb)
  have key : ∀ {x : XC} {r : TX n}, ExP enc (fun b => Fr base w b ∧ b ∉ fpo B) n w x r → ExP enc (fun b => Fr base w' b ∧ b ∉ fpo B') n w' x r := fun hx =>
    (hx.touch tt (fun b hb hp => hp.2 hb)).mono fun b hp => ⟨⟨hp.1.1, by have := hp.1.2; omega⟩, fun hm => by
      rcases hf' b hm with q | q
      · exact hp.2 q
      · have := hp.1.2; omega⟩
  refine h B' c' w' ⟨xs ++ [x], by simp [h1], hown', fun b hb => ?_, fun i a1 b1 => ?_⟩ tt (fun b hb => ?_)
  · rcases hf' b hb with q | q
    · exact h3 b q
    · omega
  · by_cases hi : i < xs.length
    · have hi2 : i < args.length := by rw [← h1]; exact hi
      rw [List.getElem_append_left hi, List.getElem_append_left hi2]
      exact key (h4 i hi hi2)
    · have hi' : i = xs.length := by rw [List.length_append] at a1; simp at a1; omega
      subst hi'
      have e1 : (xs ++ [x])[xs.length] = x := by rw [List.getElem_append_right (Nat.le_refl _)]; simp
      have e2 : (args ++ [r])[xs.length] = r := by rw [List.getElem_append_right (by rw [h1]; exact Nat.le_refl _)]; simp [h1]
      rw [e1, e2]
      exact key hx
  · rcases hf' b hb with q | q
    · exact .inl q
    · exact .inr (by omega)
/-- the same as one step of a region that draws its order -/
theorem step_appX {enc : XC → List Value} (hE : ∀ x, (enc x).length = 7) (hone : ∀ x, ∀ u ∈ enc x, u.oneCell' = true) {w : World} {ops : Array Oper} {o : Oper} {a : Act} {K : Act → World → Prop} {Q : Exit → Act → World → Prop} {E : Prop} (hgd : o.guard = none) (s y : Operand) (t : TypeId)
    (ho : o.op = .call { callee := .builtin .append, args := #[s, y], argTypes := #[t, t] })
    (e : TypeId) (z : Value) (bytes : Nat) (hinfo : (Try.prog.info? e).map (fun i => (i.zero, i.size, i.bytes)) = some (some z, 7, bytes)) (ht : Try.prog.underlying t = some (.slice e)) (hzs : z.cells.size = 7) (hby : bytes ≤ 1000)
    (base n : Nat) (B : Option Addr) (m c : Nat) (args : List (TX n)) (hm : args.length = m) (hs : a.eval s = .slice B m c) (hown : OwnX e enc base n w B c args)
    (x : XC) (r : TX n) (hx : ExP enc (fun b => Fr base w b ∧ b ∉ fpo B) n w x r) (hbase : base ≤ w.heap.size)
    (g : Nat) (hy : a.eval y = .slice (some ⟨w.heap.size, 0, none⟩) 1 g) (h63 : m + 1 ≤ 1000000000) {cs : Array Value} (hcs : cs.toList = enc x)
    (h : ∀ B' c' w', OwnX e enc base n w' B' c' (args ++ [r]) → Touch (fpo B) w w' → (∀ b ∈ fpo B', b ∈ fpo B ∨ w.heap.size < b) → K (a.put o.dst (.slice B' (m + 1) c')) w') :
    if Region.wanted o (yielded ops a.tmps) = true then Oper.wp Try.prog o a (w.alloc (.cells cs e)) K Q else E := by
  obtain ⟨xs, h1, h2, h3, h4⟩ := hown
  have ta := (Touch.refl [] w).alloc (.cells cs e)
  refine step_appK (enc := enc) hgd s y t ho e z 7 bytes hinfo ht hzs (by omega) hE hone B m c xs (by rw [h1, hm]) hs (h2.touch0 ta)
    (some ⟨w.heap.size, 0, none⟩) 1 g [x] rfl hy (RdK.one (enc := enc) w e x cs hcs) h63 hby ?_
  intro B' c' w' hown' t' hf'
  rw [World.size_alloc] at hf'
  have hw := t'.size
  rw [World.size_alloc] at hw
  have hlt := h2.lt
  have tt : Touch (fpo B) w w' := (ta.mono (fp2 := fpo B) (fun b hb => by simp at hb)).trans t' (fun b hb => .inl hb)
  have key : ∀ {x : XC} {r : TX n}, ExP enc (fun b => Fr base w b ∧ b ∉ fpo B) n w x r → ExP enc (fun b => Fr base w' b ∧ b ∉ fpo B') n w' x r := fun hx =>
    (hx.touch tt (fun b hb hp => hp.2 hb)).mono fun b hp => ⟨⟨hp.1.1, by have := hp.1.2; omega⟩, fun hm => by
      rcases hf' b hm with q | q
      · exact hp.2 q
      · have := hp.1.2; omega⟩
  refine h B' c' w' ⟨xs ++ [x], by simp [h1], hown', fun b hb => ?_, fun i a1 b1 => ?_⟩ tt (fun b hb => ?_)
  · rcases hf' b hb with q | q
    · exact h3 b q
    · omega
  · by_cases hi : i < xs.length
    · have hi2 : i < args.length := by rw [← h1]; exact hi
      rw [List.getElem_append_left hi, List.getElem_append_left hi2]
      exact key (h4 i hi hi2)
    · have hi' : i = xs.length := by rw [List.length_append] at a1; simp at a1; omega
      subst hi'
      have e1 : (xs ++ [x])[xs.length] = x := by rw [List.getElem_append_right (Nat.le_refl _)]; simp
      have e2 : (args ++ [r])[xs.length] = r := by rw [List.getElem_append_right (by rw [h1]; exact Nat.le_refl _)]; simp [h1]
      rw [e1, e2]
      exact key hx
  · rcases hf' b hb with q | q
    · exact .inl q
    · exact .inr (by omega)
/-- a struct of seven cells is written -/
theorem out7 {X : World} {R : Nat} {t : TypeId} {a0 a1 a2 a3 a4 a5 a6 : Value} (h : X.heap[R]? = some (.cells #[a0, a1, a2, a3, a4, a5, a6] t (0, 0))) (v0 v1 v2 v3 v4 v5 v6 : Value) :
    (((((((X.setCell ⟨R, 0, none⟩ v0).setCell ⟨R, 1, none⟩ v1).setCell ⟨R, 2, none⟩ v2).setCell ⟨R, 3, none⟩ v3).setCell ⟨R, 4, none⟩ v4).setCell ⟨R, 5, none⟩ v5).setCell ⟨R, 6, none⟩ v6).heap[R]? = some (.cells #[v0, v1, v2, v3, v4, v5, v6] t (0, 0)) ∧ Touch [R] X (((((((X.setCell ⟨R, 0, none⟩ v0).setCell ⟨R, 1, none⟩ v1).setCell ⟨R, 2, none⟩ v2).setCell ⟨R, 3, none⟩ v3).setCell ⟨R, 4, none⟩ v4).setCell ⟨R, 5, none⟩ v5).setCell ⟨R, 6, none⟩ v6) := by
  have t := Touch.refl [R] X
  have h0 := set_blk h 0 v0
  have t := t.setCell (p := ⟨R, 0, none⟩) (.inl (by simp)) v0
  simp only [List.setIfInBounds_toArray, List.set_cons_zero] at h0
  have h1 := set_blk h0 1 v1
  have t := t.setCell (p := ⟨R, 1, none⟩) (.inl (by simp)) v1
  simp only [List.setIfInBounds_toArray, List.set_cons_zero, List.set_cons_succ] at h1
  have h2 := set_blk h1 2 v2
  have t := t.setCell (p := ⟨R, 2, none⟩) (.inl (by simp)) v2
  simp only [List.setIfInBounds_toArray, List.set_cons_zero, List.set_cons_succ] at h2
  have h3 := set_blk h2 3 v3
  have t := t.setCell (p := ⟨R, 3, none⟩) (.inl (by simp)) v3
  simp only [List.setIfInBounds_toArray, List.set_cons_zero, List.set_cons_succ] at h3
  have h4 := set_blk h3 4 v4
  have t := t.setCell (p := ⟨R, 4, none⟩) (.inl (by simp)) v4
  simp only [List.setIfInBounds_toArray, List.set_cons_zero, List.set_cons_succ] at h4
  have h5 := set_blk h4 5 v5
  have t := t.setCell (p := ⟨R, 5, none⟩) (.inl (by simp)) v5
  simp only [List.setIfInBounds_toArray, List.set_cons_zero, List.set_cons_succ] at h5
  have h6 := set_blk h5 6 v6
  have t := t.setCell (p := ⟨R, 6, none⟩) (.inl (by simp)) v6
  simp only [List.setIfInBounds_toArray, List.set_cons_zero, List.set_cons_succ] at h6
  exact ⟨h6, t⟩
theorem blk7 {w : World} {R : Nat} {t : TypeId} {a0 a1 a2 a3 a4 a5 a6 : Value} (h : w.heap[R]? = some (.cells #[a0, a1, a2, a3, a4, a5, a6] t (0, 0))) :
    w.cell? ⟨R, 0, none⟩ = some a0 ∧ w.cell? ⟨R, 1, none⟩ = some a1 ∧ w.cell? ⟨R, 2, none⟩ = some a2 ∧ w.cell? ⟨R, 3, none⟩ = some a3 ∧ w.cell? ⟨R, 4, none⟩ = some a4 ∧ w.cell? ⟨R, 5, none⟩ = some a5 ∧ w.cell? ⟨R, 6, none⟩ = some a6 ∧ w.frozen? ⟨R, 0, none⟩ = false ∧ w.frozen? ⟨R, 1, none⟩ = false ∧ w.frozen? ⟨R, 2, none⟩ = false ∧ w.frozen? ⟨R, 3, none⟩ = false ∧ w.frozen? ⟨R, 4, none⟩ = false ∧ w.frozen? ⟨R, 5, none⟩ = false ∧ w.frozen? ⟨R, 6, none⟩ = false :=
  ⟨cell_blk h rfl, cell_blk h rfl, cell_blk h rfl, cell_blk h rfl, cell_blk h rfl, cell_blk h rfl, cell_blk h rfl, by simp [World.frozen?, h], by simp [World.frozen?, h], by simp [World.frozen?, h], by simp [World.frozen?, h], by simp [World.frozen?, h], by simp [World.frozen?, h], by simp [World.frozen?, h]⟩
end Go.Proofs.Ytlkckkagoommaaa
