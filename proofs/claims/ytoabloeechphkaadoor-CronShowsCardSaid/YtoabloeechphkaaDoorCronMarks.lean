/- Leaving a function behind several ranges over functions: their marks are taken one by one; append inside a fence; rows of texts. No condition. -/
import Derived.Test.YtoabloeechphkaaDoorSplit
import Derived.Test.YtoabloeechphkaaDoorRdK
namespace Go.Proofs.YtoabloeechphkaaDoor
open Go.RowKit Go.Shelf

/-- the deferred marks of these blocks -/
def marks (Ds : List Nat) : List Deferred := Ds.map fun D => { target := .collected D, args := #[] }
theorem touch_put {fp : List Nat} {w W : World} (h : Touch fp w W) (D : Nat) (hD : D ∈ fp) (o : Obj) : Touch fp w (W.putObj D o) :=
  ⟨h.os, h.tape, h.output, by have := h.size; simpa [World.putObj] using this, fun k hk hn => (World.putObj_heap_other (fun e => hn (by first | (subst e; exact hD) | (rw [← e]; exact hD) | (rw [e]; exact hD)))).trans (h.block k hk hn)⟩
theorem leaves_marks {F : Fence} {n : Nat} {P : Program} {fn : Func} {tmps : Array Value} {R : Ending → World → Prop} : ∀ (Ds : List Nat) (W : World), (∀ D ∈ Ds, W.heap[D]? = some (.deferred (some []))) → Ds.Nodup →
    (∀ W', Touch Ds W W' → ∃ v, (results fn tmps).run P W' = .ok v W' ∧ R (.returned v) W') → LeavesInM F n P fn tmps R (marks Ds) .returning W
  | [], W, _, _, h => h W (Touch.refl _ _)
  | D :: Ds, W, hm, hn, h => by
    have hDs := List.nodup_cons.1 hn
    refine ⟨by simp, .inl ⟨D, W.putObj D (.deferred none), rfl, run_takeDeferred (hm D (by simp)), leaves_marks Ds _ (fun E hE => ?_) hDs.2 (fun W' ht => h W' ?_)⟩⟩
    · refine (World.putObj_heap_other (fun e => ?_)).trans (hm E (by simp [hE]))
      subst e; exact hDs.1 hE
    · exact (touch_put (Touch.refl (D :: Ds) W) D (by simp) _).trans ht (fun b hb => .inl (by simp [hb]))

/-- these blocks lie so -/
def Has (W : World) (L : List (Nat × Obj)) : Prop := ∀ p ∈ L, W.heap[p.1]? = some p.2
theorem Has.put {W : World} {L : List (Nat × Obj)} (h : Has W L) (hc : ∀ p ∈ L, p.2.isCells = true) {k : Nat} {o o' : Obj} (hl : W.heap[k]? = some o) (ho : o.isCells = false) : Has (W.putObj k o') L := fun p hp => by
  refine (World.putObj_heap_other (fun e => ?_)).trans (h p hp)
  have h1 := h p hp
  have h2 := hc p hp
  first
    | (rw [e, hl] at h1; cases h1; rw [ho] at h2; cases h2)
    | (rw [← e, hl] at h1; cases h1; rw [ho] at h2; cases h2)
theorem Has.touch {W W' : World} {L : List (Nat × Obj)} {fp : List Nat} (h : Has W L) (t : Touch fp W W') (hn : ∀ p ∈ L, p.1 ∉ fp) : Has W' L := fun p hp => t.blk (h p hp) (hn p hp)
theorem Has.touch0 {W W' : World} {L : List (Nat × Obj)} (h : Has W L) (t : Touch [] W W') : Has W' L := h.touch t (by simp)
theorem Has.cons {W : World} {L : List (Nat × Obj)} {b : Nat} {o : Obj} (h : Has W L) (hb : W.heap[b]? = some o) : Has W ((b, o) :: L) := fun p hp => by
  rcases List.mem_cons.1 hp with rfl | hp
  · exact hb
  · exact h p hp

/-- append inside a fence -/
theorem wpListIn_appK {α : Type} {enc : α → List Value} {F : Fence} {nn : Nat} {w : World} {ops : Array Oper} {rest : List Oper} {o : Oper} {a : Act} {Q : Exit → Act → World → Prop} (hgd : o.guard = none) (s x : Operand) (t : TypeId)
    (ho : o.op = .call { callee := .builtin .append, args := #[s, x], argTypes := #[t, t] })
    (e : TypeId) (z : Value) (k bytes : Nat) (hinfo : (Tryd.prog.info? e).map (fun i => (i.zero, i.size, i.bytes)) = some (some z, k, bytes)) (ht : Tryd.prog.underlying t = some (.slice e))
    (hzs : z.cells.size = k) (hsz : 0 < k) (hk : ∀ x, (enc x).length = k) (hone : ∀ x, ∀ u ∈ enc x, u.oneCell' = true)
    (A0 : Option Addr) (n c0 : Nat) (xs : List α) (hn : xs.length = n) (hs : a.eval s = .slice A0 n c0) (hown : OwnK e k enc w A0 c0 xs)
    (A : Option Addr) (m c : Nat) (news : List α) (hm : news.length = m) (hx : a.eval x = .slice A m c) (hr : RdK enc w A news) (h63 : n + m ≤ 1000000000) (hby : bytes ≤ 1000)
    (h : ∀ A' c' w', OwnK e k enc w' A' c' (xs ++ news) → Touch (fpo A0) w w' → (∀ b ∈ fpo A', b ∈ fpo A0 ∨ b = w.heap.size) → wpListIn F nn Tryd.prog ops Q rest (a.put o.dst (.slice A' (n + m) c')) w') :
    wpListIn F nn Tryd.prog ops Q (o :: rest) a w := by
  obtain ⟨i0, hi0, hz0, hz1, hz2⟩ := info_parts hinfo
  subst hn hm
  have hb : (xs.length + news.length) * bytes ≤ 1000000000 * 1000 := Nat.mul_le_mul h63 hby
  obtain ⟨A', c', w', hrun, h2, h3, h4⟩ := run_app (P := Tryd.prog) w t o.type e i0 z k bytes ht hi0 hz0 hz1 hz2 hzs hsz A0 xs.length c0 _ hown A news.length c (news.flatMap enc) (flat_length enc k hk news) hr
    (fun u hu => by obtain ⟨y, _, hy⟩ := List.mem_flatMap.1 hu; exact hone y u hy) (by simp only [maxLen]; omega) (by omega)
  refine wpListIn_plain hgd fun K hK' => ?_
  unfold Oper.wpIn
  refine ⟨?_, ?_⟩
  · simp [Oper.about, ho, resolve, Target.leads, Sem.run_pure]
  · rw [Oper.semAt_plain F _ _ (by rw [ho]; intro c hc'; cases hc')]
    simp [execOp, ho, resolve, invoke, builtin, hs, hx, hrun, Result.andThen]
    exact hK' _ _ (h A' c' w' (by unfold OwnK; rw [List.flatMap_append, List.length_append]; exact h2) h3 h4)

/-- a text in a cell -/
def encT (s : List UInt8) : List Value := [.string (S s)]
theorem encT_len (s : List UInt8) : (encT s).length = 1 := rfl
theorem encT_one : ∀ x, ∀ u ∈ encT x, u.oneCell' = true := fun x u hu => by simp [encT] at hu; subst hu; rfl
theorem info_strT : (Tryd.prog.info? 9).map (fun i => (i.zero, i.size, i.bytes)) = some (some (.string ByteArray.empty), 1, 16) := by kernel_rfl
end Go.Proofs.YtoabloeechphkaaDoor
