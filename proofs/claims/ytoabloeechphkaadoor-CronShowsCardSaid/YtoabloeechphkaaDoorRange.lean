/- A range over a function whose iterator writes a variable of its own between two rounds: what the caller owes, in one law. A body goes on, or returns. -/
import Derived.RangeFuncBox
import Derived.RangeFuncLeaves
import Derived.RangeFuncNested
import Derived.RangeFuncBound
import Derived.RangeFuncCalls
import Derived.Shelf.Abstract
import Derived.Shelf.RegionOpen
import Derived.WalkKit
import Derived.OwnWalkIn
import Derived.TacticsInMore
import Derived.LoopNIn
import Derived.LoopIn
import Derived.Test.YtoabloeechphkaaDoorRdK
namespace Go.Proofs.YtoabloeechphkaaDoor
open Go.RowKit Go.Shelf

attribute [local go_sem] Oper.semAt_some

/-- these blocks lie as they lay -/
def KpB (bs : List Nat) (W W' : World) : Prop := ∀ k ∈ bs, W'.heap[k]? = W.heap[k]?
theorem KpB.refl (bs : List Nat) (W : World) : KpB bs W W := fun _ _ => rfl
theorem KpB.trans {bs : List Nat} {A B C : World} (h : KpB bs A B) (k : KpB bs B C) : KpB bs A C := fun b hb => (k b hb).trans (h b hb)
theorem KpB.cell {bs : List Nat} {W W' : World} (h : KpB bs W W') {a : Addr} (hb : a.block ∈ bs) : W'.cell? a = W.cell? a := by
  unfold World.cell?; rw [h _ hb]
theorem KpB.frozen {bs : List Nat} {W W' : World} (h : KpB bs W W') {a : Addr} (hb : a.block ∈ bs) : W'.frozen? a = W.frozen? a := by
  unfold World.frozen?; rw [h _ hb]
theorem KpB.of_touch {bs fp : List Nat} {W W' : World} (h : Touch fp W W') (hl : ∀ k ∈ bs, k < W.heap.size) (hn : ∀ k ∈ bs, k ∉ fp) : KpB bs W W' := fun k hk => h.block k (hl k hk) (hn k hk)

/-- what lies from block B on and is no row of cells lies as it lay -/
def KeepN (B : Nat) (W W' : World) : Prop := ∀ k o, B ≤ k → W.heap[k]? = some o → o.isCells = false → W'.heap[k]? = some o
theorem KeepN.of_touch {B : Nat} {fp : List Nat} {W W' : World} (h : Touch fp W W') (hc : ∀ k ∈ fp, k < B ∨ ∀ o, W.heap[k]? = some o → o.isCells = true) : KeepN B W W' := fun k o hB ho hn => by
  have hl := (Array.getElem?_eq_some_iff.1 ho).1
  refine (h.block k hl (fun hm => ?_)).trans ho
  rcases hc k hm with h1 | h1
  · omega
  · rw [h1 o ho] at hn; cases hn

section
variable {α : Type} {F : Fence} {n : Nat} {P : Program}

/-- the iterator's contract: it reads the blocks bs and takes steps R of its own; Pf pre x: behind pre comes x; S: all has come; Sp: a part has come, a round having said no -/
def SeqB (F : Fence) (n : Nat) (P : Program) (g : Nat) (lb : Array Value) (encs : α → Array Value) (bs : List Nat) (R : World → World → Prop) (Pf : List α → α → Prop) (S Sp : List α → Prop) (w0 : World) : Prop :=
  ∀ (l : Nat) (J Jx : List α → World → Prop) (W : World), KpB bs w0 W → (∀ s A A', R A A' → J s A → J s A') →
    (∀ pre x W1, J pre W1 → Pf pre x → YieldAt F (n - 1) P l (encs x) W1 fun e W' =>
      (e = .returned (.bool true) ∧ J (pre ++ [x]) W' ∧ KpB bs W1 W') ∨ (e = .returned (.bool false) ∧ Jx (pre ++ [x]) W')) →
    J [] W →
    CallsIn F n P g (#[.func (.yield l) #[] #[]] ++ lb) W fun e W' => (∃ v, e = .returned v) ∧ ((∃ xs, S xs ∧ J xs W') ∨ (∃ pre, Sp pre ∧ Jx pre W'))

/-- how a body may be left -/
def bodyB (B : Nat) (bs : List Nat) (I X : List α → World → Prop) (xs : List α) (W : World) : Exit → Act → World → Prop
  | .normal, _, W' => KeepN B W W' ∧ KpB bs W W' ∧ I xs W'
  | .ret, _, W' => KeepN B W W' ∧ X xs W'
  | _, _, _ => False

theorem range_box {g : Operand} {ps : Array Tmp} {assign body : Code} {Q : Exit → Act → World → Prop} {a : Act} {w : World}
    (hro : F.round = none) (h1 : 1 ≤ n) {gf : Nat} {lb : Array Value} (hg : a.eval g = .func (.func gf) #[] lb) (hFg : F.fn gf) (eg : ∀ args w, (callFunc gf args).run P w = .ok (.enter gf args) w)
    {encs : α → Array Value} {bs : List Nat} {R : World → World → Prop} {Pf : List α → α → Prop} {S Sp : List α → Prop} {w0 : World} (hseq : SeqB F (n - 1) P gf lb encs bs R Pf S Sp w0)
    (hRn : ∀ A A', R A A' → ∀ (k : Nat) (o : Obj), A.heap[k]? = some o → o.isCells = false → A'.heap[k]? = some o) (hbs : ∀ k ∈ bs, k < w.heap.size) (hb0 : KpB bs w0 w) (hps : ∀ x, (encs x).size = ps.size)
    (I X : List α → World → Prop)
    (hIp : ∀ (s : List α) (A : World) (k : Nat) (o o' : Obj), I s A → w.heap.size ≤ k → A.heap[k]? = some o → o.isCells = false → I s (A.putObj k o'))
    (hXp : ∀ (s : List α) (A : World) (k : Nat) (o o' : Obj), X s A → w.heap.size ≤ k → A.heap[k]? = some o → o.isCells = false → X s (A.putObj k o'))
    (hIR : ∀ s A A', R A A' → I s A → I s A')
    (h0 : ∀ o1 o2, I [] ((w.alloc o1).alloc o2)) (a₁ : α → Act)
    (hassign : ∀ (l : Nat) (x : α) (W : World) (K : Act → World → Prop), K (a₁ x) W →
      assign.wpIn (F.inRound l) (n - 1 - 1) P (Exit.then K (fun _ _ _ => False)) { tmps := (ps.zip (encs x)).foldl (fun t (p, v) => t.setIfInBounds p v) a.tmps, defers := [] } W)
    (hbody : ∀ (l : Nat) (pre : List α) (x : α) (W : World), I pre W → Pf pre x → body.wpIn (F.inRound l) (n - 1 - 1) P (bodyB w.heap.size bs I X (pre ++ [x]) W) (a₁ x) W)
    (hdone : ∀ (D : Nat) (xs : List α) (W : World), w.heap.size ≤ D → S xs → I xs W → W.heap[D]? = some (.deferred (some [])) → Q .normal { a with defers := { target := .collected D, args := #[] } :: a.defers } W)
    (hstop : ∀ (D : Nat) (pre : List α) (W : World), w.heap.size ≤ D → Sp pre → X pre W → W.heap[D]? = some (.deferred (some [])) → Code.wpIn F n P .ret Q { a with defers := { target := .collected D, args := #[] } :: a.defers } W) :
    (Code.rangeFunc g ps assign body).wpIn F n P Q a w := by
  refine wpIn_rangeFunc fun fn hfn => ?_
  rw [hro]
  obtain ⟨N, hN⟩ : ∃ N, N = w.heap.size := ⟨_, rfl⟩
  obtain ⟨rec, hrec⟩ : ∃ rec : LoopState → Option Code → Loop, rec = fun st pe => { state := st, pending := pe, fn, tmps := a.tmps, params := ps, assign, body, defers := w.heap.size } := ⟨_, rfl⟩
  obtain ⟨W1, hW1⟩ : ∃ W1, W1 = (w.alloc (.deferred (some []))).alloc (.loop (rec .ready none)) := ⟨_, rfl⟩
  have hL1 : W1.heap[N + 1]? = some (.loop (rec .ready none)) := by
    have := World.alloc_heap_new (w.alloc (.deferred (some []))) (.loop (rec .ready none))
    rw [World.size_alloc] at this
    rw [hW1, hN]; exact this
  have hD1 : W1.heap[N]? = some (.deferred (some [])) := by
    rw [hW1, hN]; exact (Below.heap_alloc _ _ _ (by simp)).trans (World.alloc_heap_new w _)
  have hK1 : KpB bs w0 W1 := hb0.trans (fun k hk => by
    have := hbs k hk
    rw [hW1]
    exact (Below.heap_alloc _ _ _ (by simp; omega)).trans (Below.heap_alloc _ _ _ this))
  have hent := run_enterLoop_outer (P := P) (w := w) fn a.tmps ps assign body
  rw [← hN] at hbody hdone hstop hIp hXp hbs
  have hent' : (Instr.enterLoop fn a.tmps ps assign body none).run P w = .ok (N + 1, [{ target := .collected N, args := #[] }]) W1 := by
    rw [hent, hW1, hrec, hN]
  clear hent
  refine ⟨N + 1, [{ target := .collected N, args := #[] }], W1, { target := .fn (.func gf) lb, args := #[.func (.yield (N + 1)) #[] #[]] }, W1, gf,
    #[.func (.yield (N + 1)) #[] #[]] ++ lb, W1, hent', ?_, ?_, ?_, fun _ => h1, ?_⟩
  · simp only [resolve, hg]
    simp [go_sem]
  · intro f' hf'; simp [Target.leads] at hf'; subst hf'; exact hFg
  · simp [invoke, go_sem, eg]
  refine (hseq (N + 1) (fun pre W => I pre W ∧ W.heap[N + 1]? = some (.loop (rec .ready none)) ∧ W.heap[N]? = some (.deferred (some [])))
    (fun pre W => X pre W ∧ W.heap[N + 1]? = some (.loop (rec .done (some .ret))) ∧ W.heap[N]? = some (.deferred (some [])))
    W1 hK1 (fun s A A' hR h => ⟨hIR s A A' hR h.1, hRn A A' hR _ _ h.2.1 rfl, hRn A A' hR _ _ h.2.2 rfl⟩) ?_ ⟨by rw [hW1]; exact h0 _ _, hL1, hD1⟩).mono ?_
  · rintro pre x W ⟨hi, hl, hd⟩ hpf
    have hlt := (Array.getElem?_eq_some_iff.1 hl).1
    have hne : N + 1 ≠ N := by omega
    have hy := run_yield (P := P) (args := encs x) hl (by rw [hrec]; exact hps x)
    rw [hrec] at hy
    refine ⟨fn, _, assign, body, hy, roundIn_of_wpIn hfn (hassign _ x W _ ⟨_, run_beginRound hl (by rw [hrec]), ?_⟩)⟩
    obtain ⟨V, hV⟩ : ∃ V, V = W.putObj (N + 1) (.loop { rec .ready none with state := .busy }) := ⟨_, rfl⟩
    have hlV : V.heap[N + 1]? = some (.loop { rec .ready none with state := .busy }) := by rw [hV]; exact World.putObj_heap_same hlt
    have hdV : V.heap[N]? = some (.deferred (some [])) := by rw [hV]; exact (World.putObj_heap_other (by omega)).trans hd
    have hkV : KpB bs W V := fun k hk => by have := hbs k hk; rw [hV]; exact World.putObj_heap_other (by omega)
    have hiV : I pre V := by rw [hV]; exact hIp _ _ _ _ _ hi (by omega) hl rfl
    rw [← hV]
    refine wpIn_mono (hbody _ pre x V hiV hpf) ?_
    rintro e a3 W3 hp
    have fin : ∀ (jump : Option Code), KeepN N V W3 →
        (Instr.endRound (N + 1) jump).run P W3 = .ok (.bool jump.isNone) (W3.putObj (N + 1) (.loop (rec (if jump.isNone then .ready else .done) jump))) ∧
        W3.heap[N + 1]? = some (.loop { rec .ready none with state := .busy }) ∧
        (W3.putObj (N + 1) (.loop (rec (if jump.isNone then .ready else .done) jump))).heap[N + 1]? = some (.loop (rec (if jump.isNone then .ready else .done) jump)) ∧
        (W3.putObj (N + 1) (.loop (rec (if jump.isNone then .ready else .done) jump))).heap[N]? = some (.deferred (some [])) := fun jump hk => by
      have hl3 := hk _ _ (by omega) hlV rfl
      have hr := run_endRound (P := P) jump hl3
      rw [hrec] at hr ⊢
      exact ⟨hr, by rw [hrec] at hl3; exact hl3, World.putObj_heap_same (Array.getElem?_eq_some_iff.1 hl3).1, (World.putObj_heap_other (by omega)).trans (hk _ _ (Nat.le_refl _) hdV rfl)⟩
    cases e with
    | normal =>
      obtain ⟨hk, hkb, hi3⟩ := hp
      obtain ⟨hr, h3, h4, h5⟩ := fin none hk
      exact ⟨_, _, hr, .inl ⟨rfl, ⟨hIp _ _ _ _ _ hi3 (by omega) h3 rfl, h4, h5⟩, hkV.trans (hkb.trans (fun k hk => by have := hbs k hk; exact World.putObj_heap_other (by omega)))⟩⟩
    | ret =>
      obtain ⟨hk, hx3⟩ := hp
      obtain ⟨hr, h3, h4, h5⟩ := fin (some .ret) hk
      exact ⟨_, _, hr, .inr ⟨rfl, hXp _ _ _ _ _ hx3 (by omega) h3 rfl, h4, h5⟩⟩
    | exit id => exact hp.elim
    | goto t => exact hp.elim
    | panic ch => exact hp.elim
    | outgrown => exact hp.elim
  · have hne : N + 1 ≠ N := by omega
    rintro e W2 ⟨⟨v, rfl⟩, (⟨xs, hS, hi, hl, hk⟩ | ⟨pre, hSp, hx, hl, hk⟩)⟩
    · have hr := run_endLoop (P := P) hl (by rw [hrec]; simp)
      rw [hrec] at hr
      exact ⟨none, _, hr, hdone _ xs _ (Nat.le_refl _) hS (hIp _ _ _ _ _ hi (by omega) hl rfl) ((World.putObj_heap_other (by omega)).trans hk)⟩
    · have hr := run_endLoop (P := P) hl (by rw [hrec]; simp)
      rw [hrec] at hr
      exact ⟨some .ret, _, hr, hstop _ pre _ (Nat.le_refl _) hSp (hXp _ _ _ _ _ hx (by omega) hl rfl) ((World.putObj_heap_other (by omega)).trans hk)⟩
end
end Go.Proofs.YtoabloeechphkaaDoor
