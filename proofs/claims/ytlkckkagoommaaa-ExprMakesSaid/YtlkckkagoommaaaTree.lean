/- Trees of expressions, and how they lie in memory. No program's function. -/
import Derived.Test.YtlkckkagoommaaaRdK
namespace Go.Proofs.Ytlkckkagoommaaa
open Go.RowKit

/-- an expression's own things -/
structure ND where
  kind : Int
  name : ByteArray
  v : VD
  op : ByteArray
/-- numbers within bounds, texts short -/
structure ND.Ok (d : ND) (m : Nat) : Prop where
  k : -9223372036854775808 ≤ d.kind ∧ d.kind ≤ 9223372036854775807
  n : d.name.size ≤ m
  v : d.v.Ok m
  o : d.op.size ≤ m
/-- expressions of so many levels at most -/
def TX : Nat → Type
  | 0 => PEmpty
  | n + 1 => ND × List (TX n)
/-- what an expression's cells hold -/
structure XC where
  nd : ND
  A : Option Addr
  n : Nat
  c : Nat
/-- as the program lays it -/
def xcE (x : XC) : List Value := [.int .i64 x.nd.kind, .string x.nd.name, .int .i64 x.nd.v.kind, .int .i64 x.nd.v.num, .string x.nd.v.text, .string x.nd.op, .slice x.A x.n x.c]
/-- as the document's answer lays it -/
def xcR (x : XC) : List Value := [.int .i64 x.nd.kind, .string x.nd.name, .string x.nd.op, .int .i64 x.nd.v.kind, .int .i64 x.nd.v.num, .string x.nd.v.text, .slice x.A x.n x.c]
theorem xcE_length (x : XC) : (xcE x).length = 7 := rfl
theorem xcR_length (x : XC) : (xcR x).length = 7 := rfl
theorem xcE_one (x : XC) : ∀ u ∈ xcE x, u.oneCell' = true := by
  intro u hu
  simp only [xcE, List.mem_cons, List.not_mem_nil, or_false] at hu
  rcases hu with rfl | rfl | rfl | rfl | rfl | rfl | rfl <;> rfl
theorem xcR_one (x : XC) : ∀ u ∈ xcR x, u.oneCell' = true := by
  intro u hu
  simp only [xcR, List.mem_cons, List.not_mem_nil, or_false] at hu
  rcases hu with rfl | rfl | rfl | rfl | rfl | rfl | rfl <;> rfl

/-- these cells, and what they lead to, are this tree; its blocks are such -/
def ExP (enc : XC → List Value) (p : Nat → Prop) : (n : Nat) → World → XC → TX n → Prop
  | 0, _, _, _ => False
  | n + 1, w, x, e => x.nd = e.1 ∧ x.n = e.2.length ∧ (∀ b ∈ fpo x.A, p b) ∧ ∃ xs : List XC, xs.length = e.2.length ∧ RdK enc w x.A xs ∧ ∀ i (h1 : i < xs.length) (h2 : i < e.2.length), ExP enc p n w xs[i] e.2[i]
def anyB : Nat → Prop := fun _ => True
theorem ExP.mono {enc : XC → List Value} {p q : Nat → Prop} (hpq : ∀ b, p b → q b) : ∀ {n : Nat} {w : World} {x : XC} {e : TX n}, ExP enc p n w x e → ExP enc q n w x e
  | 0, _, _, _, h => h.elim
  | _ + 1, _, _, _, ⟨h1, h2, h3, xs, h4, h5, h6⟩ => ⟨h1, h2, fun b hb => hpq b (h3 b hb), xs, h4, h5, fun i a b => ExP.mono hpq (h6 i a b)⟩
theorem ExP.any {enc : XC → List Value} {p : Nat → Prop} {n : Nat} {w : World} {x : XC} {e : TX n} (h : ExP enc p n w x e) : ExP enc anyB n w x e := h.mono fun _ _ => trivial
theorem ExP.touch {enc : XC → List Value} {p : Nat → Prop} {fp : List Nat} : ∀ {n : Nat} {w w' : World} {x : XC} {e : TX n}, ExP enc p n w x e → Touch fp w w' → (∀ b ∈ fp, ¬ p b) → ExP enc p n w' x e
  | 0, _, _, _, _, h, _, _ => h.elim
  | _ + 1, _, _, _, _, ⟨h1, h2, h3, xs, h4, h5, h6⟩, ht, hp => ⟨h1, h2, h3, xs, h4, RdK.touch h5 ht (fun b hb hm => hp b hm (h3 b hb)), fun i a b => ExP.touch (h6 i a b) ht hp⟩
theorem ExP.touch0 {enc : XC → List Value} {p : Nat → Prop} {n : Nat} {w w' : World} {x : XC} {e : TX n} (h : ExP enc p n w x e) (ht : Touch [] w w') : ExP enc p n w' x e := h.touch ht (by simp)
/-- the Args of an expression lie so -/
def ArgsP (enc : XC → List Value) (p : Nat → Prop) (n : Nat) (w : World) (A : Option Addr) (args : List (TX n)) : Prop :=
  ∃ xs : List XC, xs.length = args.length ∧ RdK enc w A xs ∧ ∀ i (h1 : i < xs.length) (h2 : i < args.length), ExP enc p n w xs[i] args[i]
theorem ArgsP.touch0 {enc : XC → List Value} {p : Nat → Prop} {n : Nat} {w w' : World} {A : Option Addr} {args : List (TX n)} (h : ArgsP enc p n w A args) (ht : Touch [] w w') : ArgsP enc p n w' A args := by
  obtain ⟨xs, h1, h2, h3⟩ := h
  exact ⟨xs, h1, RdK.touch0 h2 ht, fun i a b => (h3 i a b).touch0 ht⟩
theorem ArgsP.nil (enc : XC → List Value) (p : Nat → Prop) (n : Nat) (w : World) (A : Option Addr) : ArgsP enc p n w A [] := ⟨[], rfl, RdK.nil _ _ _, fun i h => absurd h (by simp)⟩
/-- the cells of one of the Args -/
theorem ArgsP.at_ {enc : XC → List Value} (hE : ∀ x, (enc x).length = 7) {p : Nat → Prop} {n : Nat} {w : World} {A : Option Addr} {args : List (TX n)} (h : ArgsP enc p n w A args) (i : Nat) (hi : i < args.length) :
    ∃ ad b off x, A = some ad ∧ ad.add (i * 7) = ⟨b, off, none⟩ ∧ ExP enc p n w x args[i] ∧ ∀ j u, (enc x)[j]? = some u → w.cell? ⟨b, off + j, none⟩ = some u := by
  obtain ⟨xs, h1, h2, h3⟩ := h
  obtain ⟨ad, b, off, e1, e2, _, e3⟩ := RdK.at_ h2 7 hE (by omega) i (by omega)
  exact ⟨ad, b, off, xs[i], e1, e2, h3 i (by omega) hi, e3⟩
theorem ExP.args {enc : XC → List Value} {p : Nat → Prop} {n : Nat} {w : World} {x : XC} {e : TX (n + 1)} (h : ExP enc p (n + 1) w x e) : x.nd = e.1 ∧ x.n = e.2.length ∧ ArgsP enc p n w x.A e.2 := ⟨h.1, h.2.1, h.2.2.2⟩

/-- a thing of each expression holds throughout -/
def allX (q : ND → Prop) : (n : Nat) → TX n → Prop
  | 0, _ => True
  | n + 1, e => q e.1 ∧ ∀ a ∈ e.2, allX q n a
/-- how many expressions -/
def sizeX : (n : Nat) → TX n → Nat
  | 0, _ => 0
  | n + 1, e => 1 + (e.2.map (sizeX n)).sum
/-- .. in a row -/
def sumX (n : Nat) (l : List (TX n)) : Nat := (l.map (sizeX n)).sum
theorem sumX_snoc (n : Nat) (l : List (TX n)) (k : Nat) (h : k < l.length) : sumX n (l.take (k + 1)) = sumX n (l.take k) + sizeX n l[k] := by
  unfold sumX
  rw [List.take_succ_eq_append_getElem h, List.map_append, List.sum_append]; simp
theorem sizeX_succ (n : Nat) (e : TX (n + 1)) : sizeX (n + 1) e = 1 + sumX n e.2 := rfl
theorem sizeX_pos : ∀ (n : Nat) (e : TX n), 1 ≤ sizeX n e
  | 0, e => e.elim
  | n + 1, e => by unfold sizeX; omega
theorem len_le_sum (n : Nat) (l : List (TX n)) : l.length ≤ sumX n l := by
  unfold sumX
  induction l with
  | nil => simp
  | cons a l ih => have := sizeX_pos n a; simp; omega
theorem sum_take_le (n : Nat) (l : List (TX n)) (k : Nat) : sumX n (l.take k) ≤ sumX n l := by
  unfold sumX
  induction l generalizing k with
  | nil => simp
  | cons a l ih => cases k with
    | zero => simp
    | succ k => have := ih k; rw [List.take_succ_cons, List.map_cons, List.map_cons, List.sum_cons, List.sum_cons]; omega
theorem size_mem {n : Nat} {l : List (TX n)} {a : TX n} (h : a ∈ l) : sizeX n a ≤ sumX n l := by
  unfold sumX
  induction l with
  | nil => cases h
  | cons b l ih =>
    rcases List.mem_cons.1 h with rfl | h
    · simp
    · have := ih h; simp; omega
/-- what is handed over -/
def XC.val (x : XC) : Value := .agg #[.int .i64 x.nd.kind, .string x.nd.name, .int .i64 x.nd.v.kind, .int .i64 x.nd.v.num, .string x.nd.v.text, .string x.nd.op, .slice x.A x.n x.c]
def XC.valR (x : XC) : Value := .agg #[.int .i64 x.nd.kind, .string x.nd.name, .string x.nd.op, .int .i64 x.nd.v.kind, .int .i64 x.nd.v.num, .string x.nd.v.text, .slice x.A x.n x.c]
/-- are both one? -/
def eqN (a b : ND) : Bool := decide (a.kind = b.kind) && (decide (a.name = b.name) && ((decide (a.v.kind = b.v.kind) && (decide (a.v.num = b.v.num) && decide (a.v.text = b.v.text))) && decide (a.op = b.op)))
def eqL {α : Type} (f : α → α → Bool) : List α → List α → Bool
  | [], [] => true
  | a :: r, b :: s => f a b && eqL f r s
  | _, _ => false
def eqX : (n : Nat) → TX n → TX n → Bool
  | 0, _, _ => true
  | n + 1, a, b => eqN a.1 b.1 && eqL (eqX n) a.2 b.2
theorem eqN_iff (a b : ND) : eqN a b = true ↔ a = b := by
  obtain ⟨ak, an, ⟨x1, x2, x3⟩, ao⟩ := a
  obtain ⟨bk, bn, ⟨y1, y2, y3⟩, bo⟩ := b
  simp [eqN]
theorem eqL_iff {α : Type} {f : α → α → Bool} (hf : ∀ a b, f a b = true ↔ a = b) : ∀ l r : List α, eqL f l r = true ↔ l = r
  | [], [] => by simp [eqL]
  | [], _ :: _ => by simp [eqL]
  | _ :: _, [] => by simp [eqL]
  | a :: l, b :: r => by simp [eqL, hf, eqL_iff hf l r]
theorem eqX_iff : ∀ (n : Nat) (a b : TX n), eqX n a b = true ↔ a = b
  | 0, a, _ => a.elim
  | n + 1, a, b => by
    obtain ⟨d, l⟩ := a
    obtain ⟨f, r⟩ := b
    show (eqN d f && eqL (eqX n) l r) = true ↔ _
    rw [Bool.and_eq_true, eqN_iff, eqL_iff (eqX_iff n)]
    constructor
    · rintro ⟨rfl, rfl⟩; rfl
    · intro h; cases h; exact ⟨rfl, rfl⟩
end Go.Proofs.Ytlkckkagoommaaa
