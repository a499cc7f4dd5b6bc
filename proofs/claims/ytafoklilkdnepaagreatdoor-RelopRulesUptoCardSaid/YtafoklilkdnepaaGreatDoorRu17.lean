/- Part 17 of the texts of this proof, one behind the other; each begins with its own sentence. No condition beyond those that its theorems state. -/
import Derived.Test.YtafoklilkdnepaaGreatDoorRu16
import Derived.OrdersHeld
import Derived.Deep.RegionHeld3
/- expr.rules: the rules of a kind, as they lie in memory. For every kind. -/
namespace Go.Proofs.YtafoklilkdnepaaGreatDoor
open Go.RowKit

def IntsAt (w : World) (A : Option Addr) (l : List Int) : Prop := RdK inE w A l
theorem IntsAt.touch0 {w w' : World} {A : Option Addr} {l : List Int} (h : IntsAt w A l) (ht : Touch [] w w') : IntsAt w' A l := RdK.touch0 h ht
theorem IntsAt.at_ {w : World} {A : Option Addr} {l : List Int} (h : IntsAt w A l) (i : Nat) (hi : i < l.length) : ∃ ad, A = some ad ∧ w.cell? (ad.add i) = some (.int .i64 l[i]) := by
 obtain ⟨ad, b, off, e1, e2, _, e3⟩ := RdK.at_ h 1 inE_length (by omega) i hi
 rw [Nat.mul_one] at e2
 exact ⟨ad, e1, by rw [e2]; exact e3 0 _ rfl⟩
/-- a rule's cells -/
structure RC where
 name : ByteArray
 A : Option Addr
 n : Nat
 c : Nat
 out : Int
def ruE (r : RC) : List Value := [.string r.name, .slice r.A r.n r.c, .int .i64 r.out]
theorem ruE_length (r : RC) : (ruE r).length = 3 := rfl
/-- rules that lie there, in such blocks -/
def RulesAt (p : Nat → Prop) (w : World) (A : Option Addr) (rs : List RU) : Prop :=
 (∀ b ∈ fpo A, p b) ∧ ∃ cs : List RC, cs.length = rs.length ∧ RdK ruE w A cs ∧ ∀ i (h1 : i < cs.length) (h2 : i < rs.length), cs[i].name = rs[i].name ∧ cs[i].out = rs[i].out ∧ cs[i].n = rs[i].args.length ∧ IntsAt w cs[i].A rs[i].args ∧ ∀ b ∈ fpo cs[i].A, p b
theorem RulesAt.touch {p : Nat → Prop} {w w' : World} {A : Option Addr} {rs : List RU} {fp : List Nat} (h : RulesAt p w A rs) (ht : Touch fp w w') (hp : ∀ b ∈ fp, ¬ p b) : RulesAt p w' A rs := by
 obtain ⟨h0, cs, h1, h2, h3⟩ := h
 exact ⟨h0, cs, h1, RdK.touch h2 ht (fun b hb hm => hp b hm (h0 b hb)), fun i a b => ⟨(h3 i a b).1, (h3 i a b).2.1, (h3 i a b).2.2.1, RdK.touch (h3 i a b).2.2.2.1 ht (fun x hx hm => hp x hm ((h3 i a b).2.2.2.2 x hx)), (h3 i a b).2.2.2.2⟩⟩
theorem RulesAt.touch0 {p : Nat → Prop} {w w' : World} {A : Option Addr} {rs : List RU} (h : RulesAt p w A rs) (ht : Touch [] w w') : RulesAt p w' A rs := h.touch ht (by simp)
theorem RulesAt.at_ {p : Nat → Prop} {w : World} {A : Option Addr} {rs : List RU} (h : RulesAt p w A rs) (i : Nat) (hi : i < rs.length) :
  ∃ ad b off B c, A = some ad ∧ ad.add (i * 3) = ⟨b, off, none⟩ ∧ w.cell? ⟨b, off, none⟩ = some (.string rs[i].name) ∧ w.cell? ⟨b, off + 1, none⟩ = some (.slice B rs[i].args.length c) ∧ w.cell? ⟨b, off + 2, none⟩ = some (.int .i64 rs[i].out) ∧ IntsAt w B rs[i].args ∧ p b ∧ ∀ b ∈ fpo B, p b := by
 obtain ⟨h0, cs, h1, h2, h3⟩ := h
 obtain ⟨ad, b, off, e1, e2, e4, e3⟩ := RdK.at_ h2 3 ruE_length (by omega) i (by omega)
 obtain ⟨f1, f2, f3, f4, f5⟩ := h3 i (by omega) hi
 refine ⟨ad, b, off, cs[i].A, cs[i].c, e1, e2, ?_, ?_, ?_, f4, h0 b (by rw [e1, e4]; simp [fpo]), f5⟩
 ·rw [← f1]; exact e3 0 _ rfl
 ·rw [← f3]; exact e3 1 _ rfl
 ·rw [← f2]; exact e3 2 _ rfl

/-- rows of numbers, laid one behind the other -/
def allocI : World → List (List Int) → World
 | w, [] => w
 | w, l :: r => allocI (w.alloc (.cells (l.flatMap inE).toArray 3)) r
theorem allocI_touch : ∀ (L : List (List Int)) (w : World), Touch [] w (allocI w L)
 | [], _ => Touch.refl _ _
 | _ :: r, w => ((Touch.refl [] w).alloc _).trans0 (allocI_touch r _)
theorem allocI_size : ∀ (L : List (List Int)) (w : World), (allocI w L).heap.size = w.heap.size + L.length
 | [], w => rfl
 | l :: r, w => by
  show (allocI _ r).heap.size = _
  rw [allocI_size r, World.size_alloc, List.length_cons]; omega
theorem allocI_at : ∀ (L : List (List Int)) (w : World) (i : Nat) (h : i < L.length), IntsAt (allocI w L) (some ⟨w.heap.size + i, 0, none⟩) L[i]
 | l :: r, w, 0, _ => (RdK.row w 3 l _ (by simp)).touch0 (allocI_touch r _)
 | l :: r, w, i + 1, h => by
  have := allocI_at r (w.alloc (.cells (l.flatMap inE).toArray 3)) i (by simpa using h)
  rw [World.size_alloc] at this
  have e : w.heap.size + 1 + i = w.heap.size + (i + 1) := by omega
  rw [e] at this
  exact this
def rcs (base : Nat) : List RU → List RC
 | [] => []
 | r :: s => ⟨r.name, some ⟨base, 0, none⟩, r.args.length, r.args.length, r.out⟩ :: rcs (base + 1) s
theorem rcs_len : ∀ (rs : List RU) (base : Nat), (rcs base rs).length = rs.length
 | [], _ => rfl
 | r :: s, base => by show (rcs (base + 1) s).length + 1 = _; rw [rcs_len s]; rfl
theorem rcs_at : ∀ (rs : List RU) (base i : Nat) (h1 : i < (rcs base rs).length) (h2 : i < rs.length), (rcs base rs)[i] = ⟨rs[i].name, some ⟨base + i, 0, none⟩, rs[i].args.length, rs[i].args.length, rs[i].out⟩
 | r :: s, base, 0, _, _ => rfl
 | r :: s, base, i + 1, h1, h2 => by
  have := rcs_at s (base + 1) i (by simpa [rcs] using h1) (by simpa using h2)
  have e : base + 1 + i = base + (i + 1) := by omega
  rw [e] at this
  exact this
theorem rules_laid (rs : List RU) (w : World) : RulesAt (fun b => w.heap.size ≤ b) ((allocI w (rs.map RU.args)).alloc (.cells ((rcs w.heap.size rs).flatMap ruE).toArray 202)) (some ⟨w.heap.size + rs.length, 0, none⟩) rs ∧
  Touch [] w ((allocI w (rs.map RU.args)).alloc (.cells ((rcs w.heap.size rs).flatMap ruE).toArray 202)) := by
 have ta := (Touch.refl [] (allocI w (rs.map RU.args))).alloc (.cells ((rcs w.heap.size rs).flatMap ruE).toArray 202)
 refine ⟨⟨fun b hb => by simp [fpo] at hb; omega, rcs w.heap.size rs, rcs_len _ _, ?_, fun i h1 h2 => ?_⟩, (allocI_touch _ _).trans0 ta⟩
 ·have := RdK.row (enc := ruE) (allocI w (rs.map RU.args)) 202 (rcs w.heap.size rs) ((rcs w.heap.size rs).flatMap ruE).toArray (by simp)
  rw [allocI_size, List.length_map] at this
  exact this
 ·rw [rcs_at rs w.heap.size i h1 h2]
  refine ⟨rfl, rfl, rfl, IntsAt.touch0 ?_ ta, fun b hb => by simp [fpo] at hb; omega⟩
  have := allocI_at (rs.map RU.args) w i (by simpa using h2)
  rw [List.getElem_map] at this
  exact this

set_option maxRecDepth 100000 in
set_option maxHeartbeats 1600000 in
theorem rules_any (k : Int) (w : World) :
  Calls Tryz.prog 179 #[.int .i64 k] w fun e w' => ∃ A c, e = .returned (.slice A (rulesV k).length c) ∧ RulesAt (fun b => w.heap.size ≤ b) w' A (rulesV k) ∧ Touch [] w w' := by
 by_cases h3 : k = 3
 ·subst h3
  go_enter Tryz.func179, Tryz.ntmps179
  go_wp2_with fail
  go_ret
  exact ⟨_, _, rfl, (rules_laid (rulesV 3) w).1, (rules_laid (rulesV 3) w).2⟩
 by_cases h4 : k = 4
 ·subst h4
  go_enter Tryz.func179, Tryz.ntmps179
  go_wp2_with fail
  go_ret
  exact ⟨_, _, rfl, (rules_laid (rulesV 4) w).1, (rules_laid (rulesV 4) w).2⟩
 by_cases h5 : k = 5
 ·subst h5
  go_enter Tryz.func179, Tryz.ntmps179
  go_wp2_with fail
  go_ret
  exact ⟨_, _, rfl, (rules_laid (rulesV 5) w).1, (rules_laid (rulesV 5) w).2⟩
 ·have e3 : (k == 3) = false := by simpa using h3
  have e4 : (k == 4) = false := by simpa using h4
  have e5 : (k == 5) = false := by simpa using h5
  have Hr := Lib.hid (show rulesV k = [] by unfold rulesV; rw [if_neg h3, if_neg h4, if_neg h5])
  clear h3 h4 h5
  go_enter Tryz.func179, Tryz.ntmps179
  go_wp2_with fail
  go_ret
  exact ⟨none, 0, by rw [Hr.out]; rfl, by rw [Hr.out]; exact ⟨by simp [fpo], [], rfl, RdK.nil _ _ _, fun i h => absurd h (by simp)⟩, Touch.refl _ _⟩
end Go.Proofs.YtafoklilkdnepaaGreatDoor

/- Rows of expressions of the calls' own: how one more comes to them. No program's function. -/
namespace Go.Proofs.YtafoklilkdnepaaGreatDoor
open Go.RowKit

/-- blocks behind a base that are there -/
def Fr (base : Nat) (w : World) : Nat → Prop := fun b => base ≤ b ∧ b < w.heap.size
/-- a row of expressions of the calls' own; what lies below it lies elsewhere -/
def OwnX (t : TypeId) (enc : XC → List Value) (base n : Nat) (w : World) (B : Option Addr) (c : Nat) (args : List (TX n)) : Prop :=
 ∃ xs : List XC, xs.length = args.length ∧ OwnK t 7 enc w B c xs ∧ (∀ b ∈ fpo B, base ≤ b) ∧ ∀ i (h1 : i < xs.length) (h2 : i < args.length), ExP enc (fun b => Fr base w b ∧ b ∉ fpo B) n w xs[i] args[i]
theorem OwnX.nil (t : TypeId) (enc : XC → List Value) (base n : Nat) (w : World) : OwnX t enc base n w none 0 [] := ⟨[], rfl, OwnK.nil _ _ _ _, by simp [fpo], fun i h => absurd h (by simp)⟩
theorem OwnX.lt {t : TypeId} {enc : XC → List Value} {base n : Nat} {w : World} {B : Option Addr} {c : Nat} {args : List (TX n)} (h : OwnX t enc base n w B c args) : ∀ b ∈ fpo B, base ≤ b ∧ b < w.heap.size := by
 obtain ⟨xs, _, h2, h3, _⟩ := h
 exact fun b hb => ⟨h3 b hb, h2.lt b hb⟩
theorem OwnX.touch {t : TypeId} {enc : XC → List Value} {base n : Nat} {w w' : World} {B : Option Addr} {c : Nat} {args : List (TX n)} {fp : List Nat} (h : OwnX t enc base n w B c args) (ht : Touch fp w w') (hfp : ∀ b ∈ fp, b < base) : OwnX t enc base n w' B c args := by
 obtain ⟨xs, h1, h2, h3, h4⟩ := h
 exact ⟨xs, h1, h2.touch ht (fun b hb hm => by have := hfp b hm; have := h3 b hb; omega), h3, fun i a b => ((h4 i a b).touch ht (fun b hb hp => by have := hfp b hb; have := hp.1.1; omega)).mono (fun b hb => ⟨⟨hb.1.1, Nat.lt_of_lt_of_le hb.1.2 ht.size⟩, hb.2⟩)⟩
theorem OwnX.touch0 {t : TypeId} {enc : XC → List Value} {base n : Nat} {w w' : World} {B : Option Addr} {c : Nat} {args : List (TX n)} (h : OwnX t enc base n w B c args) (ht : Touch [] w w') : OwnX t enc base n w' B c args := h.touch ht (by simp)
theorem OwnX.tree {t : TypeId} {enc : XC → List Value} {base n : Nat} {w : World} {B : Option Addr} {c : Nat} {args : List (TX n)} (h : OwnX t enc base n w B c args) (nd : ND) (m : Nat) (hm : m = args.length) : ExP enc (Fr base w) (n + 1) w ⟨nd, B, m, c⟩ (nd, args) := by
 have hlt := h.lt
 obtain ⟨xs, h1, h2, _, h4⟩ := h
 exact ⟨rfl, hm, hlt, xs, h1, h2.rd, fun i a b => (h4 i a b).mono fun b hb => hb.1⟩
theorem OwnX.base {t : TypeId} {enc : XC → List Value} {base base' n : Nat} {w : World} {B : Option Addr} {c : Nat} {args : List (TX n)} (h : OwnX t enc base n w B c args) (hb : base' ≤ base) : OwnX t enc base' n w B c args := by
 obtain ⟨xs, h1, h2, h3, h4⟩ := h
 exact ⟨xs, h1, h2, fun b hbm => by have := h3 b hbm; omega, fun i a b => (h4 i a b).mono fun b hp => ⟨⟨by have := hp.1.1; omega, hp.1.2⟩, hp.2⟩⟩

/-- append of one more expression -/
theorem wpList_appX {enc : XC → List Value} (hE : ∀ x, (enc x).length = 7) (hone : ∀ x, ∀ u ∈ enc x, u.oneCell' = true) {w : World} {ops : Array Oper} {rest : List Oper} {o : Oper} {a : Act} {Q : Exit → Act → World → Prop} (hgd : o.guard = none) (s y : Operand) (t : TypeId)
  (ho : o.op = .call { callee := .builtin .append, args := #[s, y], argTypes := #[t, t] })
  (e : TypeId) (z : Value) (bytes : Nat) (hinfo : (Tryz.prog.info? e).map (fun i => (i.zero, i.size, i.bytes)) = some (some z, 7, bytes)) (ht : Tryz.prog.underlying t = some (.slice e)) (hzs : z.cells.size = 7) (hby : bytes ≤ 1000)
  (base n : Nat) (B : Option Addr) (m c : Nat) (args : List (TX n)) (hm : args.length = m) (hs : a.eval s = .slice B m c) (hown : OwnX e enc base n w B c args)
  (x : XC) (r : TX n) (hx : ExP enc (fun b => Fr base w b ∧ b ∉ fpo B) n w x r) (hbase : base ≤ w.heap.size)
  (g : Nat) (hy : a.eval y = .slice (some ⟨w.heap.size, 0, none⟩) 1 g) (h63 : m + 1 ≤ 1000000000) {cs : Array Value} (hcs : cs.toList = enc x)
  (h : ∀ B' c' w', OwnX e enc base n w' B' c' (args ++ [r]) → Touch (fpo B) w w' → (∀ b ∈ fpo B', b ∈ fpo B ∨ w.heap.size < b) → wpList Tryz.prog ops Q rest (a.put o.dst (.slice B' (m + 1) c')) w') :
  wpList Tryz.prog ops Q (o :: rest) a (w.alloc (.cells cs e)) := by
 obtain ⟨xs, h1, h2, h3, h4⟩ := hown
 have ta := (Touch.refl [] w).alloc (.cells cs e)
 refine wpList_appK (enc := enc) hgd s y t ho e z 7 bytes hinfo ht hzs (by omega) hE hone B m c xs (by rw [h1, hm]) hs (h2.touch0 ta)
  (some ⟨w.heap.size, 0, none⟩) 1 g [x] rfl hy (RdK.one (enc := enc) w e x cs hcs) h63 hby ?_
 intro B' c' w' hown' t' hf'
 rw [World.size_alloc] at hf'
 have hw := t'.size
 rw [World.size_alloc] at hw
 have hlt := h2.lt
 have tt : Touch (fpo B) w w' := (ta.mono (fp2 := fpo B) (fun b hb => by simp at hb)).trans t' (fun b hb => .inl hb)
 have key : ∀ {x : XC} {r : TX n}, ExP enc (fun b => Fr base w b ∧ b ∉ fpo B) n w x r → ExP enc (fun b => Fr base w' b ∧ b ∉ fpo B') n w' x r := fun hx =>
  (hx.touch tt (fun b hb hp => hp.2 hb)).mono fun b hp => ⟨⟨hp.1.1, by have := hp.1.2; omega⟩, fun hm => by
   rcases hf' b hm with q | q
   ·exact hp.2 q
   ·have := hp.1.2; omega⟩
 refine h B' c' w' ⟨xs ++ [x], by simp [h1], hown', fun b hb => ?_, fun i a1 b1 => ?_⟩ tt (fun b hb => ?_)
 ·rcases hf' b hb with q | q
  ·exact h3 b q
  ·omega
 ·by_cases hi : i < xs.length
  ·have hi2 : i < args.length := by rw [← h1]; exact hi
   rw [List.getElem_append_left hi, List.getElem_append_left hi2]
   exact key (h4 i hi hi2)
  ·have hi' : i = xs.length := by rw [List.length_append] at a1; simp at a1; omega
   subst hi'
   have e1 : (xs ++ [x])[xs.length] = x := by rw [List.getElem_append_right (Nat.le_refl _)]; simp
   have e2 : (args ++ [r])[xs.length] = r := by rw [List.getElem_append_right (by rw [h1]; exact Nat.le_refl _)]; simp [h1]
   rw [e1, e2]
   exact key hx
 ·rcases hf' b hb with q | q
  ·exact .inl q
  ·exact .inr (by omega)
/-- the same as one step of a region that draws its order -/
theorem step_appX {enc : XC → List Value} (hE : ∀ x, (enc x).length = 7) (hone : ∀ x, ∀ u ∈ enc x, u.oneCell' = true) {w : World} {ops : Array Oper} {o : Oper} {a : Act} {K : Act → World → Prop} {Q : Exit → Act → World → Prop} {E : Prop} (hgd : o.guard = none) (s y : Operand) (t : TypeId)
  (ho : o.op = .call { callee := .builtin .append, args := #[s, y], argTypes := #[t, t] })
  (e : TypeId) (z : Value) (bytes : Nat) (hinfo : (Tryz.prog.info? e).map (fun i => (i.zero, i.size, i.bytes)) = some (some z, 7, bytes)) (ht : Tryz.prog.underlying t = some (.slice e)) (hzs : z.cells.size = 7) (hby : bytes ≤ 1000)
  (base n : Nat) (B : Option Addr) (m c : Nat) (args : List (TX n)) (hm : args.length = m) (hs : a.eval s = .slice B m c) (hown : OwnX e enc base n w B c args)
  (x : XC) (r : TX n) (hx : ExP enc (fun b => Fr base w b ∧ b ∉ fpo B) n w x r) (hbase : base ≤ w.heap.size)
  (g : Nat) (hy : a.eval y = .slice (some ⟨w.heap.size, 0, none⟩) 1 g) (h63 : m + 1 ≤ 1000000000) {cs : Array Value} (hcs : cs.toList = enc x)
  (h : ∀ B' c' w', OwnX e enc base n w' B' c' (args ++ [r]) → Touch (fpo B) w w' → (∀ b ∈ fpo B', b ∈ fpo B ∨ w.heap.size < b) → K (a.put o.dst (.slice B' (m + 1) c')) w') :
  if Region.wanted o (yielded ops a.tmps) = true then Oper.wp Tryz.prog o a (w.alloc (.cells cs e)) K Q else E := by
 obtain ⟨xs, h1, h2, h3, h4⟩ := hown
 have ta := (Touch.refl [] w).alloc (.cells cs e)
 refine step_appK (enc := enc) hgd s y t ho e z 7 bytes hinfo ht hzs (by omega) hE hone B m c xs (by rw [h1, hm]) hs (h2.touch0 ta)
  (some ⟨w.heap.size, 0, none⟩) 1 g [x] rfl hy (RdK.one (enc := enc) w e x cs hcs) h63 hby ?_
 intro B' c' w' hown' t' hf'
 rw [World.size_alloc] at hf'
 have hw := t'.size
 rw [World.size_alloc] at hw
 have hlt := h2.lt
 have tt : Touch (fpo B) w w' := (ta.mono (fp2 := fpo B) (fun b hb => by simp at hb)).trans t' (fun b hb => .inl hb)
 have key : ∀ {x : XC} {r : TX n}, ExP enc (fun b => Fr base w b ∧ b ∉ fpo B) n w x r → ExP enc (fun b => Fr base w' b ∧ b ∉ fpo B') n w' x r := fun hx =>
  (hx.touch tt (fun b hb hp => hp.2 hb)).mono fun b hp => ⟨⟨hp.1.1, by have := hp.1.2; omega⟩, fun hm => by
   rcases hf' b hm with q | q
   ·exact hp.2 q
   ·have := hp.1.2; omega⟩
 refine h B' c' w' ⟨xs ++ [x], by simp [h1], hown', fun b hb => ?_, fun i a1 b1 => ?_⟩ tt (fun b hb => ?_)
 ·rcases hf' b hb with q | q
  ·exact h3 b q
  ·omega
 ·by_cases hi : i < xs.length
  ·have hi2 : i < args.length := by rw [← h1]; exact hi
   rw [List.getElem_append_left hi, List.getElem_append_left hi2]
   exact key (h4 i hi hi2)
  ·have hi' : i = xs.length := by rw [List.length_append] at a1; simp at a1; omega
   subst hi'
   have e1 : (xs ++ [x])[xs.length] = x := by rw [List.getElem_append_right (Nat.le_refl _)]; simp
   have e2 : (args ++ [r])[xs.length] = r := by rw [List.getElem_append_right (by rw [h1]; exact Nat.le_refl _)]; simp [h1]
   rw [e1, e2]
   exact key hx
 ·rcases hf' b hb with q | q
  ·exact .inl q
  ·exact .inr (by omega)
/-- a struct of seven cells is written -/
theorem out7 {X : World} {R : Nat} {t : TypeId} {a0 a1 a2 a3 a4 a5 a6 : Value} (h : X.heap[R]? = some (.cells #[a0, a1, a2, a3, a4, a5, a6] t (0, 0))) (v0 v1 v2 v3 v4 v5 v6 : Value) :
  (((((((X.setCell ⟨R, 0, none⟩ v0).setCell ⟨R, 1, none⟩ v1).setCell ⟨R, 2, none⟩ v2).setCell ⟨R, 3, none⟩ v3).setCell ⟨R, 4, none⟩ v4).setCell ⟨R, 5, none⟩ v5).setCell ⟨R, 6, none⟩ v6).heap[R]? = some (.cells #[v0, v1, v2, v3, v4, v5, v6] t (0, 0)) ∧ Touch [R] X (((((((X.setCell ⟨R, 0, none⟩ v0).setCell ⟨R, 1, none⟩ v1).setCell ⟨R, 2, none⟩ v2).setCell ⟨R, 3, none⟩ v3).setCell ⟨R, 4, none⟩ v4).setCell ⟨R, 5, none⟩ v5).setCell ⟨R, 6, none⟩ v6) := by
 have t := Touch.refl [R] X
 have h0 := set_blk h 0 v0
 have t := t.setCell (p := ⟨R, 0, none⟩) (.inl (by simp)) v0
 simp only [List.setIfInBounds_toArray, List.set_cons_zero] at h0
 have h1 := set_blk h0 1 v1
 have t := t.setCell (p := ⟨R, 1, none⟩) (.inl (by simp)) v1
 simp only [List.setIfInBounds_toArray, List.set_cons_zero, List.set_cons_succ] at h1
 have h2 := set_blk h1 2 v2
 have t := t.setCell (p := ⟨R, 2, none⟩) (.inl (by simp)) v2
 simp only [List.setIfInBounds_toArray, List.set_cons_zero, List.set_cons_succ] at h2
 have h3 := set_blk h2 3 v3
 have t := t.setCell (p := ⟨R, 3, none⟩) (.inl (by simp)) v3
 simp only [List.setIfInBounds_toArray, List.set_cons_zero, List.set_cons_succ] at h3
 have h4 := set_blk h3 4 v4
 have t := t.setCell (p := ⟨R, 4, none⟩) (.inl (by simp)) v4
 simp only [List.setIfInBounds_toArray, List.set_cons_zero, List.set_cons_succ] at h4
 have h5 := set_blk h4 5 v5
 have t := t.setCell (p := ⟨R, 5, none⟩) (.inl (by simp)) v5
 simp only [List.setIfInBounds_toArray, List.set_cons_zero, List.set_cons_succ] at h5
 have h6 := set_blk h5 6 v6
 have t := t.setCell (p := ⟨R, 6, none⟩) (.inl (by simp)) v6
 simp only [List.setIfInBounds_toArray, List.set_cons_zero, List.set_cons_succ] at h6
 exact ⟨h6, t⟩
theorem blk7 {w : World} {R : Nat} {t : TypeId} {a0 a1 a2 a3 a4 a5 a6 : Value} (h : w.heap[R]? = some (.cells #[a0, a1, a2, a3, a4, a5, a6] t (0, 0))) :
  w.cell? ⟨R, 0, none⟩ = some a0 ∧ w.cell? ⟨R, 1, none⟩ = some a1 ∧ w.cell? ⟨R, 2, none⟩ = some a2 ∧ w.cell? ⟨R, 3, none⟩ = some a3 ∧ w.cell? ⟨R, 4, none⟩ = some a4 ∧ w.cell? ⟨R, 5, none⟩ = some a5 ∧ w.cell? ⟨R, 6, none⟩ = some a6 ∧ w.frozen? ⟨R, 0, none⟩ = false ∧ w.frozen? ⟨R, 1, none⟩ = false ∧ w.frozen? ⟨R, 2, none⟩ = false ∧ w.frozen? ⟨R, 3, none⟩ = false ∧ w.frozen? ⟨R, 4, none⟩ = false ∧ w.frozen? ⟨R, 5, none⟩ = false ∧ w.frozen? ⟨R, 6, none⟩ = false :=
 ⟨cell_blk h rfl, cell_blk h rfl, cell_blk h rfl, cell_blk h rfl, cell_blk h rfl, cell_blk h rfl, cell_blk h rfl, by simp [World.frozen?, h], by simp [World.frozen?, h], by simp [World.frozen?, h], by simp [World.frozen?, h], by simp [World.frozen?, h], by simp [World.frozen?, h], by simp [World.frozen?, h]⟩
end Go.Proofs.YtafoklilkdnepaaGreatDoor

/- value.Of, value.Null, value.Text, value.Value.True, expr.bit: small functions on values. -/
namespace Go.Proofs.YtafoklilkdnepaaGreatDoor
open Go.RowKit

/-- a struct of three cells is written -/
theorem out3 {X : World} {R : Nat} {t : TypeId} {a0 a1 a2 : Value} (h : X.heap[R]? = some (.cells #[a0, a1, a2] t (0, 0))) (v0 v1 v2 : Value) :
  (((X.setCell ⟨R, 0, none⟩ v0).setCell ⟨R, 1, none⟩ v1).setCell ⟨R, 2, none⟩ v2).heap[R]? = some (.cells #[v0, v1, v2] t (0, 0)) ∧ Touch [R] X (((X.setCell ⟨R, 0, none⟩ v0).setCell ⟨R, 1, none⟩ v1).setCell ⟨R, 2, none⟩ v2) :=
 ⟨set_blk (set_blk (set_blk h 0 v0) 1 v1) 2 v2, (((Touch.refl [R] X).setCell (p := ⟨R, 0, none⟩) (.inl (by simp)) v0).setCell (p := ⟨R, 1, none⟩) (.inl (by simp)) v1).setCell (p := ⟨R, 2, none⟩) (.inl (by simp)) v2⟩
theorem blk3x {w : World} {R : Nat} {a b c : Value} {t : TypeId} (h : w.heap[R]? = some (.cells #[a, b, c] t (0, 0))) : w.cell? ⟨R, 0, none⟩ = some a ∧ w.cell? ⟨R, 1, none⟩ = some b ∧ w.cell? ⟨R, 2, none⟩ = some c ∧
  w.frozen? ⟨R, 0, none⟩ = false ∧ w.frozen? ⟨R, 1, none⟩ = false ∧ w.frozen? ⟨R, 2, none⟩ = false :=
 ⟨cell_blk h rfl, cell_blk h rfl, cell_blk h rfl, by simp [World.frozen?, h], by simp [World.frozen?, h], by simp [World.frozen?, h]⟩

set_option maxRecDepth 20000 in
theorem of_any (n : Int) (w : World) : Calls Tryz.prog 11 #[.int .i64 n] w fun e w' => e = .returned (ofV n).val ∧ Touch [] w w' := by
 dsimp only [VD.val, ofV]
 go_enter Tryz.func11, Tryz.ntmps11
 go_wp2_with fail
 exact bodyPost_ret (results_cell_row rfl _ _ w.heap.size _ _ _ _ rfl (heap_alloc_new w _) Tryz.underlying31 rfl rfl) rfl ⟨rfl, (Touch.refl _ _).alloc _⟩
set_option maxRecDepth 20000 in
theorem vnull_any (w : World) : Calls Tryz.prog 173 #[] w fun e w' => e = .returned zeroV.val ∧ Touch [] w w' := by
 dsimp only [VD.val, zeroV]
 go_enter Tryz.func173, Tryz.ntmps173
 go_wp2_with fail
 exact bodyPost_ret (results_cell_row rfl _ _ w.heap.size _ _ _ _ rfl (heap_alloc_new w _) Tryz.underlying31 rfl rfl) rfl ⟨rfl, (Touch.refl _ _).alloc _⟩
set_option maxRecDepth 20000 in
theorem text_any (s : ByteArray) (w : World) : Calls Tryz.prog 185 #[.string s] w fun e w' => e = .returned (VD.val ⟨2, 0, s⟩) ∧ Touch [] w w' := by
 dsimp only [VD.val]
 go_enter Tryz.func185, Tryz.ntmps185
 go_wp2_with fail
 exact bodyPost_ret (results_cell_row rfl _ _ w.heap.size _ _ _ _ rfl (heap_alloc_new w _) Tryz.underlying31 rfl rfl) rfl ⟨rfl, (Touch.refl _ _).alloc _⟩
set_option maxRecDepth 20000 in
theorem true_any (v : VD) (w : World) : Calls Tryz.prog 132 #[v.val] w fun e w' => e = .returned (.bool v.tru) ∧ Touch [] w w' := by
 obtain ⟨k, n, s⟩ := v
 dsimp only [VD.val]
 have t0 := (Touch.refl [] w).alloc (.cells #[.int .i64 k, .int .i64 n, .string s] 31)
 by_cases h1 : k = 1
 ·have hk : (k == 1) = true := by simpa using h1
  by_cases h0 : n = 0
  ·have hn : (n != 0) = false := by simpa using h0
   have Hf := Lib.hid (show VD.tru ⟨k, n, s⟩ = false by simp [VD.tru, h0])
   clear h0 h1
   go_enter Tryz.func132, Tryz.ntmps132
   go_wp2_with fail
   go_ret
   exact ⟨by rw [Hf.out]; rfl, t0⟩
  ·have hn : (n != 0) = true := by simpa using h0
   have Hf := Lib.hid (show VD.tru ⟨k, n, s⟩ = true by simp [VD.tru, h0, h1])
   clear h0 h1
   go_enter Tryz.func132, Tryz.ntmps132
   go_wp2_with fail
   go_ret
   exact ⟨by rw [Hf.out]; rfl, t0⟩
 ·have hk : (k == 1) = false := by simpa using h1
  have Hf := Lib.hid (show VD.tru ⟨k, n, s⟩ = false by simp [VD.tru, h1])
  clear h1
  go_enter Tryz.func132, Tryz.ntmps132
  go_wp2_with fail
  go_ret
  exact ⟨by rw [Hf.out]; rfl, t0⟩
set_option maxRecDepth 20000 in
theorem bit_any (b : Bool) (w : World) : Calls Tryz.prog 183 #[.bool b] w fun e w' => e = .returned (bitV b).val ∧ Touch [] w w' := by
 have h1 := Lib.hid fun w' => of_any 1 w'
 have h0 := Lib.hid fun w' => of_any 0 w'
 simp only [VD.val, ofV] at h1 h0
 have t0 := (Touch.refl [] w).alloc (.cells #[.int .i64 0, .int .i64 0, .string ⟨#[]⟩] 31)
 have hb := heap_alloc_new w (.cells #[.int .i64 0, .int .i64 0, .string ⟨#[]⟩] 31)
 have Hb := Lib.hid hb
 clear hb
 cases b
 ·simp only [bitV, VD.val, ofV]
  go_enter Tryz.func183, Tryz.ntmps183
  go_wp2_with fail
  refine (h0.out _).mono ?_
  rintro e w1 ⟨rfl, t1⟩
  have hb1 := t1.blk Hb.out (by simp)
  obtain ⟨c0, c1, c2, f0, f1, f2⟩ := blk3x hb1
  go_wp2_with fail
  obtain ⟨q1, q2⟩ := out3 hb1 (.int .i64 1) (.int .i64 0) (.string (S []))
  exact bodyPost_ret (results_cell_row rfl _ _ w.heap.size _ _ _ _ rfl q1 Tryz.underlying31 rfl rfl) rfl ⟨rfl, (t0.trans0 t1).trans q2 (fun b hb => .inr (by simp at hb; omega))⟩
 ·simp only [bitV, VD.val, ofV]
  go_enter Tryz.func183, Tryz.ntmps183
  go_wp2_with fail
  refine (h1.out _).mono ?_
  rintro e w1 ⟨rfl, t1⟩
  have hb1 := t1.blk Hb.out (by simp)
  obtain ⟨c0, c1, c2, f0, f1, f2⟩ := blk3x hb1
  go_wp2_with fail
  obtain ⟨q1, q2⟩ := out3 hb1 (.int .i64 1) (.int .i64 1) (.string (S []))
  exact bodyPost_ret (results_cell_row rfl _ _ w.heap.size _ _ _ _ rfl q1 Tryz.underlying31 rfl rfl) rfl ⟨rfl, (t0.trans0 t1).trans q2 (fun b hb => .inr (by simp at hb; omega))⟩
end Go.Proofs.YtafoklilkdnepaaGreatDoor

/- A region that draws its order, walked by hand under a condition on the world that may change on the way. No program's function. -/
namespace Go.Proofs.YtafoklilkdnepaaGreatDoor
open Go.RowKit

section
variable {P : Program} {ops : Array Oper} {Q : Exit → Act → World → Prop} {md : Region.Mode} {S S' : World → Prop}
/-- a walk that holds more holds less -/
theorem wpAnyH_weak (hS : ∀ w, S w → S' w) : ∀ (fuel : Nat) (listed : Array Bool) (a : Act) (w : World), wpAnyH P md ops Q S fuel listed a w → wpAnyH P md ops Q S' fuel listed a w
 | 0, _, _, _, h => h
 | fuel + 1, _, _, _, h => ⟨h.1, fun i hi => wpOp_mono (fun a' w' h' => ⟨hS w' h'.1, wpAnyH_weak hS fuel _ a' w' h'.2⟩) (h.2 i hi)⟩
/-- 'wpAnyH_take', the operation's temporary told by its number -/
theorem take_d {i d : Nat} {oi : Oper} {v : Value} {fuel : Nat} {listed : Array Bool} {a : Act} {w : World} (hi : ops[i]? = some oi) (hd : oi.dst = some d)
  (hs : Region.noSelect ops = true) (hf : Region.free md ops listed i = true) (hr : (Region.ready md ops listed).contains i = true)
  (hQ : ∀ c a w, Q (.panic c) (a.put oi.dst v) w → Q (.panic c) a w) (hy : YieldsIf P ops S oi v a) (hS : S w)
  (h : wpAnyH P md ops Q S fuel (listed.setIfInBounds i true) (a.put (some d) v) w) : wpAnyH P md ops Q S (fuel + 1) listed a w :=
 wpAnyH_take hi hs hf hr hQ hy hS (by rw [hd]; exact h)
end
end Go.Proofs.YtafoklilkdnepaaGreatDoor
