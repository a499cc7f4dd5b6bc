/- expr.rules: the rules of a kind, as they lie in memory. For every kind. -/
import Derived.Test.YtlkckkagoommaaaTyped
import Derived.Test.YtlkckkagoommaaaNums
namespace Go.Proofs.Ytlkckkagoommaaa
open Go.RowKit

def IntsAt (w : World) (A : Option Addr) (l : List Int) : Prop := RdK inE w A l
theorem IntsAt.touch0 {w w' : World} {A : Option Addr} {l : List Int} (h : IntsAt w A l) (ht : Touch [] w w') : IntsAt w' A l := RdK.touch0 h ht
theorem IntsAt.at_ {w : World} {A : Option Addr} {l : List Int} (h : IntsAt w A l) (i : Nat) (hi : i < l.length) : ∃ ad, A = some ad ∧ w.cell? (ad.add i) = some (.int .i64 l[i]) := by
  obtain ⟨ad, b, off, e1, e2, _, e3⟩ := RdK.at_ h 1 inE_length (by omega) i hi
  rw [Nat.mul_one] at e2
  exact ⟨ad, e1, by rw [e2]; exact e3 0 _ rfl⟩
/-- a rule's cells -/
structure RC where
  name : ByteArray
  A : Option Addr
  n : Nat
  c : Nat
  out : Int
def ruE (r : RC) : List Value := [.string r.name, .slice r.A r.n r.c, .int .i64 r.out]
theorem ruE_length (r : RC) : (ruE r).length = 3 := rfl
/-- rules that lie there, in such blocks -/
def RulesAt (p : Nat → Prop) (w : World) (A : Option Addr) (rs : List RU) : Prop :=
  (∀ b ∈ fpo A, p b) ∧ ∃ cs : List RC, cs.length = rs.length ∧ RdK ruE w A cs ∧ ∀ i (h1 : i < cs.length) (h2 : i < rs.length), cs[i].name = rs[i].name ∧ cs[i].out = rs[i].out ∧ cs[i].n = rs[i].args.length ∧ IntsAt w cs[i].A rs[i].args ∧ ∀ b ∈ fpo cs[i].A, p b
theorem RulesAt.touch {p : Nat → Prop} {w w' : World} {A : Option Addr} {rs : List RU} {fp : List Nat} (h : RulesAt p w A rs) (ht : Touch fp w w') (hp : ∀ b ∈ fp, ¬ p b) : RulesAt p w' A rs := by
  obtain ⟨h0, cs, h1, h2, h3⟩ := h
  exact ⟨h0, cs, h1, RdK.touch h2 ht (fun b hb hm => hp b hm (h0 b hb)), fun i a b => ⟨(h3 i a b).1, (h3 i a b).2.1, (h3 i a b).2.2.1, RdK.touch (h3 i a b).2.2.2.1 ht (fun x hx hm => hp x hm ((h3 i a b).2.2.2.2 x hx)), (h3 i a b).2.2.2.2⟩⟩
theorem RulesAt.touch0 {p : Nat → Prop} {w w' : World} {A : Option Addr} {rs : List RU} (h : RulesAt p w A rs) (ht : Touch [] w w') : RulesAt p w' A rs := h.touch ht (by simp)
theorem RulesAt.at_ {p : Nat → Prop} {w : World} {A : Option Addr} {rs : List RU} (h : RulesAt p w A rs) (i : Nat) (hi : i < rs.length) :
    ∃ ad b off B c, A = some ad ∧ ad.add (i * 3) = ⟨b, off, none⟩ ∧ w.cell? ⟨b, off, none⟩ = some (.string rs[i].name) ∧ w.cell? ⟨b, off + 1, none⟩ = some (.slice B rs[i].args.length c) ∧ w.cell? ⟨b, off + 2, none⟩ = some (.int .i64 rs[i].out) ∧ IntsAt w B rs[i].args ∧ p b ∧ ∀ b ∈ fpo B, p b := by
  obtain ⟨h0, cs, h1, h2, h3⟩ := h
  obtain ⟨ad, b, off, e1, e2, e4, e3⟩ := RdK.at_ h2 3 ruE_length (by omega) i (by omega)
  obtain ⟨f1, f2, f3, f4, f5⟩ := h3 i (by omega) hi
  refine ⟨ad, b, off, cs[i].A, cs[i].c, e1, e2, ?_, ?_, ?_, f4, h0 b (by rw [e1, e4]; simp [fpo]), f5⟩
  · rw [← f1]; exact e3 0 _ rfl
  · rw [← f3]; exact e3 1 _ rfl
  · rw [← f2]; exact e3 2 _ rfl

/-- rows of numbers, laid one behind the other -/
def allocI : World → List (List Int) → World
  | w, [] => w
  | w, l :: r => allocI (w.alloc (.cells (l.flatMap inE).toArray 3)) r
theorem allocI_touch : ∀ (L : List (List Int)) (w : World), Touch [] w (allocI w L)
  | [], _ => Touch.refl _ _
  | _ :: r, w => ((Touch.refl [] w).alloc _).trans0 (allocI_touch r _)
theorem allocI_size : ∀ (L : List (List Int)) (w : World), (allocI w L).heap.size = w.heap.size + L.length
  | [], w => rfl
  | l :: r, w => by
    show (allocI _ r).heap.size = _
    rw [allocI_size r, World.size_alloc, List.length_cons]; omega
theorem allocI_at : ∀ (L : List (List Int)) (w : World) (i : Nat) (h : i < L.length), IntsAt (allocI w L) (some ⟨w.heap.size + i, 0, none⟩) L[i]
  | l :: r, w, 0, _ => (RdK.row w 3 l _ (by simp)).touch0 (allocI_touch r _)
  | l :: r, w, i + 1, h => by
    have := allocI_at r (w.alloc (.cells (l.flatMap inE).toArray 3)) i (by simpa using h)
    rw [World.size_alloc] at this
    have e : w.heap.size + 1 + i = w.heap.size + (i + 1) := by omega
    rw [e] at this
    exact this
def rcs (base : Nat) : List RU → List RC
  | [] => []
  | r :: s => ⟨r.name, some ⟨base, 0, none⟩, r.args.length, r.args.length, r.out⟩ :: rcs (base + 1) s
theorem rcs_len : ∀ (rs : List RU) (base : Nat), (rcs base rs).length = rs.length
  | [], _ => rfl
  | r :: s, base => by show (rcs (base + 1) s).length + 1 = _; rw [rcs_len s]; rfl
theorem rcs_at : ∀ (rs : List RU) (base i : Nat) (h1 : i < (rcs base rs).length) (h2 : i < rs.length), (rcs base rs)[i] = ⟨rs[i].name, some ⟨base + i, 0, none⟩, rs[i].args.length, rs[i].args.length, rs[i].out⟩
  | r :: s, base, 0, _, _ => rfl
  | r :: s, base, i + 1, h1, h2 => by
    have := rcs_at s (base + 1) i (by simpa [rcs] using h1) (by simpa using h2)
    have e : base + 1 + i = base + (i + 1) := by omega
    rw [e] at this
    exact this
theorem rules_laid (rs : List RU) (w : World) : RulesAt (fun b => w.heap.size ≤ b) ((allocI w (rs.map RU.args)).alloc (.cells ((rcs w.heap.size rs).flatMap ruE).toArray 114)) (some ⟨w.heap.size + rs.length, 0, none⟩) rs ∧
    Touch [] w ((allocI w (rs.map RU.args)).alloc (.cells ((rcs w.heap.size rs).flatMap ruE).toArray 114)) := by
  have ta := (Touch.refl [] (allocI w (rs.map RU.args))).alloc (.cells ((rcs w.heap.size rs).flatMap ruE).toArray 114)
  refine ⟨⟨fun b hb => by simp [fpo] at hb; omega, rcs w.heap.size rs, rcs_len _ _, ?_, fun i h1 h2 => ?_⟩, (allocI_touch _ _).trans0 ta⟩
  · have := RdK.row (enc := ruE) (allocI w (rs.map RU.args)) 114 (rcs w.heap.size rs) ((rcs w.heap.size rs).flatMap ruE).toArray (by simp)
    rw [allocI_size, List.length_map] at this
    exact this
  · rw [rcs_at rs w.heap.size i h1 h2]
    refine ⟨rfl, rfl, rfl, IntsAt.touch0 ?_ ta, fun b hb => by simp [fpo] at hb; omega⟩
    have := allocI_at (rs.map RU.args) w i (by simpa using h2)
    rw [List.getElem_map] at this
    exact this

set_option maxRecDepth 100000 in
set_option maxHeartbeats 1600000 in
theorem rules_any (k : Int) (w : World) :
    Calls Try.prog 79 #[.int .i64 k] w fun e w' => ∃ A c, e = .returned (.slice A (rulesV k).length c) ∧ RulesAt (fun b => w.heap.size ≤ b) w' A (rulesV k) ∧ Touch [] w w' := by
  by_cases h3 : k = 3
  · subst h3
    go_enter Try.func79, Try.ntmps79
    go_wp2_with fail
    go_ret
    exact ⟨_, _, rfl, (rules_laid (rulesV 3) w).1, (rules_laid (rulesV 3) w).2⟩
  by_cases h4 : k = 4
  · subst h4
    go_enter Try.func79, Try.ntmps79
    go_wp2_with fail
    go_ret
    exact ⟨_, _, rfl, (rules_laid (rulesV 4) w).1, (rules_laid (rulesV 4) w).2⟩
  by_cases h5 : k = 5
  · subst h5
    go_enter Try.func79, Try.ntmps79
    go_wp2_with fail
    go_ret
    exact ⟨_, _, rfl, (rules_laid (rulesV 5) w).1, (rules_laid (rulesV 5) w).2⟩
  · have e3 : (k == 3) = false := by simpa using h3
    have e4 : (k == 4) = false := by simpa using h4
    have e5 : (k == 5) = false := by simpa using h5
    have Hr := Lib.hid (show rulesV k = [] by unfold rulesV; rw [if_neg h3, if_neg h4, if_neg h5])
    clear h3 h4 h5
    go_enter Try.func79, Try.ntmps79
    go_wp2_with fail
    go_ret
    exact ⟨none, 0, by rw [Hr.out]; rfl, by rw [Hr.out]; exact ⟨by simp [fpo], [], rfl, RdK.nil _ _ _, fun i h => absurd h (by simp)⟩, Touch.refl _ _⟩
end Go.Proofs.Ytlkckkagoommaaa
