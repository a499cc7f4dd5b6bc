/- A region that draws its order in a round of a range over a function: it is walked as one outside a round. -/
import Derived.Test.YtoabloeechphkaaDoorRange
import Derived.OrdersHeld
import Derived.Deep.RegionHeld3
namespace Go.Proofs.YtoabloeechphkaaDoor
open Go.RowKit Go.Shelf

section
variable {P : Program} {ops : Array Oper} {Q : Exit → Act → World → Prop} {md : Region.Mode} {S S' : World → Prop} {l n : Nat}

/-- the end of the region alone -/
def Q1 (Q : Exit → Act → World → Prop) : Exit → Act → World → Prop := fun e a w => e = .normal ∧ Q .normal a w
theorem noOut (Q : Exit → Act → World → Prop) : ¬ LetsOut (Q1 Q) := fun ⟨_, _, h, _⟩ => by cases h
theorem rowsIn_of {row : String} {args : Array Value} {w : World} {R : Value → World → Prop} (h : Rows P row args w R) : RowsIn (Fence.wide.inRound l) n P row args w R := fun c cs _ =>
  let ⟨v, w', r, s⟩ := h c cs
  ⟨v, w', r, stepsIn_wide.2 s⟩
theorem callsIn_of {f : FuncId} {args : Array Value} {w : World} {R : Ending → World → Prop} (h : Calls P f args w R) : CallsIn (Fence.wide.inRound l) n P f args w R := CallsIn.inRound l (callsIn_wide.2 h)
theorem opIn_of {o : Oper} {a : Act} {w : World} {K : Act → World → Prop} (hnd : ∀ c, o.op ≠ .defer c) (h : o.wp P a w K (Q1 Q)) : o.wpIn (Fence.wide.inRound l) n P a w K Q := by
  refine ⟨fun _ _ => trivial, ?_⟩
  rw [Oper.semAt_eq _ _ _ hnd]
  unfold Oper.wp at h
  generalize (execOp a.eval o).run P w = r at *
  cases r with
  | ok x w' =>
    cases x <;> simp only [Oper.upon, Oper.uponIn] at h ⊢ <;> try exact h
    case enter f args =>
      refine ⟨fun h => by simp [Fence.wide] at h, (callsIn_of h).mono fun e w'' he => ?_⟩
      cases e with
      | returned v => exact he
      | panicked c => exact absurd he.1 (by simp)
      | outgrown => exact absurd he (noOut Q)
    case row row args => exact ⟨fun h => by simp [Fence.wide] at h, rowsIn_of h⟩
  | halt x w' =>
    cases x <;> simp only [Oper.upon, Oper.uponIn] at h ⊢
    case panic v => exact absurd h.1 (by simp)

def noDefer (o : Oper) : Bool := match o.op with | .defer _ => false | _ => true
theorem noDefer_ne {o : Oper} (h : noDefer o = true) (c) : o.op ≠ .defer c := fun e => by unfold noDefer at h; rw [e] at h; cases h

theorem anyIn_of_held (hnd : ∀ (i : Nat) o, ops[i]? = some o → noDefer o = true) : ∀ (fuel : Nat) (listed : Array Bool) (a : Act) (w : World), wpAnyH P md ops (Q1 Q) S fuel listed a w → wpAnyIn (Fence.wide.inRound l) n P md ops Q fuel listed a w
  | 0, _, _, _, h => ⟨h.1, h.2.2⟩
  | fuel + 1, listed, a, w, h => by
    refine ⟨fun e => (h.1 e).2, fun i hi => ?_⟩
    have h1 := h.2 i hi
    unfold wpOp at h1
    unfold wpOpIn
    rcases ho : ops[i]? with _ | o
    · simp only [ho] at h1 ⊢
      exact anyIn_of_held hnd fuel _ _ _ h1.2
    · simp only [ho] at h1 ⊢
      by_cases hw : Region.wanted o (yielded ops a.tmps) = true
      · rw [if_pos hw] at h1 ⊢
        rcases h1 with h1 | ⟨_, h1⟩
        · exact Oper.wpIn_mono (fun a' w' h2 => anyIn_of_held hnd fuel _ _ _ h2.2) (opIn_of (noDefer_ne (hnd i o ho)) h1)
        · exact absurd h1 (noOut Q)
      · rw [if_neg hw] at h1 ⊢
        exact ⟨fun _ _ => trivial, anyIn_of_held hnd fuel _ _ _ h1.2⟩

theorem region_round {id : Nat} {a : Act} {w : World} (hm : P.follows .mixedOrders = true) (hnd : ops.toList.all noDefer = true)
    (h : wpAnyH P .any ops (Q1 Q) S ops.size (Array.replicate ops.size false) a w.drew) : (Code.region id ops true).wpIn (Fence.wide.inRound l) n P Q a w :=
  wpIn_region_any hm (anyIn_of_held (fun i o ho => List.all_eq_true.1 hnd o (List.mem_of_getElem? (by rw [Array.getElem?_toList]; exact ho))) _ _ _ _ h)

/-- a walk that holds more holds less -/
theorem wpAnyH_weak (hS : ∀ w, S w → S' w) : ∀ (fuel : Nat) (listed : Array Bool) (a : Act) (w : World), wpAnyH P md ops Q S fuel listed a w → wpAnyH P md ops Q S' fuel listed a w
  | 0, _, _, _, h => h
  | fuel + 1, _, _, _, h => ⟨h.1, fun i hi => wpOp_mono (fun a' w' h' => ⟨hS w' h'.1, wpAnyH_weak hS fuel _ a' w' h'.2⟩) (h.2 i hi)⟩
/-- 'wpAnyH_take', the operation's temporary told by its number -/
theorem take_d {i d : Nat} {oi : Oper} {v : Value} {fuel : Nat} {listed : Array Bool} {a : Act} {w : World} (hi : ops[i]? = some oi) (hd : oi.dst = some d)
    (hs : Region.noSelect ops = true) (hf : Region.free md ops listed i = true) (hr : (Region.ready md ops listed).contains i = true)
    (hQ : ∀ c a w, Q (.panic c) (a.put oi.dst v) w → Q (.panic c) a w) (hy : YieldsIf P ops S oi v a) (hS : S w)
    (h : wpAnyH P md ops Q S fuel (listed.setIfInBounds i true) (a.put (some d) v) w) : wpAnyH P md ops Q S (fuel + 1) listed a w :=
  wpAnyH_take hi hs hf hr hQ hy hS (by rw [hd]; exact h)
theorem q1_panic (Q : Exit → Act → World → Prop) (c) (a b : Act) (w : World) : Q1 Q (.panic c) a w → Q1 Q (.panic c) b w := fun h => by cases h.1
end
end Go.Proofs.YtoabloeechphkaaDoor
