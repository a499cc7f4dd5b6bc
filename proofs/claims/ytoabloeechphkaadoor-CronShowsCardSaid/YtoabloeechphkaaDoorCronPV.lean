/- The spec of a text, in plain words, as the program reads it. -/
import Derived.Test.YtoabloeechphkaaDoorCronItem
import Derived.Test.YtoabloeechphkaaDoorCronDay
import Derived.Test.YtoabloeechphkaaDoorSchP
namespace Go.Proofs.YtoabloeechphkaaDoor

def zeroC : SD := ⟨fun _ => 0, fun _ => false⟩
def SD.put (c : SD) (f s : Nat) (a : Bool) : SD := ⟨fun i => if i = f then s else c.set i, fun i => if i = f then a else c.any i⟩
/-- the pieces that hold something -/
def ne (l : List (List UInt8)) : List (List UInt8) := l.filter fun p => !decide (p = [])
/-- items one behind the other: the first error, or all their numbers -/
def itemsV (f : Nat) : List (List UInt8) → Nat → Int × Nat
  | [], s => (0, s)
  | x :: r, s => if (itemV f x).2 = 0 then itemsV f r (s ||| (itemV f x).1) else ((itemV f x).2, s)
def fieldV (f : Nat) (p : List UInt8) (c : SD) : Int × SD :=
  if p = [42] then (0, c.put f (fullV f) true) else ((itemsV f (splitV p [44]) (c.set f)).1, c.put f (itemsV f (splitV p [44]) (c.set f)).2 (c.any f))
def fieldsV : Nat → List (List UInt8) → SD → Int × SD
  | _, [], c => (0, c)
  | f, p :: r, c => if (fieldV f p c).1 = 0 then fieldsV (f + 1) r (fieldV f p c).2 else fieldV f p c
def badF (s : List UInt8) : Bool := !decide ((ne (splitV s [32])).length = 5) || (Lib.hasPrefix s [32] || Lib.hasSuffix s [32])
/-- the spec of a text, or its error -/
def parseC (s : List UInt8) : Int × SD :=
  if badF s = true then (20, zeroC) else if (fieldsV 0 (ne (splitV s [32])) zeroC).1 = 0 then fieldsV 0 (ne (splitV s [32])) zeroC else ((fieldsV 0 (ne (splitV s [32])) zeroC).1, zeroC)
theorem ne_snoc (l : List (List UInt8)) (x : List UInt8) : ne (l ++ [x]) = ne l ++ if x = [] then [] else [x] := by
  unfold ne
  rw [List.filter_append]
  by_cases h : x = [] <;> simp [h]
theorem itemV_cases (f : Nat) (s : List UInt8) : (itemV f s).2 = 0 ∨ (itemV f s).2 = 20 ∨ (itemV f s).2 = 30 := by
  have ht : ∀ lo hi fr to st, (tailV lo hi fr to st).2 = 0 ∨ (tailV lo hi fr to st).2 = 20 ∨ (tailV lo hi fr to st).2 = 30 := fun lo hi fr to st => by
    unfold tailV; split <;> simp
  have hp : ∀ lo hi st q, (pairV lo hi st q).2 = 0 ∨ (pairV lo hi st q).2 = 20 ∨ (pairV lo hi st q).2 = 30 := fun lo hi st q => by
    unfold pairV
    simp only
    generalize (if q.2.2 = true then numV q.2.1 else numV q.1) = to
    split
    · simp
    · exact ht _ _ _ _ _
  have hs : ∀ lo hi st q, (spanV lo hi st q).2 = 0 ∨ (spanV lo hi st q).2 = 20 ∨ (spanV lo hi st q).2 = 30 := fun lo hi st q => by
    unfold spanV
    split
    · exact ht _ _ _ _ _
    · exact hp _ _ _ _
  unfold itemV
  simp only
  split
  · split
    · simp
    · exact hs _ _ _ _
  · exact hs _ _ _ _
theorem itemV_lt (f : Nat) (s : List UInt8) : (itemV f s).1 < 18446744073709551616 := by
  have ht : ∀ lo hi fr to st, (tailV lo hi fr to st).1 < 18446744073709551616 := fun lo hi fr to st => by
    unfold tailV; split
    · exact Nat.zero_lt_of_lt (rowV_lt 0 0 0)
    · exact rowV_lt _ _ _
  have hz : (0 : Nat) < 18446744073709551616 := Nat.zero_lt_of_lt (rowV_lt 0 0 0)
  have hp : ∀ lo hi st q, (pairV lo hi st q).1 < 18446744073709551616 := fun lo hi st q => by
    unfold pairV
    simp only
    generalize (if q.2.2 = true then numV q.2.1 else numV q.1) = to
    split
    · exact hz
    · exact ht _ _ _ _ _
  have hs : ∀ lo hi st q, (spanV lo hi st q).1 < 18446744073709551616 := fun lo hi st q => by
    unfold spanV
    split
    · exact ht _ _ _ _ _
    · exact hp _ _ _ _
  unfold itemV
  simp only
  split
  · split
    · exact hz
    · exact hs _ _ _ _
  · exact hs _ _ _ _
theorem or_lt {a b : Nat} (ha : a < 18446744073709551616) (hb : b < 18446744073709551616) : a ||| b < 18446744073709551616 :=
  Nat.or_lt_two_pow (n := 64) ha hb
theorem itemsV_lt (f : Nat) : ∀ (l : List (List UInt8)) (s : Nat), s < 18446744073709551616 → (itemsV f l s).2 < 18446744073709551616
  | [], _, h => h
  | x :: r, s, h => by
    unfold itemsV
    split
    · exact itemsV_lt f r _ (or_lt h (itemV_lt f x))
    · exact h
theorem put_ok {c : SD} (hc : c.Ok) (f s : Nat) (a : Bool) (hs : s < 18446744073709551616) : (c.put f s a).Ok := fun i hi => by
  show (if i = f then s else c.set i) < _
  split
  · exact hs
  · exact hc i hi
theorem zero_ok : zeroC.Ok := fun _ _ => Nat.zero_lt_of_lt (rowV_lt 0 0 0)
theorem fieldV_ok {c : SD} (hc : c.Ok) (f : Nat) (hf : f < 5) (p : List UInt8) : (fieldV f p c).2.Ok := by
  unfold fieldV
  split
  · exact put_ok hc _ _ _ (fullV_lt f)
  · exact put_ok hc _ _ _ (itemsV_lt f _ _ (hc f hf))
theorem fieldsV_ok : ∀ (l : List (List UInt8)) (f : Nat) {c : SD}, c.Ok → f + l.length ≤ 5 → (fieldsV f l c).2.Ok
  | [], _, _, hc, _ => hc
  | p :: r, f, _, hc, h => by
    rw [List.length_cons] at h
    unfold fieldsV
    split
    · exact fieldsV_ok r (f + 1) (fieldV_ok hc f (by omega) p) (by omega)
    · exact fieldV_ok hc f (by omega) p
theorem parseC_ok (s : List UInt8) : (parseC s).2.Ok := by
  unfold parseC
  split
  · exact zero_ok
  · rename_i h
    have h5 : (ne (splitV s [32])).length = 5 := by
      by_cases h5 : (ne (splitV s [32])).length = 5
      · exact h5
      · exact absurd (by unfold badF; rw [decide_eq_false h5]; rfl) h
    split
    · exact fieldsV_ok _ 0 zero_ok (by omega)
    · exact zero_ok
end Go.Proofs.YtoabloeechphkaaDoor
