/- What an expression's type and value are, as the program reckons them. No program's function. -/
import Derived.Test.YtlkckkagoommaaaTree
import Derived.Test.YtlkckkagoommaaaSchP
import Derived.Test.YtlkckkagoommaaaSchFind
import Derived.Test.YtlkckkagoommaaaRows2
namespace Go.Proofs.Ytlkckkagoommaaa
open Go.RowKit

/-- a rule: a name, the types of Args, its own -/
structure RU where
  name : ByteArray
  args : List Int
  out : Int
def rulesV (kind : Int) : List RU :=
  if kind = 3 then [⟨S [45], [1], 1⟩, ⟨S [110, 111, 116], [0], 1⟩]
  else if kind = 4 then [⟨S [43], [1, 1], 1⟩, ⟨S [45], [1, 1], 1⟩, ⟨S [42], [1, 1], 1⟩, ⟨S [47], [1, 1], 1⟩, ⟨S [37], [1, 1], 1⟩,
    ⟨S [61], [-1, -1], 1⟩, ⟨S [33, 61], [-1, -1], 1⟩, ⟨S [60], [-1, -1], 1⟩, ⟨S [60, 61], [-1, -1], 1⟩, ⟨S [62], [-1, -1], 1⟩, ⟨S [62, 61], [-1, -1], 1⟩,
    ⟨S [97, 110, 100], [0, 0], 1⟩, ⟨S [111, 114], [0, 0], 1⟩]
  else if kind = 5 then [⟨S [108, 101, 110], [2], 1⟩, ⟨S [97, 98, 115], [1], 1⟩, ⟨S [105, 115, 110, 117, 108, 108], [0], 1⟩, ⟨S [99, 97, 116], [2, 2], 2⟩,
    ⟨S [101, 105, 116, 104, 101, 114], [-1, -1], -1⟩, ⟨S [105, 102], [0, -1, -1], -1⟩]
  else []
/-- the name that a rule is looked up by -/
def keyN (d : ND) : ByteArray := if d.kind = 5 then d.name else d.op
def ruleI (d : ND) : Option Nat := (rulesV d.kind).findIdx? fun r => decide (r.name = keyN d)
def ruleV (d : ND) : Option RU := match ruleI d with | some k => (rulesV d.kind)[k]? | none => none
def idxI (o : Option Nat) : Int := match o with | some k => (k : Int) | none => -1
def isNull (v : VD) : Bool := decide (v.kind = 0) && (decide (v.num = 0) && decide (v.text = S []))
/-- is the form right, with so many Args? -/
def formV (d : ND) (n : Nat) : Bool :=
  if d.kind = 1 then decide (d.op = S []) && (decide (n = 0) && isNull d.v)
  else if d.kind = 2 then decide (d.name = S []) && (decide (d.op = S []) && (decide (n = 0) && d.v.right))
  else (match ruleV d with | some r => decide (n = r.args.length) | none => false) && (isNull d.v && (if d.kind = 5 then decide (d.op = S []) else decide (d.name = S [])))
/-- do types fit? -/
def fitL : List Int → List Int → Int → Int × Bool
  | w :: ws, t :: ts, both =>
    if t = 0 ∨ w = 0 then fitL ws ts both
    else if w ≠ -1 ∧ w ≠ t ∨ w = -1 ∧ both ≠ 0 ∧ both ≠ t then (0, false)
    else if w = -1 then fitL ws ts t else fitL ws ts both
  | _, _, both => (both, true)
/-- the type of a column of a name; 0: there is none -/
def colT (cs : List CD) (s : ByteArray) : Option Int := match placeV cs s with | some k => cs[k]?.map CD.typ | none => none
/-- the type and the error of one that lies at a depth -/
def typedX (cs : List CD) : (n : Nat) → Nat → TX n → Int × Int
  | 0, _, _ => (0, 0)
  | n + 1, d, e =>
    if 32 < d then (0, 52)
    else if formV e.1 e.2.length = false then (0, 20)
    else if e.1.kind = 2 then (e.1.v.kind, 0)
    else if e.1.kind = 1 then (match colT cs e.1.name with | some t => (t, 0) | none => (0, 13))
    else match e.2.find? fun a => decide ((typedX cs n (d + 1) a).2 ≠ 0) with
      | some a => (0, (typedX cs n (d + 1) a).2)
      | none => match ruleV e.1 with
        | none => (0, 20)
        | some r => match fitL r.args (e.2.map fun a => (typedX cs n (d + 1) a).1) 0 with
          | (both, true) => if r.out = -1 then (both, 0) else (r.out, 0)
          | (_, false) => (0, 12)
def typeX (cs : List CD) (n : Nat) (e : TX n) : Int × Int :=
  if checkV cs = 0 then (if 256 < sizeX n e then (0, 31) else typedX cs n 1 e) else (0, checkV cs)

def zeroV : VD := ⟨0, 0, S []⟩
def ofV (n : Int) : VD := ⟨1, n, S []⟩
def bitV (b : Bool) : VD := if b = true then ofV 1 else ofV 0
def VD.tru (v : VD) : Bool := decide (v.kind = 1) && decide (v.num ≠ 0)
end Go.Proofs.Ytlkckkagoommaaa
