/- A script: the plain definition of its reading, over the tokens, and of its text. -/
import Derived.Test.YtgeeklgojjcdmaaDoorPkAsmP
set_option linter.unusedVariables false
set_option linter.unusedSimpArgs false
set_option linter.unusedSectionVars false
namespace Go.Proofs.YtgeeklgojjcdmaaDoor
open Go

structure Ev where
  kind : Nat
  core : Int
  n : Int
deriving DecidableEq
def Ev.cells (e : Ev) : Array Value := #[.int .i64 (e.kind : Int), .int .i64 e.core, .int .i64 e.n]
/-- The words of the events, the first of which has the kind 1. -/
def verbL : List (List UInt8) := [[116, 105, 99, 107], [116, 114, 97, 110, 115, 109, 105, 116], [100, 101, 108, 105, 118, 101, 114], [108, 111, 99, 97, 108], [100, 105, 101], [100, 101, 116, 101, 99, 116], [97, 114, 114, 105, 118, 101], [114, 97, 105, 115, 101]]
/-- Has an event of that kind a core, a number? -/
def evCore (k : Nat) : Bool := k != 8
def evNum (k : Nat) : Bool := k == 2 || k == 3 || k == 6 || k == 7 || k == 8
def verbFrom (s : List UInt8) : Nat → Nat → Nat
  | 0, _ => 0
  | f + 1, k => if s = verbL.getD k [] then k + 1 else verbFrom s f (k + 1)
/-- The kind of a word, or 0. -/
def verbOf (s : List UInt8) : Nat := verbFrom s 8 0
def sNum (d : List Tok) (i : Nat) : Except AErr Int :=
  if ¬ (tk d i).kind = 2 then .error (i, 50) else if 2147483647 < (tk d i).value then .error (i, 6) else .ok (tk d i).value
/-- The numbers behind the word, and the semicolon. -/
def sTail (d : List Tok) (k : Nat) (j : Nat) : Except AErr (Ev × Nat) :=
  match (if evCore k = true then sNum d j else .ok 0) with
  | .error q => .error q
  | .ok c => match (if evNum k = true then sNum d (if evCore k = true then j + 1 else j) else .ok 0) with
    | .error q => .error q
    | .ok m => if isP d ((if evCore k = true then j + 1 else j) + (if evNum k = true then 1 else 0)) [59] = true then .ok (⟨k, c, m⟩, (if evCore k = true then j + 1 else j) + (if evNum k = true then 1 else 0) + 1) else .error ((if evCore k = true then j + 1 else j) + (if evNum k = true then 1 else 0), 50)
/-- The event; its count is known, and how many there are already. -/
def sVerb (d : List Tok) (n : Nat) (c : Int) (j : Nat) : Except AErr (Ev × Nat) :=
  if (tk d j).kind = 1 ∧ ¬ verbOf (tk d j).text = 0 then
    if 100000 - (n : Int) < c then .error (j, 15) else sTail d (verbOf (tk d j).text) (j + 1)
  else .error (j, 50)
def withCount (c : Int) : Except AErr (Ev × Nat) → Except AErr (Ev × Int × Nat)
  | .error q => .error q
  | .ok (e, j) => .ok (e, c, j)
def sItem (d : List Tok) (n i : Nat) : Except AErr (Ev × Int × Nat) :=
  if (tk d i).kind = 2 then
    if (tk d i).value < 1 ∨ 100000 < (tk d i).value then .error (i, 6)
    else if isP d (i + 1) [42] = true then withCount (tk d i).value (sVerb d n (tk d i).value (i + 2)) else .error (i + 1, 50)
  else withCount 1 (sVerb d n 1 i)
def sAll (d : List Tok) : Nat → Nat → List Ev → Except AErr (List Ev)
  | 0, _, out => .ok out
  | f + 1, i, out => if i < d.length then (match sItem d out.length i with | .error q => .error q | .ok (e, c, j) => sAll d f j (out ++ List.replicate c.toNat e)) else .ok out
/-- The events of a text, the position and the number of its error. -/
def script (l : List UInt8) : List Ev × (Int × Int) × Int :=
  match scanRes l with
  | (d, a, b, e) =>
    if ¬ e = 0 then ([], (a, b), e)
    else match sAll d d.length 0 [] with
      | .error x => ([], tpos l d x.1, x.2)
      | .ok out => (out, (0, 0), 0)

/-! ### The text of a script -/
def numOk (has : Bool) (v : Int) : Bool := (has && decide (0 ≤ v) && decide (v ≤ 2147483647)) || (!has && decide (v = 0))
def numT (v : Int) : List UInt8 := numL 10 v.toNat
def evLine (e : Ev) (c : Nat) : List UInt8 :=
  (if 1 < c then numL 10 c ++ [32, 42, 32] else []) ++ (verbL.getD (e.kind - 1) [] ++ ((if evCore e.kind = true then 32 :: numT e.core else []) ++ ((if evNum e.kind = true then 32 :: numT e.n else []) ++ [59, 10])))
end Go.Proofs.YtgeeklgojjcdmaaDoor
