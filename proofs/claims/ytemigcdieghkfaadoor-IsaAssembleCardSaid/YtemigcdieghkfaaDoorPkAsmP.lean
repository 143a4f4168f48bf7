/- Merged: AsmPlain, LabD. -/
import Derived.Test.YtemigcdieghkfaaDoorPkValidG
import Derived.Test.YtemigcdieghkfaaDoorPkLexP
import Derived.Test.YtemigcdieghkfaaDoorPkKnAll
import Derived.Maps.Views
set_option linter.unusedVariables false
set_option linter.unusedSimpArgs false
set_option linter.unusedSectionVars false
namespace Go.Proofs.YtemigcdieghkfaaDoor
section
open Go

/-- The token with that number; behind the last one, none. -/
def tk (d : List Tok) (i : Nat) : Raw := match d[i]? with
  | some t => t.raw
  | none => ⟨0, [], 0⟩
/-- The position of the token with that number; behind the last one, the end of the text. -/
def tpos (l : List UInt8) (d : List Tok) (i : Nat) : Int × Int := match d[i]? with
  | some t => (t.line, t.col)
  | none => adv l (1, 1)
def isP (d : List Tok) (i : Nat) (m : List UInt8) : Bool := decide ((tk d i).kind = 4) && decide ((tk d i).text = m)
def regL : List (List UInt8) := [[114, 48], [114, 49], [114, 50], [114, 51], [114, 52], [114, 53], [114, 54], [114, 55], [114, 56], [114, 57], [114, 49, 48], [114, 49, 49], [114, 49, 50], [114, 49, 51], [114, 49, 52], [114, 49, 53]]
def regName (n : Nat) : List UInt8 := regL.getD n []
theorem regName_num (n : Nat) (h : n < 16) : regName n = 114 :: numL 10 n := by
  obtain rfl | rfl | rfl | rfl | rfl | rfl | rfl | rfl | rfl | rfl | rfl | rfl | rfl | rfl | rfl | rfl : n = 0 ∨ n = 1 ∨ n = 2 ∨ n = 3 ∨ n = 4 ∨ n = 5 ∨ n = 6 ∨ n = 7 ∨ n = 8 ∨ n = 9 ∨ n = 10 ∨ n = 11 ∨ n = 12 ∨ n = 13 ∨ n = 14 ∨ n = 15 := by omega
  all_goals first | (rw [numL_small (by decide)]; rfl) | (rw [numL_big (by decide) (by decide), numL_small (by decide)]; rfl)
/-- The number of a register's word, or -1. -/
def regFrom (s : List UInt8) : Nat → Nat → Int
  | 0, _ => -1
  | f + 1, n => if s = regName n then n else regFrom s f (n + 1)
def regOf (s : List UInt8) : Int := regFrom s 16 0
/-- An error: the number of the token at which it stands, and its number. -/
abbrev AErr := Nat × Int
def aReg (d : List Tok) (i : Nat) : Except AErr Int :=
  if (tk d i).kind = 1 ∧ 0 ≤ regOf (tk d i).text then .ok (regOf (tk d i).text) else .error (i, 50)
/-- A label or target that is checked when the whole text has been read. -/
structure ARef where
  instr : Nat
  label : List UInt8
  target : Bool
  at_ : Nat
def aImm (d : List Tok) (n : Nat) (target : Bool) (i : Nat) : Except AErr (Int × Nat × List ARef) :=
  if (tk d i).kind = 1 then
    if 0 ≤ regOf (tk d i).text then .error (i, 50) else .ok (0, i + 1, [⟨n, (tk d i).text, target, i⟩])
  else if !target && isP d i [45] then
    if ¬ (tk d (i + 1)).kind = 2 then .error (i + 1, 50)
    else if 2147483648 < (tk d (i + 1)).value then .error (i + 1, 6)
    else .ok (-(tk d (i + 1)).value, i + 2, [])
  else
    if ¬ (tk d i).kind = 2 then .error (i, 50)
    else if 2147483647 < (tk d i).value then .error (i, 6)
    else .ok ((tk d i).value, i + 1, if target then [⟨n, [], true, i⟩] else [])
/-- An operand: the instruction with it, the next token, what is open. -/
def aOperand (d : List Tok) (n : Nat) (c : UInt8) (x : Ins) (i : Nat) : Except AErr (Ins × Nat × List ARef) :=
  if c = 97 then (match aReg d i with | .error e => .error e | .ok r => .ok ({ x with a := r }, i + 1, []))
  else if c = 98 then (match aReg d i with | .error e => .error e | .ok r => .ok ({ x with b := r }, i + 1, []))
  else if c = 99 then (match aReg d i with | .error e => .error e | .ok r => .ok ({ x with c := r }, i + 1, []))
  else if c = 105 then (match aImm d n false i with | .error e => .error e | .ok (v, j, us) => .ok ({ x with imm := v }, j, us))
  else (match aImm d n true i with | .error e => .error e | .ok (v, j, us) => .ok ({ x with imm := v }, j, us))
def aOperands (d : List Tok) (n : Nat) : Bool → List UInt8 → Ins → Nat → List ARef → Except AErr (Ins × Nat × List ARef)
  | _, [], x, i, us => .ok (x, i, us)
  | true, c :: l, x, i, us => (match aOperand d n c x i with | .error e => .error e | .ok (y, j, vs) => aOperands d n false l y j (us ++ vs))
  | false, c :: l, x, i, us => if isP d i [44] = false then .error (i, 50) else (match aOperand d n c x (i + 1) with | .error e => .error e | .ok (y, j, vs) => aOperands d n false l y j (us ++ vs))
abbrev Labels := List (List UInt8 × Nat)
def labelAt (ls : Labels) (s : List UInt8) : Option Nat := (ls.find? fun x => decide (x.1 = s)).map (·.2)
def aLabels (d : List Tok) (n : Nat) : Nat → Nat → Labels → Except AErr (Nat × Labels)
  | 0, i, ls => .ok (i, ls)
  | f + 1, i, ls =>
    if (tk d i).kind = 1 ∧ isP d (i + 1) [58] = true then
      if 0 ≤ regOf (tk d i).text then .error (i, 50)
      else if (labelAt ls (tk d i).text).isSome = true then .error (i, 72)
      else aLabels d n f (i + 2) (ls ++ [((tk d i).text, n)])
    else .ok (i, ls)
def mnemFrom (s : List UInt8) : Nat → Nat → Int
  | 0, _ => -1
  | f + 1, n => if mnemL.getD n [] = s then n else mnemFrom s f (n + 1)
def mnemIx (s : List UInt8) : Int := mnemFrom s 28 0
structure ASt where
  i : Nat
  prog : List Ins
  labels : Labels
  uses : List ARef
/-- Behind the labels. -/
def aBody (d : List Tok) (s : ASt) : Except AErr ASt :=
  if ¬ (tk d s.i).kind = 1 then .error (s.i, 50)
  else if mnemIx (tk d s.i).text < 0 then .error (s.i, 50)
  else if s.prog.length = 4096 then .error (s.i, 15)
  else match aOperands d s.prog.length true (operandsOf (mnemIx (tk d s.i).text)) ⟨mnemIx (tk d s.i).text, 0, 0, 0, 0⟩ (s.i + 1) [] with
    | .error e => .error e
    | .ok (x, j, us) => if isP d j [59] = true then .ok ⟨j + 1, s.prog ++ [x], s.labels, s.uses ++ us⟩ else .error (j, 50)
def aInstr (d : List Tok) (s : ASt) : Except AErr ASt := match aLabels d s.prog.length d.length s.i s.labels with
  | .error e => .error e
  | .ok (i, ls) => aBody d ⟨i, s.prog, ls, s.uses⟩
def aAll (d : List Tok) : Nat → ASt → Except AErr ASt
  | 0, s => .ok s
  | f + 1, s => if s.i < d.length then (match aInstr d s with | .error e => .error e | .ok t => aAll d f t) else .ok s
/-- The labels are filled in, the targets checked. -/
def aFix (ls : Labels) (n : Nat) : List ARef → List Ins → Except AErr (List Ins)
  | [], p => .ok p
  | u :: us, p =>
    if u.label = [] then
      if u.target = true ∧ (n : Int) ≤ (p.getD u.instr ⟨0, 0, 0, 0, 0⟩).imm then .error (u.at_, 71) else aFix ls n us p
    else match labelAt ls u.label with
      | none => .error (u.at_, 72)
      | some k => if u.target = true ∧ n ≤ k then .error (u.at_, 71) else aFix ls n us (p.set u.instr { p.getD u.instr ⟨0, 0, 0, 0, 0⟩ with imm := (k : Int) })
def aResolve (s : ASt) : Except AErr (List Ins) := aFix s.labels s.prog.length s.uses s.prog
/-- The program of a text, the position and the number of its error. -/
def asm (l : List UInt8) : List Ins × (Int × Int) × Int :=
  match scanRes l with
  | (d, a, b, e) =>
    if ¬ e = 0 then ([], (a, b), e)
    else match aAll d d.length ⟨0, [], [], []⟩ with
      | .error x => ([], tpos l d x.1, x.2)
      | .ok s => if s.prog = [] then ([], (0, 0), 15) else match aResolve s with
        | .error x => ([], tpos l d x.1, x.2)
        | .ok p => (p, (0, 0), 0)
end
section
open Go

def labD (ls : Labels) : DataW Unit := ls.foldl (fun D x => D.put (.string x.1) (.lit (.int .i64 (x.2 : Int)))) (.map [])
theorem labD_snoc (ls : Labels) (x : List UInt8 × Nat) : labD (ls ++ [x]) = (labD ls).put (.string x.1) (.lit (.int .i64 (x.2 : Int))) := by
  unfold labD; rw [List.foldl_append]; rfl
theorem labD_isMap_n : ∀ (n : Nat) (ls : Labels), ls.length = n → Maps.IsMap (labD ls)
  | 0, ls, h => by
    have : ls = [] := List.eq_nil_of_length_eq_zero h
    subst this; exact Maps.isMap_empty
  | n + 1, ls, h => by
    obtain ⟨ls', x, rfl⟩ : ∃ ls' x, ls = ls' ++ [x] := ⟨_, _, (List.dropLast_concat_getLast (by intro q; subst q; simp at h)).symm⟩
    rw [labD_snoc]
    exact (labD_isMap_n n ls' (by simpa using h)).put _ _
theorem labD_isMap (ls : Labels) : Maps.IsMap (labD ls) := labD_isMap_n _ ls rfl
theorem labelAt_snoc (ls : Labels) (x : List UInt8 × Nat) (s : List UInt8) : labelAt (ls ++ [x]) s = (labelAt ls s).or (if x.1 = s then some x.2 else none) := by
  unfold labelAt
  rw [List.find?_append]
  cases h : ls.find? (fun x => decide (x.1 = s)) with
  | some y => simp
  | none =>
    simp only [Option.none_or, Option.map_none, List.find?_cons]
    by_cases hx : x.1 = s <;> simp [hx]
/-- No label stands twice. -/
def Dist (ls : Labels) : Prop := (ls.map (·.1)).Nodup
theorem Dist.nil : Dist [] := List.nodup_nil
theorem labelAt_none {ls : Labels} {s : List UInt8} (h : labelAt ls s = none) : ∀ x ∈ ls, x.1 ≠ s := by
  intro x hx e
  unfold labelAt at h
  rw [Option.map_eq_none_iff, List.find?_eq_none] at h
  exact h x hx (decide_eq_true e)
theorem Dist.snoc {ls : Labels} {x : List UInt8 × Nat} (h : Dist ls) (hn : labelAt ls x.1 = none) : Dist (ls ++ [x]) := by
  unfold Dist
  rw [List.map_append, List.nodup_append]
  refine ⟨h, by simp, fun a ha b hb e => ?_⟩
  obtain ⟨y, hy, rfl⟩ := List.mem_map.1 ha
  simp at hb
  subst hb
  exact labelAt_none hn y hy e
theorem Dist.init {ls : Labels} {x : List UInt8 × Nat} (h : Dist (ls ++ [x])) : Dist ls ∧ labelAt ls x.1 = none := by
  unfold Dist at h
  rw [List.map_append, List.nodup_append] at h
  refine ⟨h.1, ?_⟩
  unfold labelAt
  rw [Option.map_eq_none_iff, List.find?_eq_none]
  intro y hy hd
  exact h.2.2 y.1 (List.mem_map.2 ⟨y, hy, rfl⟩) x.1 (by simp) (of_decide_eq_true hd)
theorem labD_at_n : ∀ (n : Nat) (ls : Labels), ls.length = n → Dist ls → ∀ s, Maps.has (labD ls) (.string s) = (labelAt ls s).isSome ∧ ∀ k, labelAt ls s = some k → ∀ z, (labD ls).atKey (.string s) z = .lit (.int .i64 (k : Int))
  | 0, ls, h, _, s => by
    have : ls = [] := List.eq_nil_of_length_eq_zero h
    subst this; exact ⟨rfl, fun k hk => by simp [labelAt] at hk⟩
  | n + 1, ls, h, hd, s => by
    obtain ⟨ls', x, rfl⟩ : ∃ ls' x, ls = ls' ++ [x] := ⟨_, _, (List.dropLast_concat_getLast (by intro q; subst q; simp at h)).symm⟩
    obtain ⟨hd', hx⟩ := hd.init
    obtain ⟨h1, h2⟩ := labD_at_n n ls' (by simpa using h) hd' s
    rw [labD_snoc, labelAt_snoc]
    by_cases e : x.1 = s
    · subst e
      rw [hx, if_pos rfl]
      refine ⟨Maps.has_put_same (k := .string x.1) (labD_isMap _) trivial _, fun k hk z => ?_⟩
      rw [Maps.atKey_put_same (k := .string x.1) (labD_isMap _) trivial]
      simp at hk
      rw [hk]
    · rw [if_neg e, Option.or_none]
      have hne : Lit.string s ≠ .string x.1 := fun q => e (by injection q with q; exact q.symm)
      refine ⟨by rw [Maps.has_put_other hne]; exact h1, fun k hk z => by rw [Maps.atKey_put_other hne]; exact h2 k hk z⟩
theorem labD_at {ls : Labels} (h : Dist ls) (s : List UInt8) : Maps.has (labD ls) (.string s) = (labelAt ls s).isSome ∧ ∀ k, labelAt ls s = some k → ∀ z, (labD ls).atKey (.string s) z = .lit (.int .i64 (k : Int)) := labD_at_n _ ls rfl h s
end
end Go.Proofs.YtemigcdieghkfaaDoor
