/- The processor, plain: its state, what is valid, what a step comes to. Nothing of the program is imported. -/
import Derived.Below
set_option linter.unusedVariables false
set_option linter.unusedSimpArgs false
set_option linter.unusedSectionVars false
namespace Go.Proofs.Ytbllialcfmpkaaa
open Go

structure Eff where
  kind : Int
  reg : Int
  num : Int
  addr : Int
  value : Int
structure Vm where
  width : Int
  pc : Int
  state : Int
  cause : Int
  regs : List Int
  wait : Eff
structure Ins where
  op : Int
  a : Int
  b : Int
  c : Int
  imm : Int
def Eff.none : Eff := ⟨0, 0, 0, 0, 0⟩
def Vm.zero : Vm := ⟨0, 0, 0, 0, List.replicate 16 0, Eff.none⟩
def Eff.cells (e : Eff) : Array Value := #[.int .i64 e.kind, .int .i64 e.reg, .int .i64 e.num, .int .u64 e.addr, .int .u64 e.value]
def Vm.r (v : Vm) (i : Nat) : Int := v.regs.getD i 0
def Vm.cells (v : Vm) : Array Value := #[.int .i64 v.width, .int .i64 v.pc, .int .i64 v.state, .int .i64 v.cause,
  .int .u64 (v.r 0), .int .u64 (v.r 1), .int .u64 (v.r 2), .int .u64 (v.r 3), .int .u64 (v.r 4), .int .u64 (v.r 5), .int .u64 (v.r 6), .int .u64 (v.r 7),
  .int .u64 (v.r 8), .int .u64 (v.r 9), .int .u64 (v.r 10), .int .u64 (v.r 11), .int .u64 (v.r 12), .int .u64 (v.r 13), .int .u64 (v.r 14), .int .u64 (v.r 15),
  .int .i64 v.wait.kind, .int .i64 v.wait.reg, .int .i64 v.wait.num, .int .u64 v.wait.addr, .int .u64 v.wait.value]
def Ins.cells (x : Ins) : Array Value := #[.int .i64 x.op, .int .i64 x.a, .int .i64 x.b, .int .i64 x.c, .int .i32 x.imm]

theorem Vm.cells_reg (v : Vm) (i : Nat) (h : i < 16) : v.cells[4 + i]? = some (.int .u64 (v.r i)) := by
  have h16 : i = 0 ∨ i = 1 ∨ i = 2 ∨ i = 3 ∨ i = 4 ∨ i = 5 ∨ i = 6 ∨ i = 7 ∨ i = 8 ∨ i = 9 ∨ i = 10 ∨ i = 11 ∨ i = 12 ∨ i = 13 ∨ i = 14 ∨ i = 15 := by omega
  rcases h16 with rfl | rfl | rfl | rfl | rfl | rfl | rfl | rfl | rfl | rfl | rfl | rfl | rfl | rfl | rfl | rfl <;> rfl
def Vm.setR (v : Vm) (i : Nat) (x : Int) : Vm := { v with regs := v.regs.set i x }
theorem Vm.r_set (v : Vm) (i j : Nat) (x : Int) (hl : v.regs.length = 16) (hi : i < 16) : (v.setR i x).r j = if i = j then x else v.r j := by
  unfold Vm.setR Vm.r
  simp only [List.getD_eq_getElem?_getD, List.getElem?_set]
  by_cases h : i = j
  · subst h; simp [hl, hi]
  · simp [h]
theorem Vm.cells_set (v : Vm) (i : Nat) (x : Int) (hl : v.regs.length = 16) (hi : i < 16) : v.cells.setIfInBounds (4 + i) (.int .u64 x) = (v.setR i x).cells := by
  have h := fun j => v.r_set i j x hl hi
  unfold Vm.cells
  simp only [h]
  have h16 : i = 0 ∨ i = 1 ∨ i = 2 ∨ i = 3 ∨ i = 4 ∨ i = 5 ∨ i = 6 ∨ i = 7 ∨ i = 8 ∨ i = 9 ∨ i = 10 ∨ i = 11 ∨ i = 12 ∨ i = 13 ∨ i = 14 ∨ i = 15 := by omega
  rcases h16 with rfl | rfl | rfl | rfl | rfl | rfl | rfl | rfl | rfl | rfl | rfl | rfl | rfl | rfl | rfl | rfl <;> rfl

/-! ### What is valid -/
def wide (w : Int) : Bool := w == 32 || w == 39
/-- Two to the width. -/
def pw2 (w : Int) : Int := if w = 32 then 4294967296 else 549755813888
def effOk (w : Int) (e : Eff) : Bool :=
  if e.kind = 1 then decide (0 ≤ e.reg ∧ e.reg < 16 ∧ e.num = 0 ∧ e.addr < pw2 w ∧ e.addr % 8 = 0 ∧ e.value = 0)
  else if e.kind = 2 then decide (e.reg = 0 ∧ e.num = 0 ∧ e.addr < pw2 w ∧ e.addr % 8 = 0 ∧ e.value < pw2 w)
  else if e.kind = 3 then decide (e.reg = 0 ∧ 0 ≤ e.num ∧ e.num < 2147483648 ∧ e.addr = 0 ∧ e.value = 0)
  else false
def Eff.isNone (e : Eff) : Bool := decide (e.kind = 0 ∧ e.reg = 0 ∧ e.num = 0 ∧ e.addr = 0 ∧ e.value = 0)
def Vm.ok (v : Vm) : Bool :=
  wide v.width && decide (0 ≤ v.pc ∧ v.pc ≤ 4096) && v.regs.all (fun x => decide (x < pw2 v.width)) &&
    (if v.state = 0 ∨ v.state = 2 then decide (v.cause = 0) && v.wait.isNone
    else if v.state = 1 then decide (v.cause = 0 ∧ 1 ≤ v.pc) && effOk v.width v.wait
    else if v.state = 3 then decide (1 ≤ v.cause ∧ v.cause ≤ 4) && v.wait.isNone
    else false)
/-- The letters of an operation's operands: a, b, c: registers; i: a number; t: a target. -/
def operandsL : List (List UInt8) := [[], [97, 105], [97, 105], [97, 98], [97, 98, 99], [97, 98, 99], [97, 98, 99], [97, 98, 99], [97, 98, 99], [97, 98, 99], [97, 98, 99], [97, 98, 99], [97, 98, 99], [97, 98, 99],
  [97, 98, 105], [97, 98, 99], [97, 98, 99], [97, 98, 99], [116], [97, 116], [97, 116], [97, 116], [97], [97, 98, 105], [97, 98, 105], [105], [], []]
def operandsOf (op : Int) : List UInt8 := operandsL.getD op.toNat []
def uses (op : Int) (c : UInt8) : Bool := (operandsOf op).contains c
def regOk (v : Int) (used : Bool) : Bool := v == 0 || (used && decide (0 < v ∧ v < 16))
/-- The error of an instruction in a program of n. -/
def insErr (x : Ins) (n : Int) : Int :=
  if x.op < 0 ∨ 27 < x.op then 70
  else if (regOk x.a (uses x.op 97) && regOk x.b (uses x.op 98) && regOk x.c (uses x.op 99) && (x.imm == 0 || uses x.op 105 || uses x.op 116)) = false then 70
  else if uses x.op 116 = true ∧ (x.imm < 0 ∨ n ≤ x.imm) then 71
  else 0
/-- The first error of a program. -/
def firstErr (n : Int) : List Ins → Int
  | [] => 0
  | x :: r => if insErr x n = 0 then firstErr n r else insErr x n
def progErr (p : List Ins) : Int := if p.length = 0 ∨ 4096 < p.length then 15 else firstErr p.length p

/-! ### A step -/
def signed (w v : Int) : Int := if wide w = true then (if pw2 w ≤ 2 * (v % pw2 w) then v % pw2 w - pw2 w else v % pw2 w) else 0
def Vm.trap (v : Vm) (c : Int) : Vm × Eff := ({ v with state := 3, cause := c }, ⟨6, 0, c, 0, 0⟩)
def truth (b : Bool) : Int := if b then 1 else 0
/-- What an instruction that computes a register computes (before it is reduced to the width). -/
def compute (w op a b c imm : Int) : Int :=
  if op = 1 then imm
  else if op = 2 then a % 4294967296 + imm * 4294967296
  else if op = 3 then b
  else if op = 4 then b + c
  else if op = 5 then b - c
  else if op = 6 then b * c
  else if op = 7 then b / c
  else if op = 8 then b % c
  else if op = 9 then ((b.toNat &&& c.toNat : Nat) : Int)
  else if op = 10 then ((b.toNat ||| c.toNat : Nat) : Int)
  else if op = 11 then ((b.toNat ^^^ c.toNat : Nat) : Int)
  else if op = 12 then b * 2 ^ (c % w).toNat
  else if op = 13 then b / 2 ^ (c % w).toNat
  else if op = 14 then b + imm
  else if op = 15 then truth (decide (signed w b < signed w c))
  else if op = 16 then truth (decide (b < c))
  else truth (decide (b = c))
/-- The step of a valid, ready processor at an instruction of a valid program of n instructions. -/
def stepI (v : Vm) (x : Ins) (n : Int) : Vm × Eff :=
  let a := v.r x.a.toNat
  let b := v.r x.b.toNat
  let c := v.r x.c.toNat
  let nx : Vm := { v with pc := v.pc + 1 }
  if x.op = 0 then ({ nx with state := 2 }, ⟨5, 0, 0, 0, 0⟩)
  else if x.op = 18 then ({ v with pc := x.imm }, Eff.none)
  else if x.op = 19 then ({ v with pc := if a = 0 then x.imm else v.pc + 1 }, Eff.none)
  else if x.op = 20 then ({ v with pc := if a = 0 then v.pc + 1 else x.imm }, Eff.none)
  else if x.op = 21 then ({ v.setR x.a.toNat (v.pc + 1) with pc := x.imm }, Eff.none)
  else if x.op = 22 then (if n ≤ a then v.trap 2 else ({ v with pc := a }, Eff.none))
  else if x.op = 23 then (if ¬ (b + x.imm) % pw2 v.width % 8 = 0 then v.trap 3 else ({ nx with state := 1, wait := ⟨1, x.a, 0, (b + x.imm) % pw2 v.width, 0⟩ }, ⟨1, x.a, 0, (b + x.imm) % pw2 v.width, 0⟩))
  else if x.op = 24 then (if ¬ (b + x.imm) % pw2 v.width % 8 = 0 then v.trap 3 else ({ nx with state := 1, wait := ⟨2, 0, 0, (b + x.imm) % pw2 v.width, a⟩ }, ⟨2, 0, 0, (b + x.imm) % pw2 v.width, a⟩))
  else if x.op = 25 then (if x.imm < 0 then v.trap 4 else ({ nx with state := 1, wait := ⟨3, 0, x.imm, 0, 0⟩ }, ⟨3, 0, x.imm, 0, 0⟩))
  else if x.op = 26 then (nx, ⟨4, 0, 0, 0, 0⟩)
  else if x.op = 27 then (nx, Eff.none)
  else if (x.op = 7 ∨ x.op = 8) ∧ c = 0 then v.trap 1
  else (nx.setR x.a.toNat (compute v.width x.op a b c (x.imm % pw2 v.width) % pw2 v.width), Eff.none)
def stepS (v : Vm) (p : List Ins) : Vm × Eff :=
  match p[v.pc.toNat]? with
  | none => v.trap 2
  | some x => stepI v x p.length
end Go.Proofs.Ytbllialcfmpkaaa
