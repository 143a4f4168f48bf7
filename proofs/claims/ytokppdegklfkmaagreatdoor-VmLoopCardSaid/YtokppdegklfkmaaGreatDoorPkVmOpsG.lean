/- Merged: Mach, Signed, Ops, Alu, Ops2. -/
import Derived.Test.YtokppdegklfkmaaGreatDoorPkNext
import Derived.Test.YtokppdegklfkmaaGreatDoorPkBase0
import Derived.Test.YtokppdegklfkmaaGreatDoorPkBlockG
import Derived.Laws.Bits64b
import Derived.Deep.RegionWith
import Derived.RegionTactic
import Derived.ChangeAlike
set_option linter.unusedVariables false
set_option linter.unusedSimpArgs false
set_option linter.unusedSectionVars false
namespace Go.Proofs.YtokppdegklfkmaaGreatDoor
section
open Go.RowKit
attribute [local go_sem ↓] Go.wp_at_zero Go.wp_at_succ

structure Mach where
  v : Vm
  pa : Option Addr
  pn : Nat
  pk : Nat
  ins : Ins
  next : Int
  eff : Eff
def Mach.cells (m : Mach) : Array Value := #[.int .i64 m.v.width, .int .i64 m.v.pc, .int .i64 m.v.state, .int .i64 m.v.cause,
  .int .u64 (m.v.r 0), .int .u64 (m.v.r 1), .int .u64 (m.v.r 2), .int .u64 (m.v.r 3), .int .u64 (m.v.r 4), .int .u64 (m.v.r 5), .int .u64 (m.v.r 6), .int .u64 (m.v.r 7),
  .int .u64 (m.v.r 8), .int .u64 (m.v.r 9), .int .u64 (m.v.r 10), .int .u64 (m.v.r 11), .int .u64 (m.v.r 12), .int .u64 (m.v.r 13), .int .u64 (m.v.r 14), .int .u64 (m.v.r 15),
  .int .i64 m.v.wait.kind, .int .i64 m.v.wait.reg, .int .i64 m.v.wait.num, .int .u64 m.v.wait.addr, .int .u64 m.v.wait.value,
  .slice m.pa m.pn m.pk, .int .i64 m.ins.op, .int .i64 m.ins.a, .int .i64 m.ins.b, .int .i64 m.ins.c, .int .i32 m.ins.imm, .int .i64 m.next,
  .int .i64 m.eff.kind, .int .i64 m.eff.reg, .int .i64 m.eff.num, .int .u64 m.eff.addr, .int .u64 m.eff.value]
/-- The machine lies in block b. -/
def MB (w : World) (b : Nat) (m : Mach) : Prop := w.heap[b]? = some (.cells m.cells 62)
theorem MB.cell {w : World} {b : Nat} {m : Mach} (h : MB w b m) {o : Nat} {x : Value} (hx : m.cells[o]? = some x) : w.cell? ⟨b, o, none⟩ = some x := by
  unfold MB at h; simp [World.cell?, h, hx]
theorem MB.frozen {w : World} {b : Nat} {m : Mach} (h : MB w b m) (o : Nat) : w.frozen? ⟨b, o, none⟩ = false := by
  unfold MB at h; simp [World.frozen?, h]
theorem MB.lt {w : World} {b : Nat} {m : Mach} (h : MB w b m) : b < w.heap.size := (Array.getElem?_eq_some_iff.1 h).1
/-- The cells of block b. -/
def Blk (w : World) (b : Nat) (cs : Array Value) : Prop := w.heap[b]? = some (.cells cs 62)
theorem Blk.upd {w : World} {b : Nat} {cs : Array Value} (h : Blk w b cs) (o : Nat) (x : Value) : Blk (w.setCell ⟨b, o, none⟩ x) b (cs.setIfInBounds o x) := by
  unfold Blk at *
  simp only [World.setCell, Array.getElem?_modify, if_pos, h]
  rfl
theorem Blk.alloc {w : World} {b : Nat} {cs : Array Value} (h : Blk w b cs) (ob : Obj) : Blk (w.alloc ob) b cs := by
  have hb : b < w.heap.size := (Array.getElem?_eq_some_iff.1 h).1
  unfold Blk at *
  rw [Below.heap_alloc _ _ _ hb]; exact h
theorem MB.blk {w : World} {b : Nat} {m : Mach} (h : MB w b m) : Blk w b m.cells := h
theorem MB.of {w : World} {b : Nat} {m : Mach} {cs : Array Value} (h : Blk w b cs) (e : cs = m.cells) : MB w b m := by rw [e] at h; exact h
theorem MB.set {w : World} {b : Nat} {m m' : Mach} (h : MB w b m) {o : Nat} {x : Value} (hx : m.cells.setIfInBounds o x = m'.cells) : MB (w.setCell ⟨b, o, none⟩ x) b m' := MB.of (h.blk.upd o x) hx
theorem MB.all {w : World} {b : Nat} {m : Mach} (h : MB w b m) : (∀ o, w.cell? ⟨b, o, none⟩ = m.cells[o]?) ∧ (∀ o, w.frozen? ⟨b, o, none⟩ = false) := by
  unfold MB at h; exact ⟨fun o => by simp [World.cell?, h], fun o => by simp [World.frozen?, h]⟩
theorem MB.drew {w : World} {b : Nat} {m : Mach} (h : MB w b m) (n : Nat) : MB (w.drewN n) b m := h
theorem Mach.get0 (m : Mach) : m.cells[0]? = some (.int .i64 (m.v.width)) := rfl
theorem Mach.get1 (m : Mach) : m.cells[1]? = some (.int .i64 (m.v.pc)) := rfl
theorem Mach.get2 (m : Mach) : m.cells[2]? = some (.int .i64 (m.v.state)) := rfl
theorem Mach.get3 (m : Mach) : m.cells[3]? = some (.int .i64 (m.v.cause)) := rfl
theorem Mach.get4 (m : Mach) : m.cells[4]? = some (.int .u64 (m.v.r 0)) := rfl
theorem Mach.get5 (m : Mach) : m.cells[5]? = some (.int .u64 (m.v.r 1)) := rfl
theorem Mach.get6 (m : Mach) : m.cells[6]? = some (.int .u64 (m.v.r 2)) := rfl
theorem Mach.get7 (m : Mach) : m.cells[7]? = some (.int .u64 (m.v.r 3)) := rfl
theorem Mach.get8 (m : Mach) : m.cells[8]? = some (.int .u64 (m.v.r 4)) := rfl
theorem Mach.get9 (m : Mach) : m.cells[9]? = some (.int .u64 (m.v.r 5)) := rfl
theorem Mach.get10 (m : Mach) : m.cells[10]? = some (.int .u64 (m.v.r 6)) := rfl
theorem Mach.get11 (m : Mach) : m.cells[11]? = some (.int .u64 (m.v.r 7)) := rfl
theorem Mach.get12 (m : Mach) : m.cells[12]? = some (.int .u64 (m.v.r 8)) := rfl
theorem Mach.get13 (m : Mach) : m.cells[13]? = some (.int .u64 (m.v.r 9)) := rfl
theorem Mach.get14 (m : Mach) : m.cells[14]? = some (.int .u64 (m.v.r 10)) := rfl
theorem Mach.get15 (m : Mach) : m.cells[15]? = some (.int .u64 (m.v.r 11)) := rfl
theorem Mach.get16 (m : Mach) : m.cells[16]? = some (.int .u64 (m.v.r 12)) := rfl
theorem Mach.get17 (m : Mach) : m.cells[17]? = some (.int .u64 (m.v.r 13)) := rfl
theorem Mach.get18 (m : Mach) : m.cells[18]? = some (.int .u64 (m.v.r 14)) := rfl
theorem Mach.get19 (m : Mach) : m.cells[19]? = some (.int .u64 (m.v.r 15)) := rfl
theorem Mach.get20 (m : Mach) : m.cells[20]? = some (.int .i64 (m.v.wait.kind)) := rfl
theorem Mach.get21 (m : Mach) : m.cells[21]? = some (.int .i64 (m.v.wait.reg)) := rfl
theorem Mach.get22 (m : Mach) : m.cells[22]? = some (.int .i64 (m.v.wait.num)) := rfl
theorem Mach.get23 (m : Mach) : m.cells[23]? = some (.int .u64 (m.v.wait.addr)) := rfl
theorem Mach.get24 (m : Mach) : m.cells[24]? = some (.int .u64 (m.v.wait.value)) := rfl
theorem Mach.get25 (m : Mach) : m.cells[25]? = some (.slice m.pa m.pn m.pk) := rfl
theorem Mach.get26 (m : Mach) : m.cells[26]? = some (.int .i64 (m.ins.op)) := rfl
theorem Mach.get27 (m : Mach) : m.cells[27]? = some (.int .i64 (m.ins.a)) := rfl
theorem Mach.get28 (m : Mach) : m.cells[28]? = some (.int .i64 (m.ins.b)) := rfl
theorem Mach.get29 (m : Mach) : m.cells[29]? = some (.int .i64 (m.ins.c)) := rfl
theorem Mach.get30 (m : Mach) : m.cells[30]? = some (.int .i32 (m.ins.imm)) := rfl
theorem Mach.get31 (m : Mach) : m.cells[31]? = some (.int .i64 (m.next)) := rfl
theorem Mach.get32 (m : Mach) : m.cells[32]? = some (.int .i64 (m.eff.kind)) := rfl
theorem Mach.get33 (m : Mach) : m.cells[33]? = some (.int .i64 (m.eff.reg)) := rfl
theorem Mach.get34 (m : Mach) : m.cells[34]? = some (.int .i64 (m.eff.num)) := rfl
theorem Mach.get35 (m : Mach) : m.cells[35]? = some (.int .u64 (m.eff.addr)) := rfl
theorem Mach.get36 (m : Mach) : m.cells[36]? = some (.int .u64 (m.eff.value)) := rfl
attribute [local go_sem] Mach.get0 Mach.get1 Mach.get2 Mach.get3 Mach.get4 Mach.get5 Mach.get6 Mach.get7 Mach.get8 Mach.get9 Mach.get10 Mach.get11 Mach.get12 Mach.get13 Mach.get14 Mach.get15 Mach.get16 Mach.get17 Mach.get18 Mach.get19 Mach.get20 Mach.get21 Mach.get22 Mach.get23 Mach.get24 Mach.get25 Mach.get26 Mach.get27 Mach.get28 Mach.get29 Mach.get30 Mach.get31 Mach.get32 Mach.get33 Mach.get34 Mach.get35 Mach.get36
theorem Mach.reg (m : Mach) (i : Nat) (h : i < 16) : m.cells[4 + i]? = some (.int .u64 (m.v.r i)) := by
  have h16 : i = 0 ∨ i = 1 ∨ i = 2 ∨ i = 3 ∨ i = 4 ∨ i = 5 ∨ i = 6 ∨ i = 7 ∨ i = 8 ∨ i = 9 ∨ i = 10 ∨ i = 11 ∨ i = 12 ∨ i = 13 ∨ i = 14 ∨ i = 15 := by omega
  rcases h16 with rfl | rfl | rfl | rfl | rfl | rfl | rfl | rfl | rfl | rfl | rfl | rfl | rfl | rfl | rfl | rfl <;> rfl
theorem Mach.set_reg (m : Mach) (i : Nat) (x : Int) (hl : m.v.regs.length = 16) (hi : i < 16) : m.cells.setIfInBounds (4 + i) (.int .u64 x) = { m with v := m.v.setR i x : Mach }.cells := by
  have h := fun j => m.v.r_set i j x hl hi
  unfold Mach.cells
  simp only [h]
  have h16 : i = 0 ∨ i = 1 ∨ i = 2 ∨ i = 3 ∨ i = 4 ∨ i = 5 ∨ i = 6 ∨ i = 7 ∨ i = 8 ∨ i = 9 ∨ i = 10 ∨ i = 11 ∨ i = 12 ∨ i = 13 ∨ i = 14 ∨ i = 15 := by omega
  rcases h16 with rfl | rfl | rfl | rfl | rfl | rfl | rfl | rfl | rfl | rfl | rfl | rfl | rfl | rfl | rfl | rfl <;> rfl
/-- What the methods take for granted. -/
structure Mach.fits (m : Mach) : Prop where
  wide : m.v.width = 32 ∨ m.v.width = 39
  len : m.v.regs.length = 16
  reg : ∀ i, 0 ≤ m.v.r i ∧ m.v.r i < pw2 m.v.width
  a : 0 ≤ m.ins.a ∧ m.ins.a < 16
  b : 0 ≤ m.ins.b ∧ m.ins.b < 16
  c : 0 ≤ m.ins.c ∧ m.ins.c < 16
  imm : -2147483648 ≤ m.ins.imm ∧ m.ins.imm ≤ 2147483647
  pc : 0 ≤ m.v.pc ∧ m.v.pc ≤ 4096
  pn : m.pn ≤ 4096
theorem pw2_pos (w : Int) : 0 < pw2 w ∧ pw2 w ≤ 549755813888 := by unfold pw2; split <;> omega
theorem mask32 (x : Int) (h0 : 0 ≤ x) (h1 : x ≤ 18446744073709551615) : bits BinOp.and IntKind.u64 x 4294967295 = x % 4294967296 := by
  obtain ⟨n, rfl⟩ := Int.eq_ofNat_of_zero_le h0
  rw [show (4294967295 : Int) = ((4294967295 : Nat) : Int) from rfl, bits_and_u64_nat n 4294967295 (by omega) (by decide), show 4294967295 = 2 ^ 32 - 1 from rfl, Nat.and_two_pow_sub_one_eq_mod]; rfl
theorem mask39 (x : Int) (h0 : 0 ≤ x) (h1 : x ≤ 18446744073709551615) : bits BinOp.and IntKind.u64 x 549755813887 = x % 549755813888 := by
  obtain ⟨n, rfl⟩ := Int.eq_ofNat_of_zero_le h0
  rw [show (549755813887 : Int) = ((549755813887 : Nat) : Int) from rfl, bits_and_u64_nat n 549755813887 (by omega) (by decide), show 549755813887 = 2 ^ 39 - 1 from rfl, Nat.and_two_pow_sub_one_eq_mod]; rfl

/-- A method that reads: its value; the world has only drawn. -/
def RD (w : World) (x : Int) (e : Ending) (w' : World) : Prop := e = .returned (.int .u64 x) ∧ ∃ n, w' = w.drewN n
/-- A method that changes the machine in block b to m. -/
def ST (b : Nat) (m : Mach) (w : World) (e : Ending) (w' : World) : Prop := e = .returned (.tuple #[]) ∧ MB w' b m ∧ Only b w w'

theorem wrap_u64_bd (x : Int) : 0 ≤ IntKind.u64.wrap x ∧ IntKind.u64.wrap x ≤ 18446744073709551615 := by
  rw [IntKind.wrap_u64]; omega
theorem wrap_imm (x w : Int) (_hw : w = 32 ∨ w = 39) : IntKind.u64.wrap x % pw2 w = x % pw2 w := by
  rw [IntKind.wrap_u64]; unfold pw2; split <;> omega
theorem reduce_any (b : Nat) (m : Mach) (x : Int) (w : World) (h : MB w b m) (hf : m.fits) (h0 : 0 ≤ x) (h1 : x ≤ 18446744073709551615) :
    Calls Tryz.prog 102 #[.pointer (some ⟨b, 0, none⟩), .int .u64 x] w (RD w (x % pw2 m.v.width)) := by
  have c0 : w.cell? ⟨b, 0, none⟩ = some (.int .i64 m.v.width) := h.cell rfl
  rcases hf.wide with hw | hw
  · rw [hw] at c0 ⊢
    have hm := Lib.hid (mask32 x h0 h1)
    clear h hf hw
    go_enter Tryz.func102, Tryz.ntmps102
    go_wp2
    go_ret
    exact ⟨ret_int (by rw [← show bits BinOp.and IntKind.u64 x 4294967295 = x % pw2 32 from hm.out]), 0, rfl⟩
  · rw [hw] at c0 ⊢
    have hm := Lib.hid (mask39 x h0 h1)
    clear h hf hw
    go_enter Tryz.func102, Tryz.ntmps102
    go_wp2
    go_ret
    exact ⟨ret_int (by rw [← show bits BinOp.and IntKind.u64 x 549755813887 = x % pw2 39 from hm.out]), 0, rfl⟩
theorem a_any (b : Nat) (m : Mach) (w : World) (h : MB w b m) (hf : m.fits) :
    Calls Tryz.prog 86 #[.pointer (some ⟨b, 0, none⟩)] w (RD w (m.v.r m.ins.a.toNat)) := by
  have c0 : w.cell? ⟨b, 27, none⟩ = some (.int .i64 m.ins.a) := h.cell rfl
  obtain ⟨h0, h1⟩ := hf.a
  have c1 : w.cell? ⟨b, 4 + m.ins.a.toNat, none⟩ = some (.int .u64 (m.v.r m.ins.a.toNat)) := h.cell (m.reg _ (by omega))
  clear h hf
  go_enter Tryz.func86, Tryz.ntmps86
  go_wp2_with fail
  go_quiet (fail)
  go_wp2
  go_ret
  exact ⟨rfl, _, rfl⟩
theorem b_any (b : Nat) (m : Mach) (w : World) (h : MB w b m) (hf : m.fits) :
    Calls Tryz.prog 87 #[.pointer (some ⟨b, 0, none⟩)] w (RD w (m.v.r m.ins.b.toNat)) := by
  have c0 : w.cell? ⟨b, 28, none⟩ = some (.int .i64 m.ins.b) := h.cell rfl
  obtain ⟨h0, h1⟩ := hf.b
  have c1 : w.cell? ⟨b, 4 + m.ins.b.toNat, none⟩ = some (.int .u64 (m.v.r m.ins.b.toNat)) := h.cell (m.reg _ (by omega))
  clear h hf
  go_enter Tryz.func87, Tryz.ntmps87
  go_wp2_with fail
  go_quiet (fail)
  go_wp2
  go_ret
  exact ⟨rfl, _, rfl⟩
theorem c_any (b : Nat) (m : Mach) (w : World) (h : MB w b m) (hf : m.fits) :
    Calls Tryz.prog 88 #[.pointer (some ⟨b, 0, none⟩)] w (RD w (m.v.r m.ins.c.toNat)) := by
  have c0 : w.cell? ⟨b, 29, none⟩ = some (.int .i64 m.ins.c) := h.cell rfl
  obtain ⟨h0, h1⟩ := hf.c
  have c1 : w.cell? ⟨b, 4 + m.ins.c.toNat, none⟩ = some (.int .u64 (m.v.r m.ins.c.toNat)) := h.cell (m.reg _ (by omega))
  clear h hf
  go_enter Tryz.func88, Tryz.ntmps88
  go_wp2_with fail
  go_quiet (fail)
  go_wp2
  go_ret
  exact ⟨rfl, _, rfl⟩
theorem imm_any (b : Nat) (m : Mach) (w : World) (h : MB w b m) (hf : m.fits) :
    Calls Tryz.prog 85 #[.pointer (some ⟨b, 0, none⟩)] w (RD w (m.ins.imm % pw2 m.v.width)) := by
  have c0 : w.cell? ⟨b, 30, none⟩ = some (.int .i32 m.ins.imm) := h.cell rfl
  obtain ⟨h0, h1⟩ := hf.imm
  go_enter Tryz.func85, Tryz.ntmps85
  have hw := Lib.hid (wrap_imm m.ins.imm m.v.width hf.wide)
  go_wp2_with fail
  refine (reduce_any b m _ _ h hf (wrap_u64_bd _).1 (wrap_u64_bd _).2).mono ?_
  rintro e w' ⟨rfl, n, rfl⟩
  go_wp2
  go_ret
  exact ⟨ret_int hw.out, _, rfl⟩
def Mach.setX (m : Mach) (x : Int) : Mach := { m with v := m.v.setR m.ins.a.toNat (x % pw2 m.v.width) }
def Mach.trapM (m : Mach) (c : Int) : Mach := { m with v := { m.v with state := 3, cause := c }, next := m.v.pc, eff := ⟨6, 0, c, 0, 0⟩ }
def Mach.waitM (m : Mach) (e : Eff) : Mach := { m with v := { m.v with state := 1, wait := e }, eff := e }
def Mach.jumpM (m : Mach) (to : Int) : Mach := if (m.pn : Int) ≤ to then m.trapM 2 else { m with next := to }
theorem ST.of {b : Nat} {m m' : Mach} {w w1 w' : World} {e : Ending} (h : ST b m w1 e w') (ho : Only b w w1) (he : m = m') : ST b m' w e w' := ⟨h.1, he ▸ h.2.1, ho.trans h.2.2⟩
theorem set_any (b : Nat) (m : Mach) (x : Int) (w : World) (h : MB w b m) (hf : m.fits) (h0 : 0 ≤ x) (h1 : x ≤ 18446744073709551615) :
    Calls Tryz.prog 84 #[.pointer (some ⟨b, 0, none⟩), .int .u64 x] w (ST b (m.setX x) w) := by
  have c0 : w.cell? ⟨b, 27, none⟩ = some (.int .i64 m.ins.a) := h.cell rfl
  obtain ⟨ha0, ha1⟩ := hf.a
  have c1 : w.cell? ⟨b, 4 + m.ins.a.toNat, none⟩ = some (.int .u64 (m.v.r m.ins.a.toNat)) := h.cell (m.reg _ (by omega))
  have f1 := h.frozen (4 + m.ins.a.toNat)
  have hs := Lib.hid (m.set_reg m.ins.a.toNat (x % pw2 m.v.width) hf.len (by omega))
  go_enter Tryz.func84, Tryz.ntmps84
  go_wp2_with fail
  go_region_with (first | (go_at_call 102; refine (reduce_any _ m _ _ (by first | exact h | (simp; exact h)) hf h0 h1).mono ?_; rintro e w' ⟨rfl, n, rfl⟩))
  all_goals
    go_end0
    exact ⟨rfl, (h.drew _).set hs.out, ((Only.refl _ _).drewN _).setCell _ _⟩
end
section
open Go.RowKit

theorem validWidth_any (n : Int) (w : World) : Calls Tryz.prog 71 #[.int .i64 n] w fun e w' => e = .returned (.bool (wide n)) ∧ w = w' := by
  go_enter Tryz.func71, Tryz.ntmps71
  go_wp2
  all_goals (go_ret; refine ⟨ret_bool (Bool.eq_iff_iff.2 ?_), rfl⟩; simp [wide]; try omega)
theorem wide_iff (n : Int) : wide n = true ↔ n = 32 ∨ n = 39 := by simp [wide]
theorem signed32 (v : Int) : wrap64 (IntKind.u64.wrap (v * 4294967296)) / 4294967296 = signed 32 v := by
  unfold wrap64
  rw [IntKind.wrap_u64]
  unfold signed
  rw [show wide 32 = true from rfl, if_pos rfl, show pw2 32 = 4294967296 from rfl]
  split <;> omega
theorem signed39 (v : Int) : wrap64 (IntKind.u64.wrap (v * 33554432)) / 33554432 = signed 39 v := by
  unfold wrap64
  rw [IntKind.wrap_u64]
  unfold signed
  rw [show wide 39 = true from rfl, if_pos rfl, show pw2 39 = 549755813888 from rfl]
  split <;> omega
theorem signed_no {n v : Int} (h : wide n = false) : signed n v = 0 := by unfold signed; rw [h]; rfl
theorem Signed_any (n v : Int) (w : World) (_h0 : 0 ≤ v) (_h1 : v ≤ 18446744073709551615) :
    Calls Tryz.prog 25 #[.int .i64 n, .int .u64 v] w fun e w' => e = .returned (.int .i64 (signed n v)) ∧ w = w' := by
  rcases Bool.eq_false_or_eq_true (wide n) with h | h
  · rcases (wide_iff n).1 h with rfl | rfl
    · have hs := Lib.hid (signed32 v)
      go_enter Tryz.func25, Tryz.ntmps25
      go_wp2_with (go_at_call 71; refine (validWidth_any _ _).mono ?_; rintro e w' ⟨rfl, rfl⟩)
      go_ret
      exact ⟨ret_int hs.out, rfl⟩
    · have hs := Lib.hid (signed39 v)
      go_enter Tryz.func25, Tryz.ntmps25
      go_wp2_with (go_at_call 71; refine (validWidth_any _ _).mono ?_; rintro e w' ⟨rfl, rfl⟩)
      go_ret
      exact ⟨ret_int hs.out, rfl⟩
  · have hs := Lib.hid (signed_no (v := v) h)
    go_enter Tryz.func25, Tryz.ntmps25
    go_wp2_with (go_at_call 71; refine (validWidth_any _ _).mono ?_; rintro e w' ⟨rfl, rfl⟩)
    go_ret
    exact ⟨ret_int hs.out.symm, rfl⟩
end
section
open Go.RowKit
attribute [local go_sem ↓] Go.wp_at_zero Go.wp_at_succ
attribute [local go_sem] Mach.get0 Mach.get1 Mach.get2 Mach.get3 Mach.get4 Mach.get5 Mach.get6 Mach.get7 Mach.get8 Mach.get9 Mach.get10 Mach.get11 Mach.get12 Mach.get13 Mach.get14 Mach.get15 Mach.get16 Mach.get17 Mach.get18 Mach.get19 Mach.get20 Mach.get21 Mach.get22 Mach.get23 Mach.get24 Mach.get25 Mach.get26 Mach.get27 Mach.get28 Mach.get29 Mach.get30 Mach.get31 Mach.get32 Mach.get33 Mach.get34 Mach.get35 Mach.get36
theorem Mach.rbd {m : Mach} (h : m.fits) (i : Nat) : 0 ≤ m.v.r i ∧ m.v.r i < 549755813888 := by have := h.reg i; have := (pw2_pos m.v.width).2; omega
theorem Mach.ibd (m : Mach) : 0 ≤ m.ins.imm % pw2 m.v.width ∧ m.ins.imm % pw2 m.v.width < 549755813888 := by
  have h := pw2_pos m.v.width
  have := Int.emod_nonneg m.ins.imm (show pw2 m.v.width ≠ 0 by omega)
  have := Int.emod_lt_of_pos m.ins.imm h.1
  omega
theorem wrap_mod (x w : Int) (_hw : w = 32 ∨ w = 39) : IntKind.u64.wrap x % pw2 w = x % pw2 w := by
  rw [IntKind.wrap_u64]; unfold pw2; split <;> omega

theorem trap_any (b : Nat) (m : Mach) (c : Int) (w : World) (h : MB w b m) :
    Calls Tryz.prog 70 #[.pointer (some ⟨b, 0, none⟩), .int .i64 c] w (ST b (m.trapM c) w) := by
  obtain ⟨hc, hfr⟩ := h.all
  have hlt := h.lt
  have H := Lib.hid h
  clear h
  go_enter Tryz.func70, Tryz.ntmps70
  go_wp2
  go_end0
  refine ⟨rfl, ?_, ?_⟩
  · unfold MB
    repeat (first | rw [heap_set] | rw [World.heap_drewN] | rw [heap_drew1] | (with_reducible refine (Below.heap_alloc _ _ _ ?_).trans ?_; (repeat (first | with_reducible exact hlt | rw [size_set]))))
    rw [show w.heap[b]? = _ from H.out]
    kernel_rfl
  · repeat (first | with_reducible refine Only.setCell ?_ _ _ | with_reducible refine Only.alloc2 ?_ _ | with_reducible refine Only.drewN ?_ _ | with_reducible refine Only.drew ?_ | with_reducible exact Only.refl _ _)
theorem wait_any (b : Nat) (m : Mach) (k r n a v : Int) (w : World) (h : MB w b m) :
    Calls Tryz.prog 93 #[.pointer (some ⟨b, 0, none⟩), .agg #[.int .i64 k, .int .i64 r, .int .i64 n, .int .u64 a, .int .u64 v]] w (ST b (m.waitM ⟨k, r, n, a, v⟩) w) := by
  obtain ⟨hc, hfr⟩ := h.all
  have hlt := h.lt
  have H := Lib.hid h
  clear h
  go_enter Tryz.func93, Tryz.ntmps93
  go_wp2_with fail
  go_region
  all_goals
    go_end0
    refine ⟨rfl, ?_, ?_⟩
    · unfold MB
      repeat (first | rw [heap_set] | rw [World.heap_drewN] | rw [heap_drew1] | (with_reducible refine (Below.heap_alloc _ _ _ ?_).trans ?_; (repeat (first | with_reducible exact hlt | rw [size_set]))))
      rw [show w.heap[b]? = _ from H.out]
      kernel_rfl
    · repeat (first | with_reducible refine Only.setCell ?_ _ _ | with_reducible refine Only.alloc2 ?_ _ | with_reducible refine Only.drewN ?_ _ | with_reducible refine Only.drew ?_ | with_reducible exact Only.refl _ _)
theorem jump_any (b : Nat) (m : Mach) (to : Int) (w : World) (h : MB w b m) (hf : m.fits) (h0 : 0 ≤ to) (h1 : to < 549755813888) :
    Calls Tryz.prog 91 #[.pointer (some ⟨b, 0, none⟩), .int .u64 to] w (ST b (m.jumpM to) w) := by
  obtain ⟨hc, hfr⟩ := h.all
  have hpn := hf.pn
  have hlt := h.lt
  have H := Lib.hid h
  clear h
  by_cases hj : (m.pn : Int) ≤ to
  · have hm : m.jumpM to = m.trapM 2 := by unfold Mach.jumpM; rw [if_pos hj]
    rw [hm]; clear hm
    go_enter Tryz.func91, Tryz.ntmps91
    go_wp2_with (go_at_call 70; refine (trap_any b m _ _ H.out).mono ?_; rintro e w' ⟨rfl, hm, ho⟩)
    go_end0
    exact ⟨rfl, by assumption, by assumption⟩
  · have hm : m.jumpM to = { m with next := to } := by unfold Mach.jumpM; rw [if_neg hj]
    rw [hm]; clear hm
    go_enter Tryz.func91, Tryz.ntmps91
    go_wp2
    go_end0
    refine ⟨rfl, ?_, ?_⟩
    · unfold MB
      repeat (first | rw [heap_set] | rw [World.heap_drewN] | rw [heap_drew1] | (with_reducible refine (Below.heap_alloc _ _ _ ?_).trans ?_; (repeat (first | with_reducible exact hlt | rw [size_set]))))
      rw [show w.heap[b]? = _ from H.out]
      kernel_rfl
    · repeat (first | with_reducible refine Only.setCell ?_ _ _ | with_reducible refine Only.alloc2 ?_ _ | with_reducible refine Only.drewN ?_ _ | with_reducible refine Only.drew ?_ | with_reducible exact Only.refl _ _)
theorem test_any (b : Nat) (m : Mach) (ok : Bool) (w : World) (h : MB w b m) (hf : m.fits) :
    Calls Tryz.prog 90 #[.pointer (some ⟨b, 0, none⟩), .bool ok] w (ST b (m.setX (truth ok)) w) := by
  cases ok with
  | true =>
    go_enter Tryz.func90, Tryz.ntmps90
    go_wp2_with (go_at_call 84; refine (set_any b m _ _ h hf (by decide) (by decide)).mono ?_; rintro e w' ⟨rfl, hm, ho⟩)
    go_end0
    exact ⟨rfl, by assumption, by assumption⟩
  | false =>
    go_enter Tryz.func90, Tryz.ntmps90
    go_wp2_with (go_at_call 84; refine (set_any b m _ _ h hf (by decide) (by decide)).mono ?_; rintro e w' ⟨rfl, hm, ho⟩)
    go_end0
    exact ⟨rfl, by assumption, by assumption⟩
theorem halt_any (b : Nat) (m : Mach) (w : World) (h : MB w b m) (hf : m.fits) :
    Calls Tryz.prog 42 #[.pointer (some ⟨b, 0, none⟩)] w (ST b { m with v := { m.v with state := 2 }, eff := { m.eff with kind := 5 } } w) := by
  obtain ⟨hc, hfr⟩ := h.all
  have hlt := h.lt
  have H := Lib.hid h
  clear h
  go_enter Tryz.func42, Tryz.ntmps42
  go_wp2
  go_end0
  refine ⟨rfl, ?_, ?_⟩
  · unfold MB
    repeat (first | rw [heap_set] | rw [World.heap_drewN] | rw [heap_drew1] | (with_reducible refine (Below.heap_alloc _ _ _ ?_).trans ?_; (repeat (first | with_reducible exact hlt | rw [size_set]))))
    rw [show w.heap[b]? = _ from H.out]
    kernel_rfl
  · repeat (first | with_reducible refine Only.setCell ?_ _ _ | with_reducible refine Only.alloc2 ?_ _ | with_reducible refine Only.drewN ?_ _ | with_reducible refine Only.drew ?_ | with_reducible exact Only.refl _ _)
theorem yield_any (b : Nat) (m : Mach) (w : World) (h : MB w b m) (hf : m.fits) :
    Calls Tryz.prog 68 #[.pointer (some ⟨b, 0, none⟩)] w (ST b { m with eff := { m.eff with kind := 4 } } w) := by
  obtain ⟨hc, hfr⟩ := h.all
  have hlt := h.lt
  have H := Lib.hid h
  clear h
  go_enter Tryz.func68, Tryz.ntmps68
  go_wp2
  go_end0
  refine ⟨rfl, ?_, ?_⟩
  · unfold MB
    repeat (first | rw [heap_set] | rw [World.heap_drewN] | rw [heap_drew1] | (with_reducible refine (Below.heap_alloc _ _ _ ?_).trans ?_; (repeat (first | with_reducible exact hlt | rw [size_set]))))
    rw [show w.heap[b]? = _ from H.out]
    kernel_rfl
  · repeat (first | with_reducible refine Only.setCell ?_ _ _ | with_reducible refine Only.alloc2 ?_ _ | with_reducible refine Only.drewN ?_ _ | with_reducible refine Only.drew ?_ | with_reducible exact Only.refl _ _)
theorem nop_any (b : Nat) (m : Mach) (w : World) (h : MB w b m) (hf : m.fits) :
    Calls Tryz.prog 69 #[.pointer (some ⟨b, 0, none⟩)] w (ST b m w) := by
  have hlt := h.lt
  have H := Lib.hid h
  clear h
  go_enter Tryz.func69, Tryz.ntmps69
  go_wp2
  go_end0
  exact ⟨rfl, H.out, Only.refl _ _⟩
end
section
open Go.RowKit
attribute [local go_sem ↓] Go.wp_at_zero Go.wp_at_succ
attribute [local go_sem] Mach.get0 Mach.get1 Mach.get2 Mach.get3 Mach.get4 Mach.get5 Mach.get6 Mach.get7 Mach.get8 Mach.get9 Mach.get10 Mach.get11 Mach.get12 Mach.get13 Mach.get14 Mach.get15 Mach.get16 Mach.get17 Mach.get18 Mach.get19 Mach.get20 Mach.get21 Mach.get22 Mach.get23 Mach.get24 Mach.get25 Mach.get26 Mach.get27 Mach.get28 Mach.get29 Mach.get30 Mach.get31 Mach.get32 Mach.get33 Mach.get34 Mach.get35 Mach.get36
def Mach.alu (m : Mach) : Mach := m.setX (compute m.v.width m.ins.op (m.v.r m.ins.a.toNat) (m.v.r m.ins.b.toNat) (m.v.r m.ins.c.toNat) (m.ins.imm % pw2 m.v.width))
theorem bitsN_and (x y : Int) (hx : 0 ≤ x) (hx1 : x < 18446744073709551616) (hy : 0 ≤ y) (hy1 : y < 18446744073709551616) : bits BinOp.and IntKind.u64 x y = ((x.toNat &&& y.toNat : Nat) : Int) := by
  obtain ⟨a, rfl⟩ := Int.eq_ofNat_of_zero_le hx
  obtain ⟨c, rfl⟩ := Int.eq_ofNat_of_zero_le hy
  exact bits_and_u64_nat a c (by omega) (by omega)
theorem bitsN_or (x y : Int) (hx : 0 ≤ x) (hx1 : x < 18446744073709551616) (hy : 0 ≤ y) (hy1 : y < 18446744073709551616) : bits BinOp.or IntKind.u64 x y = ((x.toNat ||| y.toNat : Nat) : Int) := by
  obtain ⟨a, rfl⟩ := Int.eq_ofNat_of_zero_le hx
  obtain ⟨c, rfl⟩ := Int.eq_ofNat_of_zero_le hy
  exact bits_or_u64_nat a c (by omega) (by omega)
theorem bitsN_xor (x y : Int) (hx : 0 ≤ x) (hx1 : x < 18446744073709551616) (hy : 0 ≤ y) (hy1 : y < 18446744073709551616) : bits BinOp.xor IntKind.u64 x y = ((x.toNat ^^^ y.toNat : Nat) : Int) := by
  obtain ⟨a, rfl⟩ := Int.eq_ofNat_of_zero_le hx
  obtain ⟨c, rfl⟩ := Int.eq_ofNat_of_zero_le hy
  exact bits_xor_u64_nat a c (by omega) (by omega)
theorem lih_mod (a x w : Int) (h0 : 0 ≤ a) (h1 : a ≤ 18446744073709551615) (hx : -2147483648 ≤ x ∧ x ≤ 2147483647) (hw : w = 32 ∨ w = 39) :
    IntKind.u64.wrap (bits BinOp.and IntKind.u64 a 4294967295 + IntKind.u64.wrap (IntKind.u64.wrap (IntKind.i64.wrap x) * 4294967296)) % pw2 w = (a % 4294967296 + x % pw2 w * 4294967296) % pw2 w := by
  rw [mask32 a h0 h1, IntWalk.i64_in x (by omega)]
  simp only [IntKind.wrap_u64]
  unfold pw2
  split <;> omega
theorem setX_congr (m : Mach) {x y : Int} (h : x % pw2 m.v.width = y % pw2 m.v.width) : m.setX x = m.setX y := by unfold Mach.setX; rw [h]

theorem li_any (b : Nat) (m : Mach) (w : World) (h : MB w b m) (hf : m.fits) (hop : m.ins.op = 1) :
    Calls Tryz.prog 43 #[.pointer (some ⟨b, 0, none⟩)] w (ST b m.alu w) := by
  obtain ⟨ra0, ra1⟩ := m.rbd hf m.ins.a.toNat
  obtain ⟨rb0, rb1⟩ := m.rbd hf m.ins.b.toNat
  obtain ⟨rc0, rc1⟩ := m.rbd hf m.ins.c.toNat
  obtain ⟨im0, im1⟩ := m.ibd
  have hfin : m.setX (m.ins.imm % pw2 m.v.width) = m.alu := by
    unfold Mach.alu compute
    rw [hop]
    rfl
  have HE := Lib.hid hfin
  have H := Lib.hid h
  clear h hop hfin
  go_enter Tryz.func43, Tryz.ntmps43
  go_wp2_with (first | (go_at_call 85; refine (imm_any b m _ (by exact H.out) hf).mono ?_; rintro e w' ⟨rfl, n, rfl⟩) | (go_at_call 84; refine (set_any b m _ _ (by exact H.out) hf (by first | omega | exact (wrap_u64_bd _).1) (by first | omega | exact (wrap_u64_bd _).2)).mono ?_; rintro e w' ⟨rfl, hm, ho⟩))
  all_goals
    go_end0
    exact ST.of ⟨rfl, by assumption, by assumption⟩ (by repeat (first | with_reducible refine Only.drewN ?_ _ | with_reducible exact Only.refl _ _)) HE.out
theorem mov_any (b : Nat) (m : Mach) (w : World) (h : MB w b m) (hf : m.fits) (hop : m.ins.op = 3) :
    Calls Tryz.prog 45 #[.pointer (some ⟨b, 0, none⟩)] w (ST b m.alu w) := by
  obtain ⟨ra0, ra1⟩ := m.rbd hf m.ins.a.toNat
  obtain ⟨rb0, rb1⟩ := m.rbd hf m.ins.b.toNat
  obtain ⟨rc0, rc1⟩ := m.rbd hf m.ins.c.toNat
  obtain ⟨im0, im1⟩ := m.ibd
  have hfin : m.setX (m.v.r m.ins.b.toNat) = m.alu := by
    unfold Mach.alu compute
    rw [hop]
    rfl
  have HE := Lib.hid hfin
  have H := Lib.hid h
  clear h hop hfin
  go_enter Tryz.func45, Tryz.ntmps45
  go_wp2_with (first | (go_at_call 87; refine (b_any b m _ (by exact H.out) hf).mono ?_; rintro e w' ⟨rfl, n, rfl⟩) | (go_at_call 84; refine (set_any b m _ _ (by exact H.out) hf (by first | omega | exact (wrap_u64_bd _).1) (by first | omega | exact (wrap_u64_bd _).2)).mono ?_; rintro e w' ⟨rfl, hm, ho⟩))
  all_goals
    go_end0
    exact ST.of ⟨rfl, by assumption, by assumption⟩ (by repeat (first | with_reducible refine Only.drewN ?_ _ | with_reducible exact Only.refl _ _)) HE.out
theorem add_any (b : Nat) (m : Mach) (w : World) (h : MB w b m) (hf : m.fits) (hop : m.ins.op = 4) :
    Calls Tryz.prog 46 #[.pointer (some ⟨b, 0, none⟩)] w (ST b m.alu w) := by
  obtain ⟨ra0, ra1⟩ := m.rbd hf m.ins.a.toNat
  obtain ⟨rb0, rb1⟩ := m.rbd hf m.ins.b.toNat
  obtain ⟨rc0, rc1⟩ := m.rbd hf m.ins.c.toNat
  obtain ⟨im0, im1⟩ := m.ibd
  have hfin : m.setX (m.v.r m.ins.b.toNat + m.v.r m.ins.c.toNat) = m.alu := by
    unfold Mach.alu compute
    rw [hop]
    rfl
  have HE := Lib.hid hfin
  have H := Lib.hid h
  clear h hop hfin
  go_enter Tryz.func46, Tryz.ntmps46
  go_wp2_with (first | (go_at_call 87; refine (b_any b m _ (by exact H.out) hf).mono ?_; rintro e w' ⟨rfl, n, rfl⟩) | (go_at_call 88; refine (c_any b m _ (by exact H.out) hf).mono ?_; rintro e w' ⟨rfl, n, rfl⟩) | (go_at_call 84; refine (set_any b m _ _ (by exact H.out) hf (by first | omega | exact (wrap_u64_bd _).1) (by first | omega | exact (wrap_u64_bd _).2)).mono ?_; rintro e w' ⟨rfl, hm, ho⟩))
  all_goals
    go_end0
    exact ST.of ⟨rfl, by assumption, by assumption⟩ (by repeat (first | with_reducible refine Only.drewN ?_ _ | with_reducible exact Only.refl _ _)) HE.out
theorem sub_any (b : Nat) (m : Mach) (w : World) (h : MB w b m) (hf : m.fits) (hop : m.ins.op = 5) :
    Calls Tryz.prog 47 #[.pointer (some ⟨b, 0, none⟩)] w (ST b m.alu w) := by
  obtain ⟨ra0, ra1⟩ := m.rbd hf m.ins.a.toNat
  obtain ⟨rb0, rb1⟩ := m.rbd hf m.ins.b.toNat
  obtain ⟨rc0, rc1⟩ := m.rbd hf m.ins.c.toNat
  obtain ⟨im0, im1⟩ := m.ibd
  have hfin : m.setX (IntKind.u64.wrap (m.v.r m.ins.b.toNat - m.v.r m.ins.c.toNat)) = m.alu := by
    unfold Mach.alu compute
    rw [hop]
    exact setX_congr m (wrap_mod _ _ hf.wide)
  have HE := Lib.hid hfin
  have H := Lib.hid h
  clear h hop hfin
  go_enter Tryz.func47, Tryz.ntmps47
  go_wp2_with (first | (go_at_call 87; refine (b_any b m _ (by exact H.out) hf).mono ?_; rintro e w' ⟨rfl, n, rfl⟩) | (go_at_call 88; refine (c_any b m _ (by exact H.out) hf).mono ?_; rintro e w' ⟨rfl, n, rfl⟩) | (go_at_call 84; refine (set_any b m _ _ (by exact H.out) hf (by first | omega | exact (wrap_u64_bd _).1) (by first | omega | exact (wrap_u64_bd _).2)).mono ?_; rintro e w' ⟨rfl, hm, ho⟩))
  all_goals
    go_end0
    exact ST.of ⟨rfl, by assumption, by assumption⟩ (by repeat (first | with_reducible refine Only.drewN ?_ _ | with_reducible exact Only.refl _ _)) HE.out
theorem mul_any (b : Nat) (m : Mach) (w : World) (h : MB w b m) (hf : m.fits) (hop : m.ins.op = 6) :
    Calls Tryz.prog 48 #[.pointer (some ⟨b, 0, none⟩)] w (ST b m.alu w) := by
  obtain ⟨ra0, ra1⟩ := m.rbd hf m.ins.a.toNat
  obtain ⟨rb0, rb1⟩ := m.rbd hf m.ins.b.toNat
  obtain ⟨rc0, rc1⟩ := m.rbd hf m.ins.c.toNat
  obtain ⟨im0, im1⟩ := m.ibd
  have hfin : m.setX (IntKind.u64.wrap (m.v.r m.ins.b.toNat * m.v.r m.ins.c.toNat)) = m.alu := by
    unfold Mach.alu compute
    rw [hop]
    exact setX_congr m (wrap_mod _ _ hf.wide)
  have HE := Lib.hid hfin
  have H := Lib.hid h
  clear h hop hfin
  go_enter Tryz.func48, Tryz.ntmps48
  go_wp2_with (first | (go_at_call 87; refine (b_any b m _ (by exact H.out) hf).mono ?_; rintro e w' ⟨rfl, n, rfl⟩) | (go_at_call 88; refine (c_any b m _ (by exact H.out) hf).mono ?_; rintro e w' ⟨rfl, n, rfl⟩) | (go_at_call 84; refine (set_any b m _ _ (by exact H.out) hf (by first | omega | exact (wrap_u64_bd _).1) (by first | omega | exact (wrap_u64_bd _).2)).mono ?_; rintro e w' ⟨rfl, hm, ho⟩))
  all_goals
    go_end0
    exact ST.of ⟨rfl, by assumption, by assumption⟩ (by repeat (first | with_reducible refine Only.drewN ?_ _ | with_reducible exact Only.refl _ _)) HE.out
theorem and_any (b : Nat) (m : Mach) (w : World) (h : MB w b m) (hf : m.fits) (hop : m.ins.op = 9) :
    Calls Tryz.prog 51 #[.pointer (some ⟨b, 0, none⟩)] w (ST b m.alu w) := by
  obtain ⟨ra0, ra1⟩ := m.rbd hf m.ins.a.toNat
  obtain ⟨rb0, rb1⟩ := m.rbd hf m.ins.b.toNat
  obtain ⟨rc0, rc1⟩ := m.rbd hf m.ins.c.toNat
  obtain ⟨im0, im1⟩ := m.ibd
  have hfin : m.setX (bits BinOp.and IntKind.u64 (m.v.r m.ins.b.toNat) (m.v.r m.ins.c.toNat)) = m.alu := by
    unfold Mach.alu compute
    rw [hop]
    rw [bitsN_and _ _ rb0 (by omega) rc0 (by omega)]; rfl
  have HE := Lib.hid hfin
  have H := Lib.hid h
  clear h hop hfin
  go_enter Tryz.func51, Tryz.ntmps51
  go_wp2_with (first | (go_at_call 87; refine (b_any b m _ (by exact H.out) hf).mono ?_; rintro e w' ⟨rfl, n, rfl⟩) | (go_at_call 88; refine (c_any b m _ (by exact H.out) hf).mono ?_; rintro e w' ⟨rfl, n, rfl⟩) | (go_at_call 84; refine (set_any b m _ _ (by exact H.out) hf (by first | omega | exact (wrap_u64_bd _).1) (by first | omega | exact (wrap_u64_bd _).2)).mono ?_; rintro e w' ⟨rfl, hm, ho⟩))
  all_goals
    go_end0
    exact ST.of ⟨rfl, by assumption, by assumption⟩ (by repeat (first | with_reducible refine Only.drewN ?_ _ | with_reducible exact Only.refl _ _)) HE.out
theorem or_any (b : Nat) (m : Mach) (w : World) (h : MB w b m) (hf : m.fits) (hop : m.ins.op = 10) :
    Calls Tryz.prog 52 #[.pointer (some ⟨b, 0, none⟩)] w (ST b m.alu w) := by
  obtain ⟨ra0, ra1⟩ := m.rbd hf m.ins.a.toNat
  obtain ⟨rb0, rb1⟩ := m.rbd hf m.ins.b.toNat
  obtain ⟨rc0, rc1⟩ := m.rbd hf m.ins.c.toNat
  obtain ⟨im0, im1⟩ := m.ibd
  have hfin : m.setX (bits BinOp.or IntKind.u64 (m.v.r m.ins.b.toNat) (m.v.r m.ins.c.toNat)) = m.alu := by
    unfold Mach.alu compute
    rw [hop]
    rw [bitsN_or _ _ rb0 (by omega) rc0 (by omega)]; rfl
  have HE := Lib.hid hfin
  have H := Lib.hid h
  clear h hop hfin
  go_enter Tryz.func52, Tryz.ntmps52
  go_wp2_with (first | (go_at_call 87; refine (b_any b m _ (by exact H.out) hf).mono ?_; rintro e w' ⟨rfl, n, rfl⟩) | (go_at_call 88; refine (c_any b m _ (by exact H.out) hf).mono ?_; rintro e w' ⟨rfl, n, rfl⟩) | (go_at_call 84; refine (set_any b m _ _ (by exact H.out) hf (by first | omega | exact (wrap_u64_bd _).1) (by first | omega | exact (wrap_u64_bd _).2)).mono ?_; rintro e w' ⟨rfl, hm, ho⟩))
  all_goals
    go_end0
    exact ST.of ⟨rfl, by assumption, by assumption⟩ (by repeat (first | with_reducible refine Only.drewN ?_ _ | with_reducible exact Only.refl _ _)) HE.out
theorem xor_any (b : Nat) (m : Mach) (w : World) (h : MB w b m) (hf : m.fits) (hop : m.ins.op = 11) :
    Calls Tryz.prog 53 #[.pointer (some ⟨b, 0, none⟩)] w (ST b m.alu w) := by
  obtain ⟨ra0, ra1⟩ := m.rbd hf m.ins.a.toNat
  obtain ⟨rb0, rb1⟩ := m.rbd hf m.ins.b.toNat
  obtain ⟨rc0, rc1⟩ := m.rbd hf m.ins.c.toNat
  obtain ⟨im0, im1⟩ := m.ibd
  have hfin : m.setX (bits BinOp.xor IntKind.u64 (m.v.r m.ins.b.toNat) (m.v.r m.ins.c.toNat)) = m.alu := by
    unfold Mach.alu compute
    rw [hop]
    rw [bitsN_xor _ _ rb0 (by omega) rc0 (by omega)]; rfl
  have HE := Lib.hid hfin
  have H := Lib.hid h
  clear h hop hfin
  go_enter Tryz.func53, Tryz.ntmps53
  go_wp2_with (first | (go_at_call 87; refine (b_any b m _ (by exact H.out) hf).mono ?_; rintro e w' ⟨rfl, n, rfl⟩) | (go_at_call 88; refine (c_any b m _ (by exact H.out) hf).mono ?_; rintro e w' ⟨rfl, n, rfl⟩) | (go_at_call 84; refine (set_any b m _ _ (by exact H.out) hf (by first | omega | exact (wrap_u64_bd _).1) (by first | omega | exact (wrap_u64_bd _).2)).mono ?_; rintro e w' ⟨rfl, hm, ho⟩))
  all_goals
    go_end0
    exact ST.of ⟨rfl, by assumption, by assumption⟩ (by repeat (first | with_reducible refine Only.drewN ?_ _ | with_reducible exact Only.refl _ _)) HE.out
theorem addi_any (b : Nat) (m : Mach) (w : World) (h : MB w b m) (hf : m.fits) (hop : m.ins.op = 14) :
    Calls Tryz.prog 56 #[.pointer (some ⟨b, 0, none⟩)] w (ST b m.alu w) := by
  obtain ⟨ra0, ra1⟩ := m.rbd hf m.ins.a.toNat
  obtain ⟨rb0, rb1⟩ := m.rbd hf m.ins.b.toNat
  obtain ⟨rc0, rc1⟩ := m.rbd hf m.ins.c.toNat
  obtain ⟨im0, im1⟩ := m.ibd
  have hfin : m.setX (m.v.r m.ins.b.toNat + m.ins.imm % pw2 m.v.width) = m.alu := by
    unfold Mach.alu compute
    rw [hop]
    rfl
  have HE := Lib.hid hfin
  have H := Lib.hid h
  clear h hop hfin
  go_enter Tryz.func56, Tryz.ntmps56
  go_wp2_with (first | (go_at_call 87; refine (b_any b m _ (by exact H.out) hf).mono ?_; rintro e w' ⟨rfl, n, rfl⟩) | (go_at_call 85; refine (imm_any b m _ (by exact H.out) hf).mono ?_; rintro e w' ⟨rfl, n, rfl⟩) | (go_at_call 84; refine (set_any b m _ _ (by exact H.out) hf (by first | omega | exact (wrap_u64_bd _).1) (by first | omega | exact (wrap_u64_bd _).2)).mono ?_; rintro e w' ⟨rfl, hm, ho⟩))
  all_goals
    go_end0
    exact ST.of ⟨rfl, by assumption, by assumption⟩ (by repeat (first | with_reducible refine Only.drewN ?_ _ | with_reducible exact Only.refl _ _)) HE.out
theorem sltu_any (b : Nat) (m : Mach) (w : World) (h : MB w b m) (hf : m.fits) (hop : m.ins.op = 16) :
    Calls Tryz.prog 58 #[.pointer (some ⟨b, 0, none⟩)] w (ST b m.alu w) := by
  obtain ⟨ra0, ra1⟩ := m.rbd hf m.ins.a.toNat
  obtain ⟨rb0, rb1⟩ := m.rbd hf m.ins.b.toNat
  obtain ⟨rc0, rc1⟩ := m.rbd hf m.ins.c.toNat
  obtain ⟨im0, im1⟩ := m.ibd
  have hfin : m.setX (truth (decide (m.v.r m.ins.b.toNat < m.v.r m.ins.c.toNat))) = m.alu := by
    unfold Mach.alu compute
    rw [hop]
    rfl
  have HE := Lib.hid hfin
  have H := Lib.hid h
  clear h hop hfin
  go_enter Tryz.func58, Tryz.ntmps58
  go_wp2_with (first | (go_at_call 87; refine (b_any b m _ (by exact H.out) hf).mono ?_; rintro e w' ⟨rfl, n, rfl⟩) | (go_at_call 88; refine (c_any b m _ (by exact H.out) hf).mono ?_; rintro e w' ⟨rfl, n, rfl⟩) | (go_at_call 90; refine (test_any b m _ _ (by exact H.out) hf).mono ?_; rintro e w' ⟨rfl, hm, ho⟩))
  all_goals
    go_end0
    exact ST.of ⟨rfl, by assumption, by assumption⟩ (by repeat (first | with_reducible refine Only.drewN ?_ _ | with_reducible exact Only.refl _ _)) HE.out
theorem seq_any (b : Nat) (m : Mach) (w : World) (h : MB w b m) (hf : m.fits) (hop : m.ins.op = 17) :
    Calls Tryz.prog 59 #[.pointer (some ⟨b, 0, none⟩)] w (ST b m.alu w) := by
  obtain ⟨ra0, ra1⟩ := m.rbd hf m.ins.a.toNat
  obtain ⟨rb0, rb1⟩ := m.rbd hf m.ins.b.toNat
  obtain ⟨rc0, rc1⟩ := m.rbd hf m.ins.c.toNat
  obtain ⟨im0, im1⟩ := m.ibd
  have hfin : m.setX (truth (decide (m.v.r m.ins.b.toNat = m.v.r m.ins.c.toNat))) = m.alu := by
    unfold Mach.alu compute
    rw [hop]
    rfl
  have HE := Lib.hid hfin
  have H := Lib.hid h
  clear h hop hfin
  go_enter Tryz.func59, Tryz.ntmps59
  go_wp2_with (first | (go_at_call 87; refine (b_any b m _ (by exact H.out) hf).mono ?_; rintro e w' ⟨rfl, n, rfl⟩) | (go_at_call 88; refine (c_any b m _ (by exact H.out) hf).mono ?_; rintro e w' ⟨rfl, n, rfl⟩) | (go_at_call 90; refine (test_any b m _ _ (by exact H.out) hf).mono ?_; rintro e w' ⟨rfl, hm, ho⟩))
  all_goals
    go_end0
    exact ST.of ⟨rfl, by assumption, by assumption⟩ (by repeat (first | with_reducible refine Only.drewN ?_ _ | with_reducible exact Only.refl _ _)) HE.out
theorem shl_any (b : Nat) (m : Mach) (w : World) (h : MB w b m) (hf : m.fits) (hop : m.ins.op = 12) :
    Calls Tryz.prog 54 #[.pointer (some ⟨b, 0, none⟩)] w (ST b m.alu w) := by
  obtain ⟨ra0, ra1⟩ := m.rbd hf m.ins.a.toNat
  obtain ⟨rb0, rb1⟩ := m.rbd hf m.ins.b.toNat
  obtain ⟨rc0, rc1⟩ := m.rbd hf m.ins.c.toNat
  obtain ⟨im0, im1⟩ := m.ibd
  have hfin : m.setX (IntKind.u64.wrap (m.v.r m.ins.b.toNat * 2 ^ (m.v.r m.ins.c.toNat % m.v.width).toNat)) = m.alu := by
    unfold Mach.alu compute
    rw [hop]
    exact setX_congr m (wrap_mod _ _ hf.wide)
  have HE := Lib.hid hfin
  have H := Lib.hid h
  clear h hop hfin
  have hw0 : 32 ≤ m.v.width := by rcases hf.wide with h | h <;> omega
  have hw1 : m.v.width ≤ 39 := by rcases hf.wide with h | h <;> omega
  have hwz : (m.v.width == 0) = false := by rw [beq_eq_false_iff_ne]; omega
  obtain ⟨hc, hfr⟩ := H.out.all
  have hq0 := Int.emod_nonneg (m.v.r m.ins.c.toNat) (show m.v.width ≠ 0 by omega)
  have hq1 := Int.emod_lt_of_pos (m.v.r m.ins.c.toNat) (show 0 < m.v.width by omega)
  have hq2 : m.v.r m.ins.c.toNat % m.v.width < 64 := by omega
  have hwr : IntKind.u64.wrap m.v.width = m.v.width := by rw [IntKind.wrap_u64]; omega
  have htm : (m.v.r m.ins.c.toNat).tmod m.v.width = m.v.r m.ins.c.toNat % m.v.width := Int.tmod_eq_emod_of_nonneg rc0
  go_enter Tryz.func54, Tryz.ntmps54
  go_wp2_with fail
  go_region_with (first | (go_at_call 87; refine (b_any b m _ (by exact H.out) hf).mono ?_; rintro e w' ⟨rfl, n, rfl⟩) | (go_at_call 88; refine (c_any b m _ (by exact H.out) hf).mono ?_; rintro e w' ⟨rfl, n, rfl⟩) | (go_at_call 84; refine (set_any b m _ _ (by exact H.out) hf (by first | omega | exact (wrap_u64_bd _).1) (by first | omega | exact (wrap_u64_bd _).2)).mono ?_; rintro e w' ⟨rfl, hm, ho⟩))
  all_goals
    go_end0
    exact ST.of ⟨rfl, by assumption, by assumption⟩ (by repeat (first | with_reducible refine Only.drewN ?_ _ | with_reducible exact Only.refl _ _)) HE.out
theorem shr_any (b : Nat) (m : Mach) (w : World) (h : MB w b m) (hf : m.fits) (hop : m.ins.op = 13) :
    Calls Tryz.prog 55 #[.pointer (some ⟨b, 0, none⟩)] w (ST b m.alu w) := by
  obtain ⟨ra0, ra1⟩ := m.rbd hf m.ins.a.toNat
  obtain ⟨rb0, rb1⟩ := m.rbd hf m.ins.b.toNat
  obtain ⟨rc0, rc1⟩ := m.rbd hf m.ins.c.toNat
  obtain ⟨im0, im1⟩ := m.ibd
  have hfin : m.setX (m.v.r m.ins.b.toNat / 2 ^ (m.v.r m.ins.c.toNat % m.v.width).toNat) = m.alu := by
    unfold Mach.alu compute
    rw [hop]
    rfl
  have HE := Lib.hid hfin
  have H := Lib.hid h
  clear h hop hfin
  have hw0 : 32 ≤ m.v.width := by rcases hf.wide with h | h <;> omega
  have hw1 : m.v.width ≤ 39 := by rcases hf.wide with h | h <;> omega
  have hwz : (m.v.width == 0) = false := by rw [beq_eq_false_iff_ne]; omega
  obtain ⟨hc, hfr⟩ := H.out.all
  have hq0 := Int.emod_nonneg (m.v.r m.ins.c.toNat) (show m.v.width ≠ 0 by omega)
  have hq1 := Int.emod_lt_of_pos (m.v.r m.ins.c.toNat) (show 0 < m.v.width by omega)
  have hq2 : m.v.r m.ins.c.toNat % m.v.width < 64 := by omega
  have hwr : IntKind.u64.wrap m.v.width = m.v.width := by rw [IntKind.wrap_u64]; omega
  have htm : (m.v.r m.ins.c.toNat).tmod m.v.width = m.v.r m.ins.c.toNat % m.v.width := Int.tmod_eq_emod_of_nonneg rc0
  have hp : (0 : Int) < 2 ^ (m.v.r m.ins.c.toNat % m.v.width).toNat := Int.pow_pos (by decide)
  have hs0 := Int.ediv_nonneg (b := 2 ^ (m.v.r m.ins.c.toNat % m.v.width).toNat) rb0 (by omega)
  have hs1 := Int.ediv_le_self (2 ^ (m.v.r m.ins.c.toNat % m.v.width).toNat) rb0
  clear hp
  go_enter Tryz.func55, Tryz.ntmps55
  go_wp2_with fail
  go_region_with (first | (go_at_call 87; refine (b_any b m _ (by exact H.out) hf).mono ?_; rintro e w' ⟨rfl, n, rfl⟩) | (go_at_call 88; refine (c_any b m _ (by exact H.out) hf).mono ?_; rintro e w' ⟨rfl, n, rfl⟩) | (go_at_call 84; refine (set_any b m _ _ (by exact H.out) hf (by first | omega | exact (wrap_u64_bd _).1) (by first | omega | exact (wrap_u64_bd _).2)).mono ?_; rintro e w' ⟨rfl, hm, ho⟩))
  all_goals
    go_end0
    exact ST.of ⟨rfl, by assumption, by assumption⟩ (by repeat (first | with_reducible refine Only.drewN ?_ _ | with_reducible exact Only.refl _ _)) HE.out
theorem lih_any (b : Nat) (m : Mach) (w : World) (h : MB w b m) (hf : m.fits) (hop : m.ins.op = 2) :
    Calls Tryz.prog 44 #[.pointer (some ⟨b, 0, none⟩)] w (ST b m.alu w) := by
  obtain ⟨ra0, ra1⟩ := m.rbd hf m.ins.a.toNat
  obtain ⟨rb0, rb1⟩ := m.rbd hf m.ins.b.toNat
  obtain ⟨rc0, rc1⟩ := m.rbd hf m.ins.c.toNat
  obtain ⟨im0, im1⟩ := m.ibd
  have hfin : m.setX (IntKind.u64.wrap (bits BinOp.and IntKind.u64 (m.v.r m.ins.a.toNat) 4294967295 + IntKind.u64.wrap (IntKind.u64.wrap (IntKind.i64.wrap m.ins.imm) * 4294967296))) = m.alu := by
    unfold Mach.alu compute
    rw [hop]
    exact setX_congr m (lih_mod _ _ _ ra0 (by omega) hf.imm hf.wide)
  have HE := Lib.hid hfin
  have H := Lib.hid h
  clear h hop hfin
  have hw0 : 32 ≤ m.v.width := by rcases hf.wide with h | h <;> omega
  have hw1 : m.v.width ≤ 39 := by rcases hf.wide with h | h <;> omega
  have hwz : (m.v.width == 0) = false := by rw [beq_eq_false_iff_ne]; omega
  obtain ⟨hc, hfr⟩ := H.out.all
  have hq0 := Int.emod_nonneg (m.v.r m.ins.c.toNat) (show m.v.width ≠ 0 by omega)
  have hq1 := Int.emod_lt_of_pos (m.v.r m.ins.c.toNat) (show 0 < m.v.width by omega)
  have hq2 : m.v.r m.ins.c.toNat % m.v.width < 64 := by omega
  have hwr : IntKind.u64.wrap m.v.width = m.v.width := by rw [IntKind.wrap_u64]; omega
  have htm : (m.v.r m.ins.c.toNat).tmod m.v.width = m.v.r m.ins.c.toNat % m.v.width := Int.tmod_eq_emod_of_nonneg rc0
  have hi := hf.imm
  go_enter Tryz.func44, Tryz.ntmps44
  go_wp2_with fail
  go_region_with (first | (go_at_call 86; refine (a_any b m _ (by exact H.out) hf).mono ?_; rintro e w' ⟨rfl, n, rfl⟩) | (go_at_call 84; refine (set_any b m _ _ (by exact H.out) hf (by first | omega | exact (wrap_u64_bd _).1) (by first | omega | exact (wrap_u64_bd _).2)).mono ?_; rintro e w' ⟨rfl, hm, ho⟩))
  all_goals
    go_end0
    exact ST.of ⟨rfl, by assumption, by assumption⟩ (by repeat (first | with_reducible refine Only.drewN ?_ _ | with_reducible exact Only.refl _ _)) HE.out
end
section
open Go.RowKit
attribute [local go_sem ↓] Go.wp_at_zero Go.wp_at_succ
attribute [local go_sem] Mach.get0 Mach.get1 Mach.get2 Mach.get3 Mach.get4 Mach.get5 Mach.get6 Mach.get7 Mach.get8 Mach.get9 Mach.get10 Mach.get11 Mach.get12 Mach.get13 Mach.get14 Mach.get15 Mach.get16 Mach.get17 Mach.get18 Mach.get19 Mach.get20 Mach.get21 Mach.get22 Mach.get23 Mach.get24 Mach.get25 Mach.get26 Mach.get27 Mach.get28 Mach.get29 Mach.get30 Mach.get31 Mach.get32 Mach.get33 Mach.get34 Mach.get35 Mach.get36

theorem Div64_any (x y : Int) (w : World) (hx : 0 ≤ x) (hx1 : x ≤ 18446744073709551615) (hy : 1 ≤ y) (hy1 : y ≤ 18446744073709551615) :
    Calls Tryz.prog 103 #[.int .u64 0, .int .u64 x, .int .u64 y] w fun e w' => e = .returned (.tuple #[.int .u64 (x / y), .int .u64 (x % y)]) ∧ ∃ n, w' = w.drewN n := by
  have hz : (y == 0) = false := by rw [beq_eq_false_iff_ne]; omega
  have q0 := Int.ediv_nonneg (b := y) hx (by omega)
  have q1 := Int.ediv_le_self y hx
  have r0 := Int.emod_nonneg x (show y ≠ 0 by omega)
  have r1 := Int.emod_lt_of_pos x (show 0 < y by omega)
  go_enter Tryz.func103, Tryz.ntmps103
  go_wp2_with fail
  go_quiet (fail)
  go_wp2
  go_ret2
  exact ⟨rfl, _, rfl⟩
theorem divide_ok (b : Nat) (m : Mach) (w : World) (h : MB w b m) (hf : m.fits) (hc : ¬ m.v.r m.ins.c.toNat = 0) :
    Calls Tryz.prog 89 #[.pointer (some ⟨b, 0, none⟩)] w fun e w' => e = .returned (.tuple #[.int .u64 (m.v.r m.ins.b.toNat / m.v.r m.ins.c.toNat), .int .u64 (m.v.r m.ins.b.toNat % m.v.r m.ins.c.toNat), .bool true]) ∧ ∃ n, w' = w.drewN n := by
  obtain ⟨rb0, rb1⟩ := m.rbd hf m.ins.b.toNat
  obtain ⟨rc0, rc1⟩ := m.rbd hf m.ins.c.toNat
  have hz : (m.v.r m.ins.c.toNat == 0) = false := by rw [beq_eq_false_iff_ne]; exact hc
  have H := Lib.hid h
  clear h hc
  go_enter Tryz.func89, Tryz.ntmps89
  have hc1 : 1 ≤ m.v.r m.ins.c.toNat := by rw [beq_eq_false_iff_ne] at hz; omega
  go_wp2_with (first | (go_at_call 88; refine (c_any b m _ (by exact H.out) hf).mono ?_; rintro e w' ⟨rfl, n, rfl⟩) | (go_at_call 87; refine (b_any b m _ (by exact H.out) hf).mono ?_; rintro e w' ⟨rfl, n, rfl⟩) | (go_at_call 103; refine (Div64_any _ _ _ rb0 (by omega) hc1 (by omega)).mono ?_; rintro e w' ⟨rfl, n, rfl⟩))
  go_ret3
  exact ⟨rfl, _, rfl⟩
theorem divide_no (b : Nat) (m : Mach) (w : World) (h : MB w b m) (hf : m.fits) (hc : m.v.r m.ins.c.toNat = 0) :
    Calls Tryz.prog 89 #[.pointer (some ⟨b, 0, none⟩)] w fun e w' => e = .returned (.tuple #[.int .u64 0, .int .u64 0, .bool false]) ∧ MB w' b (m.trapM 1) ∧ Only b w w' := by
  have H := Lib.hid h
  clear h
  go_enter Tryz.func89, Tryz.ntmps89
  go_wp2_with (first | (go_at_call 88; refine (c_any b m _ (by exact H.out) hf).mono ?_; rintro e w' ⟨rfl, n, rfl⟩) | (go_at_call 70; refine (trap_any b m _ _ (by exact H.out)).mono ?_; rintro e w' ⟨rfl, hm, ho⟩))
  go_ret3
  exact ⟨rfl, by assumption, Only.trans2 (by assumption) (by repeat (first | with_reducible refine Only.drewN ?_ _ | with_reducible exact Only.refl _ _))⟩

theorem div_ok (b : Nat) (m : Mach) (w : World) (h : MB w b m) (hf : m.fits) (hop : m.ins.op = 7) (hc : ¬ m.v.r m.ins.c.toNat = 0) :
    Calls Tryz.prog 49 #[.pointer (some ⟨b, 0, none⟩)] w (ST b m.alu w) := by
  obtain ⟨rb0, rb1⟩ := m.rbd hf m.ins.b.toNat
  obtain ⟨rc0, rc1⟩ := m.rbd hf m.ins.c.toNat
  have q0 := Int.ediv_nonneg (b := m.v.r m.ins.c.toNat) rb0 (by omega)
  have q1 := Int.ediv_le_self (m.v.r m.ins.c.toNat) rb0
  have hfin : m.setX (m.v.r m.ins.b.toNat / m.v.r m.ins.c.toNat) = m.alu := by
    unfold Mach.alu compute
    rw [hop]
    rfl
  have HE := Lib.hid hfin
  have H := Lib.hid h
  have HC := Lib.hid hc
  clear h hop hfin hc
  go_enter Tryz.func49, Tryz.ntmps49
  go_wp2_with (first | (go_at_call 89; refine (divide_ok b m _ (by exact H.out) hf HC.out).mono ?_; rintro e w' ⟨rfl, n, rfl⟩) | (go_at_call 84; refine (set_any b m _ _ (by exact H.out) hf (by first | omega | exact (wrap_u64_bd _).1) (by first | omega | exact (wrap_u64_bd _).2)).mono ?_; rintro e w' ⟨rfl, hm, ho⟩))
  go_end0
  exact ST.of ⟨rfl, by assumption, by assumption⟩ (by repeat (first | with_reducible refine Only.drewN ?_ _ | with_reducible exact Only.refl _ _)) HE.out
theorem div_no (b : Nat) (m : Mach) (w : World) (h : MB w b m) (hf : m.fits) (hc : m.v.r m.ins.c.toNat = 0) :
    Calls Tryz.prog 49 #[.pointer (some ⟨b, 0, none⟩)] w (ST b (m.trapM 1) w) := by
  have H := Lib.hid h
  have HC := Lib.hid hc
  clear h hc
  go_enter Tryz.func49, Tryz.ntmps49
  go_wp2_with (go_at_call 89; refine (divide_no b m _ (by exact H.out) hf HC.out).mono ?_; rintro e w' ⟨rfl, hm, ho⟩)
  go_end0
  exact ⟨rfl, by assumption, by assumption⟩
theorem rem_ok (b : Nat) (m : Mach) (w : World) (h : MB w b m) (hf : m.fits) (hop : m.ins.op = 8) (hc : ¬ m.v.r m.ins.c.toNat = 0) :
    Calls Tryz.prog 50 #[.pointer (some ⟨b, 0, none⟩)] w (ST b m.alu w) := by
  obtain ⟨rb0, rb1⟩ := m.rbd hf m.ins.b.toNat
  obtain ⟨rc0, rc1⟩ := m.rbd hf m.ins.c.toNat
  have q0 := Int.emod_nonneg (m.v.r m.ins.b.toNat) hc
  have q1 : m.v.r m.ins.b.toNat % m.v.r m.ins.c.toNat < m.v.r m.ins.c.toNat := Int.emod_lt_of_pos _ (by omega)
  have hfin : m.setX (m.v.r m.ins.b.toNat % m.v.r m.ins.c.toNat) = m.alu := by
    unfold Mach.alu compute
    rw [hop]
    rfl
  have HE := Lib.hid hfin
  have H := Lib.hid h
  have HC := Lib.hid hc
  clear h hop hfin hc
  go_enter Tryz.func50, Tryz.ntmps50
  go_wp2_with (first | (go_at_call 89; refine (divide_ok b m _ (by exact H.out) hf HC.out).mono ?_; rintro e w' ⟨rfl, n, rfl⟩) | (go_at_call 84; refine (set_any b m _ _ (by exact H.out) hf (by first | omega | exact (wrap_u64_bd _).1) (by first | omega | exact (wrap_u64_bd _).2)).mono ?_; rintro e w' ⟨rfl, hm, ho⟩))
  go_end0
  exact ST.of ⟨rfl, by assumption, by assumption⟩ (by repeat (first | with_reducible refine Only.drewN ?_ _ | with_reducible exact Only.refl _ _)) HE.out
theorem rem_no (b : Nat) (m : Mach) (w : World) (h : MB w b m) (hf : m.fits) (hc : m.v.r m.ins.c.toNat = 0) :
    Calls Tryz.prog 50 #[.pointer (some ⟨b, 0, none⟩)] w (ST b (m.trapM 1) w) := by
  have H := Lib.hid h
  have HC := Lib.hid hc
  clear h hc
  go_enter Tryz.func50, Tryz.ntmps50
  go_wp2_with (go_at_call 89; refine (divide_no b m _ (by exact H.out) hf HC.out).mono ?_; rintro e w' ⟨rfl, hm, ho⟩)
  go_end0
  exact ⟨rfl, by assumption, by assumption⟩
theorem slt_any (b : Nat) (m : Mach) (w : World) (h : MB w b m) (hf : m.fits) (hop : m.ins.op = 15) :
    Calls Tryz.prog 57 #[.pointer (some ⟨b, 0, none⟩)] w (ST b m.alu w) := by
  obtain ⟨rb0, rb1⟩ := m.rbd hf m.ins.b.toNat
  obtain ⟨rc0, rc1⟩ := m.rbd hf m.ins.c.toNat
  obtain ⟨hc, hfr⟩ := h.all
  have hfin : m.setX (truth (decide (signed m.v.width (m.v.r m.ins.b.toNat) < signed m.v.width (m.v.r m.ins.c.toNat)))) = m.alu := by
    unfold Mach.alu compute
    rw [hop]
    rfl
  have HE := Lib.hid hfin
  have H := Lib.hid h
  clear h hop hfin
  go_enter Tryz.func57, Tryz.ntmps57
  go_wp2_with fail
  go_region_with (first | (go_at_call 87; refine (b_any b m _ (by exact H.out) hf).mono ?_; rintro e w' ⟨rfl, n, rfl⟩) | (go_at_call 88; refine (c_any b m _ (by exact H.out) hf).mono ?_; rintro e w' ⟨rfl, n, rfl⟩) | (go_at_call 25; refine (Signed_any _ _ _ (by omega) (by omega)).mono ?_; rintro e w' ⟨rfl, rfl⟩) | (go_at_call 90; refine (test_any b m _ _ (by exact H.out) hf).mono ?_; rintro e w' ⟨rfl, hm, ho⟩))
  all_goals
    go_end0
    exact ST.of ⟨rfl, by assumption, by assumption⟩ (by repeat (first | with_reducible refine Only.drewN ?_ _ | with_reducible exact Only.refl _ _)) HE.out
theorem jmp_any (b : Nat) (m : Mach) (w : World) (h : MB w b m) (hf : m.fits) : Calls Tryz.prog 60 #[.pointer (some ⟨b, 0, none⟩)] w (ST b (m.jumpM (m.ins.imm % pw2 m.v.width)) w) := by
  obtain ⟨im0, im1⟩ := m.ibd
  have H := Lib.hid h
  clear h
  go_enter Tryz.func60, Tryz.ntmps60
  go_wp2_with (first | (go_at_call 85; refine (imm_any b m _ (by exact H.out) hf).mono ?_; rintro e w' ⟨rfl, n, rfl⟩) | (go_at_call 91; refine (jump_any b m _ _ (by exact H.out) hf (by omega) (by omega)).mono ?_; rintro e w' ⟨rfl, hm, ho⟩))
  go_end0
  exact ST.of ⟨rfl, by assumption, by assumption⟩ (by repeat (first | with_reducible refine Only.drewN ?_ _ | with_reducible exact Only.refl _ _)) rfl
theorem jr_any (b : Nat) (m : Mach) (w : World) (h : MB w b m) (hf : m.fits) : Calls Tryz.prog 64 #[.pointer (some ⟨b, 0, none⟩)] w (ST b (m.jumpM (m.v.r m.ins.a.toNat)) w) := by
  obtain ⟨ra0, ra1⟩ := m.rbd hf m.ins.a.toNat
  have H := Lib.hid h
  clear h
  go_enter Tryz.func64, Tryz.ntmps64
  go_wp2_with (first | (go_at_call 86; refine (a_any b m _ (by exact H.out) hf).mono ?_; rintro e w' ⟨rfl, n, rfl⟩) | (go_at_call 91; refine (jump_any b m _ _ (by exact H.out) hf (by omega) (by omega)).mono ?_; rintro e w' ⟨rfl, hm, ho⟩))
  go_end0
  exact ST.of ⟨rfl, by assumption, by assumption⟩ (by repeat (first | with_reducible refine Only.drewN ?_ _ | with_reducible exact Only.refl _ _)) rfl

theorem beqz_any (b : Nat) (m : Mach) (w : World) (h : MB w b m) (hf : m.fits) : Calls Tryz.prog 61 #[.pointer (some ⟨b, 0, none⟩)] w (ST b (if m.v.r m.ins.a.toNat = 0 then m.jumpM (m.ins.imm % pw2 m.v.width) else m) w) := by
  obtain ⟨im0, im1⟩ := m.ibd
  have H := Lib.hid h
  clear h
  by_cases ha : m.v.r m.ins.a.toNat = 0
  · rw [if_pos ha]
    go_enter Tryz.func61, Tryz.ntmps61
    go_wp2_with (first | (go_at_call 86; refine (a_any b m _ (by exact H.out) hf).mono ?_; rintro e w' ⟨rfl, n, rfl⟩) | (go_at_call 85; refine (imm_any b m _ (by exact H.out) hf).mono ?_; rintro e w' ⟨rfl, n, rfl⟩) | (go_at_call 91; refine (jump_any b m _ _ (by exact H.out) hf (by omega) (by omega)).mono ?_; rintro e w' ⟨rfl, hm, ho⟩))
    go_end0
    exact ST.of ⟨rfl, by assumption, by assumption⟩ (by repeat (first | with_reducible refine Only.drewN ?_ _ | with_reducible exact Only.refl _ _)) rfl
  · rw [if_neg ha]
    have hz : (m.v.r m.ins.a.toNat == 0) = false := by rw [beq_eq_false_iff_ne]; exact ha
    have hz2 : (m.v.r m.ins.a.toNat != 0) = true := by rw [bne_iff_ne]; exact ha
    clear ha
    go_enter Tryz.func61, Tryz.ntmps61
    go_wp2_with (first | (go_at_call 86; refine (a_any b m _ (by exact H.out) hf).mono ?_; rintro e w' ⟨rfl, n, rfl⟩) | (go_at_call 85; refine (imm_any b m _ (by exact H.out) hf).mono ?_; rintro e w' ⟨rfl, n, rfl⟩) | (go_at_call 91; refine (jump_any b m _ _ (by exact H.out) hf (by omega) (by omega)).mono ?_; rintro e w' ⟨rfl, hm, ho⟩))
    go_end0
    exact ⟨rfl, H.out, by repeat (first | with_reducible refine Only.drewN ?_ _ | with_reducible exact Only.refl _ _)⟩
theorem bnez_any (b : Nat) (m : Mach) (w : World) (h : MB w b m) (hf : m.fits) : Calls Tryz.prog 62 #[.pointer (some ⟨b, 0, none⟩)] w (ST b (if m.v.r m.ins.a.toNat = 0 then m else m.jumpM (m.ins.imm % pw2 m.v.width)) w) := by
  obtain ⟨im0, im1⟩ := m.ibd
  have H := Lib.hid h
  clear h
  by_cases ha : m.v.r m.ins.a.toNat = 0
  · rw [if_pos ha]
    go_enter Tryz.func62, Tryz.ntmps62
    go_wp2_with (first | (go_at_call 86; refine (a_any b m _ (by exact H.out) hf).mono ?_; rintro e w' ⟨rfl, n, rfl⟩) | (go_at_call 85; refine (imm_any b m _ (by exact H.out) hf).mono ?_; rintro e w' ⟨rfl, n, rfl⟩) | (go_at_call 91; refine (jump_any b m _ _ (by exact H.out) hf (by omega) (by omega)).mono ?_; rintro e w' ⟨rfl, hm, ho⟩))
    go_end0
    exact ⟨rfl, H.out, by repeat (first | with_reducible refine Only.drewN ?_ _ | with_reducible exact Only.refl _ _)⟩
  · rw [if_neg ha]
    have hz : (m.v.r m.ins.a.toNat == 0) = false := by rw [beq_eq_false_iff_ne]; exact ha
    have hz2 : (m.v.r m.ins.a.toNat != 0) = true := by rw [bne_iff_ne]; exact ha
    clear ha
    go_enter Tryz.func62, Tryz.ntmps62
    go_wp2_with (first | (go_at_call 86; refine (a_any b m _ (by exact H.out) hf).mono ?_; rintro e w' ⟨rfl, n, rfl⟩) | (go_at_call 85; refine (imm_any b m _ (by exact H.out) hf).mono ?_; rintro e w' ⟨rfl, n, rfl⟩) | (go_at_call 91; refine (jump_any b m _ _ (by exact H.out) hf (by omega) (by omega)).mono ?_; rintro e w' ⟨rfl, hm, ho⟩))
    go_end0
    exact ST.of ⟨rfl, by assumption, by assumption⟩ (by repeat (first | with_reducible refine Only.drewN ?_ _ | with_reducible exact Only.refl _ _)) rfl
theorem setR_bd (m : Mach) (hf : m.fits) (x : Int) (h0 : 0 ≤ x) (h1 : x < pw2 m.v.width) : { m with v := m.v.setR m.ins.a.toNat x : Mach }.fits := by
  have ha := hf.a
  refine ⟨hf.wide, ?_, fun i => ?_, hf.a, hf.b, hf.c, hf.imm, hf.pc, hf.pn⟩
  · show (m.v.regs.set _ _).length = 16
    rw [List.length_set]; exact hf.len
  · show 0 ≤ (m.v.setR _ _).r i ∧ (m.v.setR _ _).r i < pw2 m.v.width
    rw [m.v.r_set _ _ _ hf.len (by omega)]
    split
    · exact ⟨h0, h1⟩
    · exact hf.reg i
theorem setX_fits (m : Mach) (hf : m.fits) (x : Int) : (m.setX x).fits := by
  have h := pw2_pos m.v.width
  exact setR_bd m hf _ (Int.emod_nonneg _ (by omega)) (Int.emod_lt_of_pos _ h.1)
theorem jal_any (b : Nat) (m : Mach) (w : World) (h : MB w b m) (hf : m.fits) : Calls Tryz.prog 63 #[.pointer (some ⟨b, 0, none⟩)] w (ST b ((m.setX (m.v.pc + 1)).jumpM (m.ins.imm % pw2 m.v.width)) w) := by
  obtain ⟨hc, hfr⟩ := h.all
  obtain ⟨pc0, pc1⟩ := hf.pc
  obtain ⟨im0, im1⟩ := m.ibd
  have hf2 := setX_fits m hf (m.v.pc + 1)
  have H := Lib.hid h
  clear h
  go_enter Tryz.func63, Tryz.ntmps63
  go_wp2_with fail
  refine (set_any b m _ _ (by exact H.out) hf (by omega) (by omega)).mono ?_
  rintro e w1 ⟨rfl, hm1, ho1⟩
  have H1 := Lib.hid hm1
  have HO1 := Lib.hid ho1
  clear hm1 ho1 H hc
  go_wp2_with (first | (go_at_call 85; refine (imm_any b (m.setX (m.v.pc + 1)) _ (by exact H1.out) hf2).mono ?_; rintro e w' ⟨rfl, n, rfl⟩) | (go_at_call 91; refine (jump_any b (m.setX (m.v.pc + 1)) _ _ (by exact H1.out) hf2 im0 im1).mono ?_; rintro e w' ⟨rfl, hm, ho⟩))
  go_end0
  exact ST.of ⟨rfl, by assumption, by assumption⟩ (by repeat (first | with_reducible refine Only.drewN ?_ _ | with_reducible exact HO1.out)) rfl
theorem address_ok (b : Nat) (m : Mach) (w : World) (h : MB w b m) (hf : m.fits) (ha : (m.v.r m.ins.b.toNat + m.ins.imm) % pw2 m.v.width % 8 = 0) :
    Calls Tryz.prog 92 #[.pointer (some ⟨b, 0, none⟩)] w fun e w' => e = .returned (.tuple #[.int .u64 ((m.v.r m.ins.b.toNat + m.ins.imm) % pw2 m.v.width), .bool true]) ∧ ∃ n, w' = w.drewN n := by
  obtain ⟨rb0, rb1⟩ := m.rbd hf m.ins.b.toNat
  obtain ⟨im0, im1⟩ := m.ibd
  have hp := pw2_pos m.v.width
  have ad0 := Int.emod_nonneg (m.v.r m.ins.b.toNat + m.ins.imm) (show pw2 m.v.width ≠ 0 by omega)
  have ad1 := Int.emod_lt_of_pos (m.v.r m.ins.b.toNat + m.ins.imm) hp.1
  have ad2 : (m.v.r m.ins.b.toNat + m.ins.imm) % pw2 m.v.width < 549755813888 := by omega
  have H := Lib.hid h
  have hz : ((m.v.r m.ins.b.toNat + m.ins.imm) % pw2 m.v.width % 8 != 0) = false := by rw [bne_eq_false_iff_eq]; exact ha
  clear h hp ad1 ha
  go_enter Tryz.func92, Tryz.ntmps92
  go_wp2_with (first | (go_at_call 87; refine (b_any b m _ (by exact H.out) hf).mono ?_; rintro e w' ⟨rfl, n, rfl⟩) | (go_at_call 85; refine (imm_any b m _ (by exact H.out) hf).mono ?_; rintro e w' ⟨rfl, n, rfl⟩) | (go_at_call 102; refine (reduce_any b m _ _ (by exact H.out) hf (by omega) (by omega)).mono ?_; rintro e w' ⟨rfl, n, rfl⟩))
  go_ret2
  exact ⟨rfl, _, rfl⟩
theorem address_no (b : Nat) (m : Mach) (w : World) (h : MB w b m) (hf : m.fits) (ha : ¬ (m.v.r m.ins.b.toNat + m.ins.imm) % pw2 m.v.width % 8 = 0) :
    Calls Tryz.prog 92 #[.pointer (some ⟨b, 0, none⟩)] w fun e w' => e = .returned (.tuple #[.int .u64 0, .bool false]) ∧ MB w' b (m.trapM 3) ∧ Only b w w' := by
  obtain ⟨rb0, rb1⟩ := m.rbd hf m.ins.b.toNat
  obtain ⟨im0, im1⟩ := m.ibd
  have hp := pw2_pos m.v.width
  have ad0 := Int.emod_nonneg (m.v.r m.ins.b.toNat + m.ins.imm) (show pw2 m.v.width ≠ 0 by omega)
  have ad1 := Int.emod_lt_of_pos (m.v.r m.ins.b.toNat + m.ins.imm) hp.1
  have ad2 : (m.v.r m.ins.b.toNat + m.ins.imm) % pw2 m.v.width < 549755813888 := by omega
  have H := Lib.hid h
  have hz : ((m.v.r m.ins.b.toNat + m.ins.imm) % pw2 m.v.width % 8 != 0) = true := by rw [bne_iff_ne]; exact ha
  clear h hp ad1 ha
  go_enter Tryz.func92, Tryz.ntmps92
  go_wp2_with (first | (go_at_call 87; refine (b_any b m _ (by exact H.out) hf).mono ?_; rintro e w' ⟨rfl, n, rfl⟩) | (go_at_call 85; refine (imm_any b m _ (by exact H.out) hf).mono ?_; rintro e w' ⟨rfl, n, rfl⟩) | (go_at_call 102; refine (reduce_any b m _ _ (by exact H.out) hf (by omega) (by omega)).mono ?_; rintro e w' ⟨rfl, n, rfl⟩) | (go_at_call 70; refine (trap_any b m _ _ (by exact H.out)).mono ?_; rintro e w' ⟨rfl, hm, ho⟩))
  go_ret2
  exact ⟨rfl, by assumption, Only.trans2 (by assumption) (by repeat (first | with_reducible refine Only.drewN ?_ _ | with_reducible exact Only.refl _ _))⟩


theorem ld_any (b : Nat) (m : Mach) (w : World) (h : MB w b m) (hf : m.fits) :
    Calls Tryz.prog 65 #[.pointer (some ⟨b, 0, none⟩)] w (ST b (if ¬ (m.v.r m.ins.b.toNat + m.ins.imm) % pw2 m.v.width % 8 = 0 then m.trapM 3 else m.waitM ⟨1, m.ins.a, 0, (m.v.r m.ins.b.toNat + m.ins.imm) % pw2 m.v.width, 0⟩) w) := by
  by_cases ha : (m.v.r m.ins.b.toNat + m.ins.imm) % pw2 m.v.width % 8 = 0
  · rw [if_neg (by simpa using ha)]
    obtain ⟨hc, hfr⟩ := h.all
    obtain ⟨a0, a1⟩ := hf.a
    have H := Lib.hid h
    have HA := Lib.hid ha
    clear h ha
    go_enter Tryz.func65, Tryz.ntmps65
    go_wp2_with (first | (go_at_call 86; refine (a_any b m _ (by exact H.out) hf).mono ?_; rintro e w' ⟨rfl, n, rfl⟩) | (go_at_call 92; refine (address_ok b m _ (by exact H.out) hf HA.out).mono ?_; rintro e w' ⟨rfl, n, rfl⟩) | (go_at_call 93; refine (wait_any b m _ _ _ _ _ _ (by exact H.out)).mono ?_; rintro e w' ⟨rfl, hm, ho⟩))
    go_end0
    exact ST.of ⟨rfl, by assumption, by assumption⟩ (by repeat (first | with_reducible refine Only.drewN ?_ _ | with_reducible exact Only.refl _ _)) rfl
  · rw [if_pos ha]
    have H := Lib.hid h
    have HA := Lib.hid ha
    clear h ha
    go_enter Tryz.func65, Tryz.ntmps65
    go_wp2_with (go_at_call 92; refine (address_no b m _ (by exact H.out) hf HA.out).mono ?_; rintro e w' ⟨rfl, hm, ho⟩)
    go_end0
    exact ⟨rfl, by assumption, by assumption⟩
theorem st_any (b : Nat) (m : Mach) (w : World) (h : MB w b m) (hf : m.fits) :
    Calls Tryz.prog 66 #[.pointer (some ⟨b, 0, none⟩)] w (ST b (if ¬ (m.v.r m.ins.b.toNat + m.ins.imm) % pw2 m.v.width % 8 = 0 then m.trapM 3 else m.waitM ⟨2, 0, 0, (m.v.r m.ins.b.toNat + m.ins.imm) % pw2 m.v.width, m.v.r m.ins.a.toNat⟩) w) := by
  by_cases ha : (m.v.r m.ins.b.toNat + m.ins.imm) % pw2 m.v.width % 8 = 0
  · rw [if_neg (by simpa using ha)]
    obtain ⟨hc, hfr⟩ := h.all
    obtain ⟨a0, a1⟩ := hf.a
    have H := Lib.hid h
    have HA := Lib.hid ha
    clear h ha
    go_enter Tryz.func66, Tryz.ntmps66
    go_wp2_with (first | (go_at_call 86; refine (a_any b m _ (by exact H.out) hf).mono ?_; rintro e w' ⟨rfl, n, rfl⟩) | (go_at_call 92; refine (address_ok b m _ (by exact H.out) hf HA.out).mono ?_; rintro e w' ⟨rfl, n, rfl⟩) | (go_at_call 93; refine (wait_any b m _ _ _ _ _ _ (by exact H.out)).mono ?_; rintro e w' ⟨rfl, hm, ho⟩))
    go_end0
    exact ST.of ⟨rfl, by assumption, by assumption⟩ (by repeat (first | with_reducible refine Only.drewN ?_ _ | with_reducible exact Only.refl _ _)) rfl
  · rw [if_pos ha]
    have H := Lib.hid h
    have HA := Lib.hid ha
    clear h ha
    go_enter Tryz.func66, Tryz.ntmps66
    go_wp2_with (go_at_call 92; refine (address_no b m _ (by exact H.out) hf HA.out).mono ?_; rintro e w' ⟨rfl, hm, ho⟩)
    go_end0
    exact ⟨rfl, by assumption, by assumption⟩
theorem sys_any (b : Nat) (m : Mach) (w : World) (h : MB w b m) (hf : m.fits) :
    Calls Tryz.prog 67 #[.pointer (some ⟨b, 0, none⟩)] w (ST b (if m.ins.imm < 0 then m.trapM 4 else m.waitM ⟨3, 0, m.ins.imm, 0, 0⟩) w) := by
  obtain ⟨hc, hfr⟩ := h.all
  obtain ⟨i0, i1⟩ := hf.imm
  have H := Lib.hid h
  clear h
  by_cases ha : m.ins.imm < 0
  · rw [if_pos ha]
    go_enter Tryz.func67, Tryz.ntmps67
    go_wp2_with (go_at_call 70; refine (trap_any b m _ _ (by exact H.out)).mono ?_; rintro e w' ⟨rfl, hm, ho⟩)
    go_end0
    exact ⟨rfl, by assumption, by assumption⟩
  · rw [if_neg ha]
    have ha' : 0 ≤ m.ins.imm := by omega
    go_enter Tryz.func67, Tryz.ntmps67
    go_wp2_with (go_at_call 93; refine (wait_any b m _ _ _ _ _ _ (by exact H.out)).mono ?_; rintro e w' ⟨rfl, hm, ho⟩)
    go_end0
    exact ⟨rfl, by assumption, by assumption⟩
end
end Go.Proofs.YtokppdegklfkmaaGreatDoor
