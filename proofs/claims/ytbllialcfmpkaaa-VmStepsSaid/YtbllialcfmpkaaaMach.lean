/- The machine of the interpreter in memory, and its small methods. -/
import Derived.Test.YtbllialcfmpkaaaNext
import Derived.Test.YtbllialcfmpkaaaVmPlain
import Derived.Test.YtbllialcfmpkaaaRet
import Derived.Test.YtbllialcfmpkaaaBlock
import Derived.Laws.Bits64b
import Derived.Deep.RegionWith
set_option linter.unusedVariables false
set_option linter.unusedSimpArgs false
set_option linter.unusedSectionVars false
namespace Go.Proofs.Ytbllialcfmpkaaa
open Go.RowKit
attribute [local go_sem ↓] Go.wp_at_zero Go.wp_at_succ

structure Mach where
  v : Vm
  pa : Option Addr
  pn : Nat
  pk : Nat
  ins : Ins
  next : Int
  eff : Eff
def Mach.cells (m : Mach) : Array Value := #[.int .i64 m.v.width, .int .i64 m.v.pc, .int .i64 m.v.state, .int .i64 m.v.cause,
  .int .u64 (m.v.r 0), .int .u64 (m.v.r 1), .int .u64 (m.v.r 2), .int .u64 (m.v.r 3), .int .u64 (m.v.r 4), .int .u64 (m.v.r 5), .int .u64 (m.v.r 6), .int .u64 (m.v.r 7),
  .int .u64 (m.v.r 8), .int .u64 (m.v.r 9), .int .u64 (m.v.r 10), .int .u64 (m.v.r 11), .int .u64 (m.v.r 12), .int .u64 (m.v.r 13), .int .u64 (m.v.r 14), .int .u64 (m.v.r 15),
  .int .i64 m.v.wait.kind, .int .i64 m.v.wait.reg, .int .i64 m.v.wait.num, .int .u64 m.v.wait.addr, .int .u64 m.v.wait.value,
  .slice m.pa m.pn m.pk, .int .i64 m.ins.op, .int .i64 m.ins.a, .int .i64 m.ins.b, .int .i64 m.ins.c, .int .i32 m.ins.imm, .int .i64 m.next,
  .int .i64 m.eff.kind, .int .i64 m.eff.reg, .int .i64 m.eff.num, .int .u64 m.eff.addr, .int .u64 m.eff.value]
/-- The machine lies in block b. -/
def MB (w : World) (b : Nat) (m : Mach) : Prop := w.heap[b]? = some (.cells m.cells 64)
theorem MB.cell {w : World} {b : Nat} {m : Mach} (h : MB w b m) {o : Nat} {x : Value} (hx : m.cells[o]? = some x) : w.cell? ⟨b, o, none⟩ = some x := by
  unfold MB at h; simp [World.cell?, h, hx]
theorem MB.frozen {w : World} {b : Nat} {m : Mach} (h : MB w b m) (o : Nat) : w.frozen? ⟨b, o, none⟩ = false := by
  unfold MB at h; simp [World.frozen?, h]
theorem MB.lt {w : World} {b : Nat} {m : Mach} (h : MB w b m) : b < w.heap.size := (Array.getElem?_eq_some_iff.1 h).1
/-- The cells of block b. -/
def Blk (w : World) (b : Nat) (cs : Array Value) : Prop := w.heap[b]? = some (.cells cs 64)
theorem Blk.upd {w : World} {b : Nat} {cs : Array Value} (h : Blk w b cs) (o : Nat) (x : Value) : Blk (w.setCell ⟨b, o, none⟩ x) b (cs.setIfInBounds o x) := by
  unfold Blk at *
  simp only [World.setCell, Array.getElem?_modify, if_pos, h]
  rfl
theorem Blk.alloc {w : World} {b : Nat} {cs : Array Value} (h : Blk w b cs) (ob : Obj) : Blk (w.alloc ob) b cs := by
  have hb : b < w.heap.size := (Array.getElem?_eq_some_iff.1 h).1
  unfold Blk at *
  rw [Below.heap_alloc _ _ _ hb]; exact h
theorem MB.blk {w : World} {b : Nat} {m : Mach} (h : MB w b m) : Blk w b m.cells := h
theorem MB.of {w : World} {b : Nat} {m : Mach} {cs : Array Value} (h : Blk w b cs) (e : cs = m.cells) : MB w b m := by rw [e] at h; exact h
theorem MB.set {w : World} {b : Nat} {m m' : Mach} (h : MB w b m) {o : Nat} {x : Value} (hx : m.cells.setIfInBounds o x = m'.cells) : MB (w.setCell ⟨b, o, none⟩ x) b m' := MB.of (h.blk.upd o x) hx
theorem MB.all {w : World} {b : Nat} {m : Mach} (h : MB w b m) : (∀ o, w.cell? ⟨b, o, none⟩ = m.cells[o]?) ∧ (∀ o, w.frozen? ⟨b, o, none⟩ = false) := by
  unfold MB at h; exact ⟨fun o => by simp [World.cell?, h], fun o => by simp [World.frozen?, h]⟩
theorem MB.drew {w : World} {b : Nat} {m : Mach} (h : MB w b m) (n : Nat) : MB (w.drewN n) b m := h
theorem Mach.get0 (m : Mach) : m.cells[0]? = some (.int .i64 (m.v.width)) := rfl
theorem Mach.get1 (m : Mach) : m.cells[1]? = some (.int .i64 (m.v.pc)) := rfl
theorem Mach.get2 (m : Mach) : m.cells[2]? = some (.int .i64 (m.v.state)) := rfl
theorem Mach.get3 (m : Mach) : m.cells[3]? = some (.int .i64 (m.v.cause)) := rfl
theorem Mach.get4 (m : Mach) : m.cells[4]? = some (.int .u64 (m.v.r 0)) := rfl
theorem Mach.get5 (m : Mach) : m.cells[5]? = some (.int .u64 (m.v.r 1)) := rfl
theorem Mach.get6 (m : Mach) : m.cells[6]? = some (.int .u64 (m.v.r 2)) := rfl
theorem Mach.get7 (m : Mach) : m.cells[7]? = some (.int .u64 (m.v.r 3)) := rfl
theorem Mach.get8 (m : Mach) : m.cells[8]? = some (.int .u64 (m.v.r 4)) := rfl
theorem Mach.get9 (m : Mach) : m.cells[9]? = some (.int .u64 (m.v.r 5)) := rfl
theorem Mach.get10 (m : Mach) : m.cells[10]? = some (.int .u64 (m.v.r 6)) := rfl
theorem Mach.get11 (m : Mach) : m.cells[11]? = some (.int .u64 (m.v.r 7)) := rfl
theorem Mach.get12 (m : Mach) : m.cells[12]? = some (.int .u64 (m.v.r 8)) := rfl
theorem Mach.get13 (m : Mach) : m.cells[13]? = some (.int .u64 (m.v.r 9)) := rfl
theorem Mach.get14 (m : Mach) : m.cells[14]? = some (.int .u64 (m.v.r 10)) := rfl
theorem Mach.get15 (m : Mach) : m.cells[15]? = some (.int .u64 (m.v.r 11)) := rfl
theorem Mach.get16 (m : Mach) : m.cells[16]? = some (.int .u64 (m.v.r 12)) := rfl
theorem Mach.get17 (m : Mach) : m.cells[17]? = some (.int .u64 (m.v.r 13)) := rfl
theorem Mach.get18 (m : Mach) : m.cells[18]? = some (.int .u64 (m.v.r 14)) := rfl
theorem Mach.get19 (m : Mach) : m.cells[19]? = some (.int .u64 (m.v.r 15)) := rfl
theorem Mach.get20 (m : Mach) : m.cells[20]? = some (.int .i64 (m.v.wait.kind)) := rfl
theorem Mach.get21 (m : Mach) : m.cells[21]? = some (.int .i64 (m.v.wait.reg)) := rfl
theorem Mach.get22 (m : Mach) : m.cells[22]? = some (.int .i64 (m.v.wait.num)) := rfl
theorem Mach.get23 (m : Mach) : m.cells[23]? = some (.int .u64 (m.v.wait.addr)) := rfl
theorem Mach.get24 (m : Mach) : m.cells[24]? = some (.int .u64 (m.v.wait.value)) := rfl
theorem Mach.get25 (m : Mach) : m.cells[25]? = some (.slice m.pa m.pn m.pk) := rfl
theorem Mach.get26 (m : Mach) : m.cells[26]? = some (.int .i64 (m.ins.op)) := rfl
theorem Mach.get27 (m : Mach) : m.cells[27]? = some (.int .i64 (m.ins.a)) := rfl
theorem Mach.get28 (m : Mach) : m.cells[28]? = some (.int .i64 (m.ins.b)) := rfl
theorem Mach.get29 (m : Mach) : m.cells[29]? = some (.int .i64 (m.ins.c)) := rfl
theorem Mach.get30 (m : Mach) : m.cells[30]? = some (.int .i32 (m.ins.imm)) := rfl
theorem Mach.get31 (m : Mach) : m.cells[31]? = some (.int .i64 (m.next)) := rfl
theorem Mach.get32 (m : Mach) : m.cells[32]? = some (.int .i64 (m.eff.kind)) := rfl
theorem Mach.get33 (m : Mach) : m.cells[33]? = some (.int .i64 (m.eff.reg)) := rfl
theorem Mach.get34 (m : Mach) : m.cells[34]? = some (.int .i64 (m.eff.num)) := rfl
theorem Mach.get35 (m : Mach) : m.cells[35]? = some (.int .u64 (m.eff.addr)) := rfl
theorem Mach.get36 (m : Mach) : m.cells[36]? = some (.int .u64 (m.eff.value)) := rfl
attribute [local go_sem] Mach.get0 Mach.get1 Mach.get2 Mach.get3 Mach.get4 Mach.get5 Mach.get6 Mach.get7 Mach.get8 Mach.get9 Mach.get10 Mach.get11 Mach.get12 Mach.get13 Mach.get14 Mach.get15 Mach.get16 Mach.get17 Mach.get18 Mach.get19 Mach.get20 Mach.get21 Mach.get22 Mach.get23 Mach.get24 Mach.get25 Mach.get26 Mach.get27 Mach.get28 Mach.get29 Mach.get30 Mach.get31 Mach.get32 Mach.get33 Mach.get34 Mach.get35 Mach.get36
theorem Mach.reg (m : Mach) (i : Nat) (h : i < 16) : m.cells[4 + i]? = some (.int .u64 (m.v.r i)) := by
  have h16 : i = 0 ∨ i = 1 ∨ i = 2 ∨ i = 3 ∨ i = 4 ∨ i = 5 ∨ i = 6 ∨ i = 7 ∨ i = 8 ∨ i = 9 ∨ i = 10 ∨ i = 11 ∨ i = 12 ∨ i = 13 ∨ i = 14 ∨ i = 15 := by omega
  rcases h16 with rfl | rfl | rfl | rfl | rfl | rfl | rfl | rfl | rfl | rfl | rfl | rfl | rfl | rfl | rfl | rfl <;> rfl
theorem Mach.set_reg (m : Mach) (i : Nat) (x : Int) (hl : m.v.regs.length = 16) (hi : i < 16) : m.cells.setIfInBounds (4 + i) (.int .u64 x) = { m with v := m.v.setR i x : Mach }.cells := by
  have h := fun j => m.v.r_set i j x hl hi
  unfold Mach.cells
  simp only [h]
  have h16 : i = 0 ∨ i = 1 ∨ i = 2 ∨ i = 3 ∨ i = 4 ∨ i = 5 ∨ i = 6 ∨ i = 7 ∨ i = 8 ∨ i = 9 ∨ i = 10 ∨ i = 11 ∨ i = 12 ∨ i = 13 ∨ i = 14 ∨ i = 15 := by omega
  rcases h16 with rfl | rfl | rfl | rfl | rfl | rfl | rfl | rfl | rfl | rfl | rfl | rfl | rfl | rfl | rfl | rfl <;> rfl
/-- What the methods take for granted. -/
structure Mach.fits (m : Mach) : Prop where
  wide : m.v.width = 32 ∨ m.v.width = 39
  len : m.v.regs.length = 16
  reg : ∀ i, 0 ≤ m.v.r i ∧ m.v.r i < pw2 m.v.width
  a : 0 ≤ m.ins.a ∧ m.ins.a < 16
  b : 0 ≤ m.ins.b ∧ m.ins.b < 16
  c : 0 ≤ m.ins.c ∧ m.ins.c < 16
  imm : -2147483648 ≤ m.ins.imm ∧ m.ins.imm ≤ 2147483647
  pc : 0 ≤ m.v.pc ∧ m.v.pc ≤ 4096
  pn : m.pn ≤ 4096
theorem pw2_pos (w : Int) : 0 < pw2 w ∧ pw2 w ≤ 549755813888 := by unfold pw2; split <;> omega
theorem mask32 (x : Int) (h0 : 0 ≤ x) (h1 : x ≤ 18446744073709551615) : bits BinOp.and IntKind.u64 x 4294967295 = x % 4294967296 := by
  obtain ⟨n, rfl⟩ := Int.eq_ofNat_of_zero_le h0
  rw [show (4294967295 : Int) = ((4294967295 : Nat) : Int) from rfl, bits_and_u64_nat n 4294967295 (by omega) (by decide), show 4294967295 = 2 ^ 32 - 1 from rfl, Nat.and_two_pow_sub_one_eq_mod]; rfl
theorem mask39 (x : Int) (h0 : 0 ≤ x) (h1 : x ≤ 18446744073709551615) : bits BinOp.and IntKind.u64 x 549755813887 = x % 549755813888 := by
  obtain ⟨n, rfl⟩ := Int.eq_ofNat_of_zero_le h0
  rw [show (549755813887 : Int) = ((549755813887 : Nat) : Int) from rfl, bits_and_u64_nat n 549755813887 (by omega) (by decide), show 549755813887 = 2 ^ 39 - 1 from rfl, Nat.and_two_pow_sub_one_eq_mod]; rfl

theorem drewN_zero (w : World) : w = w.drewN 0 := rfl

/-- A method that reads: its value; the world has only drawn. -/
def RD (w : World) (x : Int) (e : Ending) (w' : World) : Prop := e = .returned (.int .u64 x) ∧ ∃ n, w' = w.drewN n
/-- A method that changes the machine in block b to m. -/
def ST (b : Nat) (m : Mach) (w : World) (e : Ending) (w' : World) : Prop := e = .returned (.tuple #[]) ∧ MB w' b m ∧ Only b w w'

theorem wrap_u64_bd (x : Int) : 0 ≤ IntKind.u64.wrap x ∧ IntKind.u64.wrap x ≤ 18446744073709551615 := by
  rw [IntKind.wrap_u64]; omega
theorem wrap_imm (x w : Int) (_hw : w = 32 ∨ w = 39) : IntKind.u64.wrap x % pw2 w = x % pw2 w := by
  rw [IntKind.wrap_u64]; unfold pw2; split <;> omega
theorem reduce_any (b : Nat) (m : Mach) (x : Int) (w : World) (h : MB w b m) (hf : m.fits) (h0 : 0 ≤ x) (h1 : x ≤ 18446744073709551615) :
    Calls Try.prog 39 #[.pointer (some ⟨b, 0, none⟩), .int .u64 x] w (RD w (x % pw2 m.v.width)) := by
  have c0 : w.cell? ⟨b, 0, none⟩ = some (.int .i64 m.v.width) := h.cell rfl
  rcases hf.wide with hw | hw
  · rw [hw] at c0 ⊢
    have hm := Lib.hid (mask32 x h0 h1)
    clear h hf hw
    go_enter Try.func39, Try.ntmps39
    go_wp2
    go_ret
    exact ⟨ret_int (by rw [← show bits BinOp.and IntKind.u64 x 4294967295 = x % pw2 32 from hm.out]), 0, rfl⟩
  · rw [hw] at c0 ⊢
    have hm := Lib.hid (mask39 x h0 h1)
    clear h hf hw
    go_enter Try.func39, Try.ntmps39
    go_wp2
    go_ret
    exact ⟨ret_int (by rw [← show bits BinOp.and IntKind.u64 x 549755813887 = x % pw2 39 from hm.out]), 0, rfl⟩
theorem a_any (b : Nat) (m : Mach) (w : World) (h : MB w b m) (hf : m.fits) :
    Calls Try.prog 81 #[.pointer (some ⟨b, 0, none⟩)] w (RD w (m.v.r m.ins.a.toNat)) := by
  have c0 : w.cell? ⟨b, 27, none⟩ = some (.int .i64 m.ins.a) := h.cell rfl
  obtain ⟨h0, h1⟩ := hf.a
  have c1 : w.cell? ⟨b, 4 + m.ins.a.toNat, none⟩ = some (.int .u64 (m.v.r m.ins.a.toNat)) := h.cell (m.reg _ (by omega))
  clear h hf
  go_enter Try.func81, Try.ntmps81
  go_wp2_with fail
  go_quiet (fail)
  go_wp2
  go_ret
  exact ⟨rfl, _, rfl⟩
theorem b_any (b : Nat) (m : Mach) (w : World) (h : MB w b m) (hf : m.fits) :
    Calls Try.prog 82 #[.pointer (some ⟨b, 0, none⟩)] w (RD w (m.v.r m.ins.b.toNat)) := by
  have c0 : w.cell? ⟨b, 28, none⟩ = some (.int .i64 m.ins.b) := h.cell rfl
  obtain ⟨h0, h1⟩ := hf.b
  have c1 : w.cell? ⟨b, 4 + m.ins.b.toNat, none⟩ = some (.int .u64 (m.v.r m.ins.b.toNat)) := h.cell (m.reg _ (by omega))
  clear h hf
  go_enter Try.func82, Try.ntmps82
  go_wp2_with fail
  go_quiet (fail)
  go_wp2
  go_ret
  exact ⟨rfl, _, rfl⟩
theorem c_any (b : Nat) (m : Mach) (w : World) (h : MB w b m) (hf : m.fits) :
    Calls Try.prog 83 #[.pointer (some ⟨b, 0, none⟩)] w (RD w (m.v.r m.ins.c.toNat)) := by
  have c0 : w.cell? ⟨b, 29, none⟩ = some (.int .i64 m.ins.c) := h.cell rfl
  obtain ⟨h0, h1⟩ := hf.c
  have c1 : w.cell? ⟨b, 4 + m.ins.c.toNat, none⟩ = some (.int .u64 (m.v.r m.ins.c.toNat)) := h.cell (m.reg _ (by omega))
  clear h hf
  go_enter Try.func83, Try.ntmps83
  go_wp2_with fail
  go_quiet (fail)
  go_wp2
  go_ret
  exact ⟨rfl, _, rfl⟩
theorem imm_any (b : Nat) (m : Mach) (w : World) (h : MB w b m) (hf : m.fits) :
    Calls Try.prog 80 #[.pointer (some ⟨b, 0, none⟩)] w (RD w (m.ins.imm % pw2 m.v.width)) := by
  have c0 : w.cell? ⟨b, 30, none⟩ = some (.int .i32 m.ins.imm) := h.cell rfl
  obtain ⟨h0, h1⟩ := hf.imm
  go_enter Try.func80, Try.ntmps80
  have hw := Lib.hid (wrap_imm m.ins.imm m.v.width hf.wide)
  go_wp2_with fail
  refine (reduce_any b m _ _ h hf (wrap_u64_bd _).1 (wrap_u64_bd _).2).mono ?_
  rintro e w' ⟨rfl, n, rfl⟩
  go_wp2
  go_ret
  exact ⟨ret_int hw.out, _, rfl⟩
def Mach.setX (m : Mach) (x : Int) : Mach := { m with v := m.v.setR m.ins.a.toNat (x % pw2 m.v.width) }
def Mach.trapM (m : Mach) (c : Int) : Mach := { m with v := { m.v with state := 3, cause := c }, next := m.v.pc, eff := ⟨6, 0, c, 0, 0⟩ }
def Mach.waitM (m : Mach) (e : Eff) : Mach := { m with v := { m.v with state := 1, wait := e }, eff := e }
def Mach.jumpM (m : Mach) (to : Int) : Mach := if (m.pn : Int) ≤ to then m.trapM 2 else { m with next := to }
theorem ST.of {b : Nat} {m m' : Mach} {w w1 w' : World} {e : Ending} (h : ST b m w1 e w') (ho : Only b w w1) (he : m = m') : ST b m' w e w' := ⟨h.1, he ▸ h.2.1, ho.trans h.2.2⟩
theorem set_any (b : Nat) (m : Mach) (x : Int) (w : World) (h : MB w b m) (hf : m.fits) (h0 : 0 ≤ x) (h1 : x ≤ 18446744073709551615) :
    Calls Try.prog 79 #[.pointer (some ⟨b, 0, none⟩), .int .u64 x] w (ST b (m.setX x) w) := by
  have c0 : w.cell? ⟨b, 27, none⟩ = some (.int .i64 m.ins.a) := h.cell rfl
  obtain ⟨ha0, ha1⟩ := hf.a
  have c1 : w.cell? ⟨b, 4 + m.ins.a.toNat, none⟩ = some (.int .u64 (m.v.r m.ins.a.toNat)) := h.cell (m.reg _ (by omega))
  have f1 := h.frozen (4 + m.ins.a.toNat)
  have hs := Lib.hid (m.set_reg m.ins.a.toNat (x % pw2 m.v.width) hf.len (by omega))
  go_enter Try.func79, Try.ntmps79
  go_wp2_with fail
  go_region_with (first | (go_at_call 39; refine (reduce_any _ m _ _ (by first | exact h | (simp; exact h)) hf h0 h1).mono ?_; rintro e w' ⟨rfl, n, rfl⟩))
  all_goals
    go_end0
    exact ⟨rfl, (h.drew _).set hs.out, ((Only.refl _ _).drewN _).setCell _ _⟩
end Go.Proofs.Ytbllialcfmpkaaa
