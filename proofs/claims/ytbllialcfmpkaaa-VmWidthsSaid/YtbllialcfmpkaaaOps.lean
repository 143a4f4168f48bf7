/- The interpreter's methods: what each does to the machine. (Printed by gen_ops.py.) -/
import Derived.Test.YtbllialcfmpkaaaMach
import Derived.RegionTactic
import Derived.ChangeAlike
set_option linter.unusedVariables false
set_option linter.unusedSimpArgs false
set_option linter.unusedSectionVars false
namespace Go.Proofs.Ytbllialcfmpkaaa
open Go.RowKit
attribute [local go_sem ↓] Go.wp_at_zero Go.wp_at_succ
attribute [local go_sem] Mach.get0 Mach.get1 Mach.get2 Mach.get3 Mach.get4 Mach.get5 Mach.get6 Mach.get7 Mach.get8 Mach.get9 Mach.get10 Mach.get11 Mach.get12 Mach.get13 Mach.get14 Mach.get15 Mach.get16 Mach.get17 Mach.get18 Mach.get19 Mach.get20 Mach.get21 Mach.get22 Mach.get23 Mach.get24 Mach.get25 Mach.get26 Mach.get27 Mach.get28 Mach.get29 Mach.get30 Mach.get31 Mach.get32 Mach.get33 Mach.get34 Mach.get35 Mach.get36
theorem Mach.rbd {m : Mach} (h : m.fits) (i : Nat) : 0 ≤ m.v.r i ∧ m.v.r i < 549755813888 := by have := h.reg i; have := (pw2_pos m.v.width).2; omega
theorem Mach.ibd (m : Mach) : 0 ≤ m.ins.imm % pw2 m.v.width ∧ m.ins.imm % pw2 m.v.width < 549755813888 := by
  have h := pw2_pos m.v.width
  have := Int.emod_nonneg m.ins.imm (show pw2 m.v.width ≠ 0 by omega)
  have := Int.emod_lt_of_pos m.ins.imm h.1
  omega
theorem wrap_mod (x w : Int) (_hw : w = 32 ∨ w = 39) : IntKind.u64.wrap x % pw2 w = x % pw2 w := by
  rw [IntKind.wrap_u64]; unfold pw2; split <;> omega

theorem trap_any (b : Nat) (m : Mach) (c : Int) (w : World) (h : MB w b m) :
    Calls Try.prog 45 #[.pointer (some ⟨b, 0, none⟩), .int .i64 c] w (ST b (m.trapM c) w) := by
  obtain ⟨hc, hfr⟩ := h.all
  have hlt := h.lt
  have H := Lib.hid h
  clear h
  go_enter Try.func45, Try.ntmps45
  go_wp2
  go_end0
  refine ⟨rfl, ?_, ?_⟩
  · unfold MB
    repeat (first | rw [heap_set] | rw [World.heap_drewN] | rw [heap_drew1] | (with_reducible refine (Below.heap_alloc _ _ _ ?_).trans ?_; (repeat (first | with_reducible exact hlt | rw [size_set]))))
    rw [show w.heap[b]? = _ from H.out]
    kernel_rfl
  · repeat (first | with_reducible refine Only.setCell ?_ _ _ | with_reducible refine Only.alloc2 ?_ _ | with_reducible refine Only.drewN ?_ _ | with_reducible refine Only.drew ?_ | with_reducible exact Only.refl _ _)
theorem wait_any (b : Nat) (m : Mach) (k r n a v : Int) (w : World) (h : MB w b m) :
    Calls Try.prog 88 #[.pointer (some ⟨b, 0, none⟩), .agg #[.int .i64 k, .int .i64 r, .int .i64 n, .int .u64 a, .int .u64 v]] w (ST b (m.waitM ⟨k, r, n, a, v⟩) w) := by
  obtain ⟨hc, hfr⟩ := h.all
  have hlt := h.lt
  have H := Lib.hid h
  clear h
  go_enter Try.func88, Try.ntmps88
  go_wp2_with fail
  go_region
  all_goals
    go_end0
    refine ⟨rfl, ?_, ?_⟩
    · unfold MB
      repeat (first | rw [heap_set] | rw [World.heap_drewN] | rw [heap_drew1] | (with_reducible refine (Below.heap_alloc _ _ _ ?_).trans ?_; (repeat (first | with_reducible exact hlt | rw [size_set]))))
      rw [show w.heap[b]? = _ from H.out]
      kernel_rfl
    · repeat (first | with_reducible refine Only.setCell ?_ _ _ | with_reducible refine Only.alloc2 ?_ _ | with_reducible refine Only.drewN ?_ _ | with_reducible refine Only.drew ?_ | with_reducible exact Only.refl _ _)
theorem jump_any (b : Nat) (m : Mach) (to : Int) (w : World) (h : MB w b m) (hf : m.fits) (h0 : 0 ≤ to) (h1 : to < 549755813888) :
    Calls Try.prog 86 #[.pointer (some ⟨b, 0, none⟩), .int .u64 to] w (ST b (m.jumpM to) w) := by
  obtain ⟨hc, hfr⟩ := h.all
  have hpn := hf.pn
  have hlt := h.lt
  have H := Lib.hid h
  clear h
  by_cases hj : (m.pn : Int) ≤ to
  · have hm : m.jumpM to = m.trapM 2 := by unfold Mach.jumpM; rw [if_pos hj]
    rw [hm]; clear hm
    go_enter Try.func86, Try.ntmps86
    go_wp2_with (go_at_call 45; refine (trap_any b m _ _ H.out).mono ?_; rintro e w' ⟨rfl, hm, ho⟩)
    go_end0
    exact ⟨rfl, by assumption, by assumption⟩
  · have hm : m.jumpM to = { m with next := to } := by unfold Mach.jumpM; rw [if_neg hj]
    rw [hm]; clear hm
    go_enter Try.func86, Try.ntmps86
    go_wp2
    go_end0
    refine ⟨rfl, ?_, ?_⟩
    · unfold MB
      repeat (first | rw [heap_set] | rw [World.heap_drewN] | rw [heap_drew1] | (with_reducible refine (Below.heap_alloc _ _ _ ?_).trans ?_; (repeat (first | with_reducible exact hlt | rw [size_set]))))
      rw [show w.heap[b]? = _ from H.out]
      kernel_rfl
    · repeat (first | with_reducible refine Only.setCell ?_ _ _ | with_reducible refine Only.alloc2 ?_ _ | with_reducible refine Only.drewN ?_ _ | with_reducible refine Only.drew ?_ | with_reducible exact Only.refl _ _)
theorem test_any (b : Nat) (m : Mach) (ok : Bool) (w : World) (h : MB w b m) (hf : m.fits) :
    Calls Try.prog 85 #[.pointer (some ⟨b, 0, none⟩), .bool ok] w (ST b (m.setX (truth ok)) w) := by
  cases ok with
  | true =>
    go_enter Try.func85, Try.ntmps85
    go_wp2_with (go_at_call 79; refine (set_any b m _ _ h hf (by decide) (by decide)).mono ?_; rintro e w' ⟨rfl, hm, ho⟩)
    go_end0
    exact ⟨rfl, by assumption, by assumption⟩
  | false =>
    go_enter Try.func85, Try.ntmps85
    go_wp2_with (go_at_call 79; refine (set_any b m _ _ h hf (by decide) (by decide)).mono ?_; rintro e w' ⟨rfl, hm, ho⟩)
    go_end0
    exact ⟨rfl, by assumption, by assumption⟩
theorem halt_any (b : Nat) (m : Mach) (w : World) (h : MB w b m) (hf : m.fits) :
    Calls Try.prog 46 #[.pointer (some ⟨b, 0, none⟩)] w (ST b { m with v := { m.v with state := 2 }, eff := { m.eff with kind := 5 } } w) := by
  obtain ⟨hc, hfr⟩ := h.all
  have hlt := h.lt
  have H := Lib.hid h
  clear h
  go_enter Try.func46, Try.ntmps46
  go_wp2
  go_end0
  refine ⟨rfl, ?_, ?_⟩
  · unfold MB
    repeat (first | rw [heap_set] | rw [World.heap_drewN] | rw [heap_drew1] | (with_reducible refine (Below.heap_alloc _ _ _ ?_).trans ?_; (repeat (first | with_reducible exact hlt | rw [size_set]))))
    rw [show w.heap[b]? = _ from H.out]
    kernel_rfl
  · repeat (first | with_reducible refine Only.setCell ?_ _ _ | with_reducible refine Only.alloc2 ?_ _ | with_reducible refine Only.drewN ?_ _ | with_reducible refine Only.drew ?_ | with_reducible exact Only.refl _ _)
theorem yield_any (b : Nat) (m : Mach) (w : World) (h : MB w b m) (hf : m.fits) :
    Calls Try.prog 72 #[.pointer (some ⟨b, 0, none⟩)] w (ST b { m with eff := { m.eff with kind := 4 } } w) := by
  obtain ⟨hc, hfr⟩ := h.all
  have hlt := h.lt
  have H := Lib.hid h
  clear h
  go_enter Try.func72, Try.ntmps72
  go_wp2
  go_end0
  refine ⟨rfl, ?_, ?_⟩
  · unfold MB
    repeat (first | rw [heap_set] | rw [World.heap_drewN] | rw [heap_drew1] | (with_reducible refine (Below.heap_alloc _ _ _ ?_).trans ?_; (repeat (first | with_reducible exact hlt | rw [size_set]))))
    rw [show w.heap[b]? = _ from H.out]
    kernel_rfl
  · repeat (first | with_reducible refine Only.setCell ?_ _ _ | with_reducible refine Only.alloc2 ?_ _ | with_reducible refine Only.drewN ?_ _ | with_reducible refine Only.drew ?_ | with_reducible exact Only.refl _ _)
theorem nop_any (b : Nat) (m : Mach) (w : World) (h : MB w b m) (hf : m.fits) :
    Calls Try.prog 73 #[.pointer (some ⟨b, 0, none⟩)] w (ST b m w) := by
  have hlt := h.lt
  have H := Lib.hid h
  clear h
  go_enter Try.func73, Try.ntmps73
  go_wp2
  go_end0
  exact ⟨rfl, H.out, Only.refl _ _⟩

end Go.Proofs.Ytbllialcfmpkaaa
