/- The laws' Machine: some valid processor that is ready. -/
import Derived.Test.YtbllialcfmpkaaaNextK
import Derived.Test.YtbllialcfmpkaaaOkPlain
set_option linter.unusedVariables false
set_option linter.unusedSimpArgs false
set_option linter.unusedSectionVars false
namespace Go.Proofs.Ytbllialcfmpkaaa
open Go.RowKit
structure MG (W pc : Int) (v : Vm) : Prop where
  width : v.width = W
  pc : v.pc = pc
  state : v.state = 0
  cause : v.cause = 0
  wait : v.wait = Eff.none
  len : v.regs.length = 16
  reg : ∀ i, 0 ≤ v.r i ∧ v.r i < pw2 W
theorem MG.vg {W pc : Int} {v : Vm} (h : MG W pc v) (hw : W = 32 ∨ W = 39) (h0 : 0 ≤ pc) (h1 : pc ≤ 4096) : VG v :=
  ⟨⟨by rw [h.width]; exact hw, h.len, fun i => by rw [h.width]; exact h.reg i, by rw [h.pc]; exact ⟨h0, h1⟩⟩, tail_ready h.state h.cause h.wait, by rw [h.wait]; exact waitT_none⟩
theorem MG.start (W pc : Int) : MG W pc { Vm.zero with width := W, pc := pc } :=
  ⟨rfl, rfl, rfl, rfl, rfl, rfl, fun i => by
    have := pw2_pos W
    have : Vm.r { Vm.zero with width := W, pc := pc } i = 0 := by
      show (List.replicate 16 (0 : Int)).getD i 0 = 0
      rw [List.getD_eq_getElem?_getD, List.getElem?_replicate]
      split <;> rfl
    omega⟩
theorem MG.set {W pc : Int} {v u : Vm} (h : MG W pc v) (i : Nat) (x z : Int) (hi : i < 16) (z0 : 0 ≤ z) (z1 : z < pw2 W) (hu : u = v.setR i x ∨ ∃ y, u = (v.setR i y).setR i x) : MG W pc (u.setR i z) := by
  have two : ∀ u : Vm, u.width = W → u.pc = pc → u.state = 0 → u.cause = 0 → u.wait = Eff.none → u.regs.length = 16 → (∀ j, ¬ i = j → u.r j = v.r j) → MG W pc (u.setR i z) := by
    intro u h1 h2 h3 h4 h5 h6 h7
    refine ⟨h1, h2, h3, h4, h5, by rw [Vm.setR_len]; exact h6, fun j => ?_⟩
    rw [Vm.r_set u i j z h6 hi]
    split
    · exact ⟨z0, z1⟩
    · rw [h7 j ‹_›]; exact h.reg j
  have l1 : ∀ y, (v.setR i y).regs.length = 16 := fun y => by rw [Vm.setR_len]; exact h.len
  rcases hu with rfl | ⟨y, rfl⟩
  · exact two _ h.width h.pc h.state h.cause h.wait (l1 x) fun j hj => by rw [Vm.r_set v i j x h.len hi, if_neg hj]
  · exact two _ h.width h.pc h.state h.cause h.wait (by rw [Vm.setR_len]; exact l1 y) fun j hj => by rw [Vm.r_set _ i j x (l1 y) hi, if_neg hj, Vm.r_set v i j y h.len hi, if_neg hj]
def MachRel (W pc : Int) (va : Value) (w : World) (g6 g8 g12 : Nat) (i : Value) (wr : World) : Prop :=
  ∃ (j k : Nat) (v : Vm), i = .int .i64 (j : Int) ∧ j ≤ 16 ∧ k ≤ 2 + j ∧ MG W pc v ∧ Kn [] w wr [(g8, At v.cells 35), (g12, At (numA va k) 58), (g6, At Vm.zero.cells 35)]
def MachPost (n : Int) (w : World) (e : Ending) (w' : World) : Prop := ∃ v : Vm, e = .returned (.agg v.cells) ∧ VG v ∧ v.state = 0 ∧ v.pc ≤ n ∧ Below w.heap.size w w'
set_option maxRecDepth 100000 in
set_option maxHeartbeats 40000000 in
theorem Machine_32 (va vr : Value) (zs xs : List Int) (n : Int) (w : World) (hz : Ints w va zs) (hx : U64s w vr xs) (h0 : 0 ≤ n) (h1 : n ≤ 4000) (ht : nextV zs 0 % 2 = 0) :
    Calls Try.prog 15 #[va, vr, .int .i64 n] w (MachPost n w) := by
  have KN := Kn.start w
  obtain ⟨za, zn, zc, rfl⟩ := hz.slice
  obtain ⟨a, c, rfl, hxl, hxc⟩ := hx.form
  have HC := Lib.hid hxc
  have HX := Lib.hid hx
  have HZ := Lib.hid hz
  have HT := Lib.hid ht
  obtain ⟨pc, hpc, p0, p1⟩ := next_bd zs 1 (n + 1) (by omega)
  have HPC := Lib.hid hpc
  clear hx hxc hz ht hpc
  unfold maxLen at hxl
  obtain ⟨L, hL⟩ : ∃ L, L = xs.length := ⟨_, rfl⟩
  rw [← hL] at hxl ⊢
  have HL := Lib.hid hL
  clear hL
  go_enter Try.func15, Try.ntmps15
  go_wp2_with (first | (go_at_call 28; refine (Next_knx KN g12 _ _ zs _ (HZ.out.below KN.toBelow) (by repeat (first | exact Repl.here | apply Repl.there)) (by omega) (by omega) (by omega)).mono ?_; rintro e wx ⟨rfl, K2⟩; replace KN := K2; clear K2; first | rw [HT.out] | rw [HPC.out]) | ((with_reducible refine wpList_gate ?_); first | ((refine gate_load (by rfl) ?_); first | (refine wpList_kn_load1 KN (by rfl) 30 _ rfl _ _ rfl _ _ (by repeat (first | exact Has.here | refine Has.there ?_)) _ (by (repeat (first | ((with_reducible refine get_hit ?_); exact Nat.le_of_ble_eq_true (by kernel_rfl)) | ((with_reducible refine (get_miss ?_).trans ?_); (focus kernel_rfl)) | ((with_reducible refine (get_pmiss ?_).trans ?_); (focus kernel_rfl)))); all_goals (conv => lhs; whnf; arg 1; whnf)) _ Try.underlying30 rfl ?_) | (refine wpList_kn_load1 KN (by rfl) 3 _ rfl _ _ rfl _ _ (by repeat (first | exact Has.here | refine Has.there ?_)) _ (by (repeat (first | ((with_reducible refine get_hit ?_); exact Nat.le_of_ble_eq_true (by kernel_rfl)) | ((with_reducible refine (get_miss ?_).trans ?_); (focus kernel_rfl)) | ((with_reducible refine (get_pmiss ?_).trans ?_); (focus kernel_rfl)))); all_goals (conv => lhs; whnf; arg 1; whnf)) _ Try.underlying3 rfl ?_) | (refine wpList_kn_loadW KN (by rfl) 35 _ rfl _ rfl _ _ (by repeat (first | exact Has.here | refine Has.there ?_)) _ Try.underlying35 rfl (by kernel_rfl) ?_)) | ((refine gate_store (by rfl) ?_); first | (refine wpList_kn_storeW KN (by rfl) 35 _ _ rfl _ rfl _ rfl _ _ (by repeat (first | exact Repl.here | apply Repl.there)) (by kernel_rfl) (by kernel_rfl) (by kernel_rfl) ?_; clear KN; intro wx KN) | (refine wpList_kn_storeA KN (by rfl) 35 _ _ rfl _ _ rfl _ rfl _ _ (by repeat (first | exact Repl.here | apply Repl.there)) (by (try simp only [Array.size_setIfInBounds, putL_size]); first | exact Nat.le_of_ble_eq_true rfl | (simp; omega)) (by kernel_rfl) (by kernel_rfl) ?_; clear KN; intro wx KN) | (refine wpList_kn_store1 KN (by rfl) 30 _ _ rfl _ _ rfl _ (by conv => lhs; whnf) (by rfl) _ _ (by repeat (first | exact Repl.here | apply Repl.there)) (by (try simp only [Array.size_setIfInBounds, putL_size]); first | exact Nat.le_of_ble_eq_true rfl | (simp; omega)) (by kernel_rfl) (by rfl) ?_; clear KN; intro wx KN)) | ((refine gate_new (by rfl) ?_); first | (refine wpList_built rfl 58 _ rfl (numA (.slice za zn zc) 0) (by kernel_rfl) ?_) | (refine wpList_built rfl 35 _ rfl ({ Vm.zero with width := 32, pc := pc } : Vm).cells (by kernel_rfl) ?_) | (refine wpList_kn_alloc KN (by rfl) 35 rfl 6 rfl Vm.zero.cells (by kernel_rfl) ?_; clear KN; intro g6 wx hg6 KN) | (refine wpList_kn_boxA KN (by rfl) 58 _ rfl 12 rfl _ rfl ?_; clear KN; intro g12 wx hg12 KN) | (refine wpList_kn_alloc KN (by rfl) 35 rfl 8 rfl Vm.zero.cells (by kernel_rfl) ?_; clear KN; intro g8 wx hg8 KN))))
  have HREL : Hid (MachRel 32 pc (.slice za zn zc) w g6 g8 g12 (.int .i64 0) wx) := Lib.hid ⟨0, 2, _, rfl, Nat.zero_le _, Nat.le_refl _, MG.start 32 pc, KN⟩
  clear KN
  go_loopw [9] (fun i wr => MachRel 32 pc (.slice za zn zc) w g6 g8 g12 i wr) (fun i _ => 16 - (intOf i).toNat)
  case atStart => exact HREL.out
  case round =>
    obtain ⟨j, k, v, rfl, hj, hk, hv, KN⟩ := hrel
    have HV := Lib.hid hv
    clear hv
    by_cases hlt : j < 16 ∧ j < L
    · obtain ⟨h16, hlt⟩ := hlt
      obtain ⟨x, hxk⟩ : ∃ x, xs[j]? = some x := ⟨_, List.getElem?_eq_getElem (by rw [← HL.out]; exact hlt)⟩
      obtain ⟨gv, ov, rfl, hgv, hlc, hcm, hcell⟩ := HC.out j x hxk
      unfold maxLen at hcm
      rw [← HL.out] at hlc
      have hxm := HX.out.2 x (List.mem_of_getElem? hxk)
      have x0 := hxm.1
      have x1 := hxm.2
      obtain ⟨t, ht, t0, t1⟩ := next_bd zs k 2 (by decide)
      have HT2 := Lib.hid ht
      obtain ⟨y, hy⟩ : ∃ y, y = x % 64 := ⟨_, rfl⟩
      have ym : x.tmod 64 = y := by rw [hy, Int.tmod_eq_emod_of_nonneg x0]
      have y0 : 0 ≤ y := by omega
      have y1 : y ≤ 18446744073709551615 := by omega
      obtain ⟨z, hz⟩ : ∃ z, z = x % 4294967296 := ⟨_, rfl⟩
      have zm := mask32 x x0 x1
      rw [← hz] at zm
      obtain ⟨u, hu⟩ : ∃ u, u = y % 4294967296 := ⟨_, rfl⟩
      have um := mask32 y y0 y1
      rw [← hu] at um
      have hl1 : v.regs.length = 16 := HV.out.len
      have ex := v.cells_set j x hl1 h16
      have ey := (v.setR j x).cells_set j y (by rw [Vm.setR_len]; exact hl1) h16
      have cx := (v.setR j x).cells_reg j h16
      rw [Vm.r_set v j j x hl1 h16, if_pos rfl] at cx
      have cy := ((v.setR j x).setR j y).cells_reg j h16
      rw [Vm.r_set _ j j y (by rw [Vm.setR_len]; exact hl1) h16, if_pos rfl] at cy
      have ez := (v.setR j x).cells_set j z (by rw [Vm.setR_len]; exact hl1) h16
      have eu := ((v.setR j x).setR j y).cells_set j u (by rw [Vm.setR_len, Vm.setR_len]; exact hl1) h16
      have wx1 : (v.setR j x).cells[0]? = some (.int .i64 32) := by rw [← HV.out.width]; rfl
      have wy1 : ((v.setR j x).setR j y).cells[0]? = some (.int .i64 32) := by rw [← HV.out.width]; rfl
      have mz : MG 32 pc ((v.setR j x).setR j z) := HV.out.set j x z h16 (by rw [hz]; omega) (by rw [hz]; show _ < (4294967296 : Int); omega) (.inl rfl)
      have mu : MG 32 pc (((v.setR j x).setR j y).setR j u) := HV.out.set j y u h16 (by rw [hu]; omega) (by rw [hu]; show _ < (4294967296 : Int); omega) (.inr ⟨x, rfl⟩)
      have z0 : 0 ≤ z ∧ z < 4294967296 := by omega
      have u0 : 0 ≤ u ∧ u < 4294967296 := by omega
      obtain ⟨z0, z1⟩ := z0
      obtain ⟨u0, u1⟩ := u0
      have ZM := Lib.hid zm
      have UM := Lib.hid um
      have EX := Lib.hid ex
      have EY := Lib.hid ey
      have EZ := Lib.hid ez
      have EU := Lib.hid eu
      have CX := Lib.hid cx
      have CY := Lib.hid cy
      have WX := Lib.hid wx1
      have WY := Lib.hid wy1
      have MZ := Lib.hid mz
      have MU := Lib.hid mu
      clear zm um hxm ht hy hz hu ex ey ez eu cx cy wx1 wy1 mz mu hxk hl1
      rcases Bool.eq_false_or_eq_true (t == 0) with h7 | h7
      · go_wp2_with (first | (go_at_call 28; refine (Next_knx KN g12 _ _ zs _ (HZ.out.below KN.toBelow) (by repeat (first | exact Repl.here | apply Repl.there)) (by omega) (by omega) (by omega)).mono ?_; rintro e wx ⟨rfl, K2⟩; replace KN := K2; clear K2; first | rw [HT2.out]) | ((with_reducible refine wpList_gate ?_); first | ((refine gate_load (by rfl) ?_); first | (refine wpList_kn_old1 KN (by rfl) 30 _ rfl _ _ rfl _ hcell (by simp) _ Try.underlying30 rfl ?_) | (refine wpList_kn_load1 KN (by rfl) 30 _ rfl _ _ rfl _ _ (by repeat (first | exact Has.here | refine Has.there ?_)) _ (by (repeat (first | ((with_reducible refine get_hit ?_); exact Nat.le_of_ble_eq_true (by kernel_rfl)) | ((with_reducible refine (get_miss ?_).trans ?_); (focus kernel_rfl)) | ((with_reducible refine (get_pmiss ?_).trans ?_); (focus kernel_rfl)))); all_goals (conv => lhs; whnf; arg 1; whnf)) _ Try.underlying30 rfl ?_) | (refine wpList_kn_load1 KN (by rfl) 3 _ rfl _ _ rfl _ _ (by repeat (first | exact Has.here | refine Has.there ?_)) _ (by (repeat (first | ((with_reducible refine get_hit ?_); exact Nat.le_of_ble_eq_true (by kernel_rfl)) | ((with_reducible refine (get_miss ?_).trans ?_); (focus kernel_rfl)) | ((with_reducible refine (get_pmiss ?_).trans ?_); (focus kernel_rfl)))); all_goals (conv => lhs; whnf; arg 1; whnf)) _ Try.underlying3 rfl ?_) | (refine wpList_kn_loadW KN (by rfl) 35 _ rfl _ rfl _ _ (by repeat (first | exact Has.here | refine Has.there ?_)) _ Try.underlying35 rfl (by kernel_rfl) ?_)) | ((refine gate_store (by rfl) ?_); first | (refine wpList_kn_store1 KN (by rfl) 30 _ (.tmp 36) rfl g8 (4 + j) rfl _ (by conv => lhs; whnf) (by rfl) _ _ (by repeat (first | exact Repl.here | apply Repl.there)) (by show 4 + j + 1 ≤ 25; omega) (by kernel_rfl) (by rfl) ?_; clear KN; intro wx KN; replace KN := KN.as_ g8 _ (by repeat (first | exact Repl.here | apply Repl.there)) EX.out) | (refine wpList_kn_store1 KN (by rfl) 30 _ (.tmp 47) rfl g8 (4 + j) rfl _ (by conv => lhs; whnf) (by rfl) _ _ (by repeat (first | exact Repl.here | apply Repl.there)) (by show 4 + j + 1 ≤ 25; omega) (by kernel_rfl) (by rfl) ?_; clear KN; intro wx KN; replace KN := KN.as_ g8 _ (by repeat (first | exact Repl.here | apply Repl.there)) EY.out) | (refine wpList_kn_storeW KN (by rfl) 35 _ _ rfl _ rfl _ rfl _ _ (by repeat (first | exact Repl.here | apply Repl.there)) (by kernel_rfl) (by kernel_rfl) (by kernel_rfl) ?_; clear KN; intro wx KN) | (refine wpList_kn_storeA KN (by rfl) 35 _ _ rfl _ _ rfl _ rfl _ _ (by repeat (first | exact Repl.here | apply Repl.there)) (by (try simp only [Array.size_setIfInBounds, putL_size]); first | exact Nat.le_of_ble_eq_true rfl | (simp; omega)) (by kernel_rfl) (by kernel_rfl) ?_; clear KN; intro wx KN) | (refine wpList_kn_store1 KN (by rfl) 30 _ _ rfl _ _ rfl _ (by conv => lhs; whnf) (by rfl) _ _ (by repeat (first | exact Repl.here | apply Repl.there)) (by (try simp only [Array.size_setIfInBounds, putL_size]); first | exact Nat.le_of_ble_eq_true rfl | (simp; omega)) (by kernel_rfl) (by rfl) ?_; clear KN; intro wx KN)) | ((refine gate_new (by rfl) ?_); first | (refine wpList_kn_alloc KN (by rfl) 35 rfl 6 rfl Vm.zero.cells (by kernel_rfl) ?_; clear KN; intro g6 wx hg6 KN) | (refine wpList_kn_boxA KN (by rfl) 58 _ rfl 12 rfl _ rfl ?_; clear KN; intro g12 wx hg12 KN) | (refine wpList_kn_alloc KN (by rfl) 35 rfl 8 rfl Vm.zero.cells (by kernel_rfl) ?_; clear KN; intro g8 wx hg8 KN))))
        have c1 := KN.cell (g := g8) (o := 4 + j) (by repeat (first | exact Has.here | refine Has.there ?_)) CY.out
        have c2 := KN.cell (g := g8) (o := 0) (by repeat (first | exact Has.here | refine Has.there ?_)) WY.out
        go_still_tail 13, (by kernel_rfl)
        replace KN := KN.drew
        clear c1 c2
        go_wp2_with (refine wpList_kn_store1 KN (by rfl) 30 _ _ rfl g8 (4 + j) rfl _ (by conv => lhs; whnf) (by rfl) _ _ (by repeat (first | exact Repl.here | apply Repl.there)) (by show 4 + j + 1 ≤ 25; omega) (by kernel_rfl) (by rfl) ?_; clear KN; intro wx KN; replace KN := KN.as_ g8 (((v.setR j x).setR j y).setR j u).cells (by repeat (first | exact Repl.here | apply Repl.there)) (by rw [show IntKind.u64.wrap (IntKind.u64.wrap (2 ^ min (IntKind.u64.wrap 32).toNat 64) - 1) = 4294967295 from by decide, UM.out]; exact EU.out))
        go_roundw
        case rel => exact ⟨j + 1, k + 1, _, by go_num, by omega, by omega, MU.out, KN⟩
        case measure => simp [intOf]; omega
      · go_wp2_with (first | (go_at_call 28; refine (Next_knx KN g12 _ _ zs _ (HZ.out.below KN.toBelow) (by repeat (first | exact Repl.here | apply Repl.there)) (by omega) (by omega) (by omega)).mono ?_; rintro e wx ⟨rfl, K2⟩; replace KN := K2; clear K2; first | rw [HT2.out]) | ((with_reducible refine wpList_gate ?_); first | ((refine gate_load (by rfl) ?_); first | (refine wpList_kn_old1 KN (by rfl) 30 _ rfl _ _ rfl _ hcell (by simp) _ Try.underlying30 rfl ?_) | (refine wpList_kn_load1 KN (by rfl) 30 _ rfl _ _ rfl _ _ (by repeat (first | exact Has.here | refine Has.there ?_)) _ (by (repeat (first | ((with_reducible refine get_hit ?_); exact Nat.le_of_ble_eq_true (by kernel_rfl)) | ((with_reducible refine (get_miss ?_).trans ?_); (focus kernel_rfl)) | ((with_reducible refine (get_pmiss ?_).trans ?_); (focus kernel_rfl)))); all_goals (conv => lhs; whnf; arg 1; whnf)) _ Try.underlying30 rfl ?_) | (refine wpList_kn_load1 KN (by rfl) 3 _ rfl _ _ rfl _ _ (by repeat (first | exact Has.here | refine Has.there ?_)) _ (by (repeat (first | ((with_reducible refine get_hit ?_); exact Nat.le_of_ble_eq_true (by kernel_rfl)) | ((with_reducible refine (get_miss ?_).trans ?_); (focus kernel_rfl)) | ((with_reducible refine (get_pmiss ?_).trans ?_); (focus kernel_rfl)))); all_goals (conv => lhs; whnf; arg 1; whnf)) _ Try.underlying3 rfl ?_) | (refine wpList_kn_loadW KN (by rfl) 35 _ rfl _ rfl _ _ (by repeat (first | exact Has.here | refine Has.there ?_)) _ Try.underlying35 rfl (by kernel_rfl) ?_)) | ((refine gate_store (by rfl) ?_); first | (refine wpList_kn_store1 KN (by rfl) 30 _ (.tmp 36) rfl g8 (4 + j) rfl _ (by conv => lhs; whnf) (by rfl) _ _ (by repeat (first | exact Repl.here | apply Repl.there)) (by show 4 + j + 1 ≤ 25; omega) (by kernel_rfl) (by rfl) ?_; clear KN; intro wx KN; replace KN := KN.as_ g8 _ (by repeat (first | exact Repl.here | apply Repl.there)) EX.out) | (refine wpList_kn_storeW KN (by rfl) 35 _ _ rfl _ rfl _ rfl _ _ (by repeat (first | exact Repl.here | apply Repl.there)) (by kernel_rfl) (by kernel_rfl) (by kernel_rfl) ?_; clear KN; intro wx KN) | (refine wpList_kn_storeA KN (by rfl) 35 _ _ rfl _ _ rfl _ rfl _ _ (by repeat (first | exact Repl.here | apply Repl.there)) (by (try simp only [Array.size_setIfInBounds, putL_size]); first | exact Nat.le_of_ble_eq_true rfl | (simp; omega)) (by kernel_rfl) (by kernel_rfl) ?_; clear KN; intro wx KN) | (refine wpList_kn_store1 KN (by rfl) 30 _ _ rfl _ _ rfl _ (by conv => lhs; whnf) (by rfl) _ _ (by repeat (first | exact Repl.here | apply Repl.there)) (by (try simp only [Array.size_setIfInBounds, putL_size]); first | exact Nat.le_of_ble_eq_true rfl | (simp; omega)) (by kernel_rfl) (by rfl) ?_; clear KN; intro wx KN)) | ((refine gate_new (by rfl) ?_); first | (refine wpList_kn_alloc KN (by rfl) 35 rfl 6 rfl Vm.zero.cells (by kernel_rfl) ?_; clear KN; intro g6 wx hg6 KN) | (refine wpList_kn_boxA KN (by rfl) 58 _ rfl 12 rfl _ rfl ?_; clear KN; intro g12 wx hg12 KN) | (refine wpList_kn_alloc KN (by rfl) 35 rfl 8 rfl Vm.zero.cells (by kernel_rfl) ?_; clear KN; intro g8 wx hg8 KN))))
        have c1 := KN.cell (g := g8) (o := 4 + j) (by repeat (first | exact Has.here | refine Has.there ?_)) CX.out
        have c2 := KN.cell (g := g8) (o := 0) (by repeat (first | exact Has.here | refine Has.there ?_)) WX.out
        go_still_tail 13, (by kernel_rfl)
        replace KN := KN.drew
        clear c1 c2
        go_wp2_with (refine wpList_kn_store1 KN (by rfl) 30 _ _ rfl g8 (4 + j) rfl _ (by conv => lhs; whnf) (by rfl) _ _ (by repeat (first | exact Repl.here | apply Repl.there)) (by show 4 + j + 1 ≤ 25; omega) (by kernel_rfl) (by rfl) ?_; clear KN; intro wx KN; replace KN := KN.as_ g8 ((v.setR j x).setR j z).cells (by repeat (first | exact Repl.here | apply Repl.there)) (by rw [show IntKind.u64.wrap (IntKind.u64.wrap (2 ^ min (IntKind.u64.wrap 32).toNat 64) - 1) = 4294967295 from by decide, ZM.out]; exact EZ.out))
        go_roundw
        case rel => exact ⟨j + 1, k + 1, _, by go_num, by omega, by omega, MZ.out, KN⟩
        case measure => simp [intOf]; omega
    · have hge : ¬ j < 16 ∨ (j < 16 ∧ ¬ j < L) := by omega
      clear hlt
      rcases hge with hge | ⟨h16, hge⟩
      all_goals
        go_wp2_with (first | ((with_reducible refine wpList_gate ?_); first | ((refine gate_load (by rfl) ?_); first | (refine wpList_kn_load1 KN (by rfl) 30 _ rfl _ _ rfl _ _ (by repeat (first | exact Has.here | refine Has.there ?_)) _ (by (repeat (first | ((with_reducible refine get_hit ?_); exact Nat.le_of_ble_eq_true (by kernel_rfl)) | ((with_reducible refine (get_miss ?_).trans ?_); (focus kernel_rfl)) | ((with_reducible refine (get_pmiss ?_).trans ?_); (focus kernel_rfl)))); all_goals (conv => lhs; whnf; arg 1; whnf)) _ Try.underlying30 rfl ?_) | (refine wpList_kn_load1 KN (by rfl) 3 _ rfl _ _ rfl _ _ (by repeat (first | exact Has.here | refine Has.there ?_)) _ (by (repeat (first | ((with_reducible refine get_hit ?_); exact Nat.le_of_ble_eq_true (by kernel_rfl)) | ((with_reducible refine (get_miss ?_).trans ?_); (focus kernel_rfl)) | ((with_reducible refine (get_pmiss ?_).trans ?_); (focus kernel_rfl)))); all_goals (conv => lhs; whnf; arg 1; whnf)) _ Try.underlying3 rfl ?_) | (refine wpList_kn_loadW KN (by rfl) 35 _ rfl _ rfl _ _ (by repeat (first | exact Has.here | refine Has.there ?_)) _ Try.underlying35 rfl (by kernel_rfl) ?_)) | ((refine gate_store (by rfl) ?_); first | (refine wpList_kn_storeW KN (by rfl) 35 _ _ rfl _ rfl _ rfl _ _ (by repeat (first | exact Repl.here | apply Repl.there)) (by kernel_rfl) (by kernel_rfl) (by kernel_rfl) ?_; clear KN; intro wx KN) | (refine wpList_kn_storeA KN (by rfl) 35 _ _ rfl _ _ rfl _ rfl _ _ (by repeat (first | exact Repl.here | apply Repl.there)) (by (try simp only [Array.size_setIfInBounds, putL_size]); first | exact Nat.le_of_ble_eq_true rfl | (simp; omega)) (by kernel_rfl) (by kernel_rfl) ?_; clear KN; intro wx KN) | (refine wpList_kn_store1 KN (by rfl) 30 _ _ rfl _ _ rfl _ (by conv => lhs; whnf) (by rfl) _ _ (by repeat (first | exact Repl.here | apply Repl.there)) (by (try simp only [Array.size_setIfInBounds, putL_size]); first | exact Nat.le_of_ble_eq_true rfl | (simp; omega)) (by kernel_rfl) (by rfl) ?_; clear KN; intro wx KN)) | ((refine gate_new (by rfl) ?_); first | (refine wpList_kn_alloc KN (by rfl) 35 rfl 6 rfl Vm.zero.cells (by kernel_rfl) ?_; clear KN; intro g6 wx hg6 KN) | (refine wpList_kn_boxA KN (by rfl) 58 _ rfl 12 rfl _ rfl ?_; clear KN; intro g12 wx hg12 KN) | (refine wpList_kn_alloc KN (by rfl) 35 rfl 8 rfl Vm.zero.cells (by kernel_rfl) ?_; clear KN; intro g8 wx hg8 KN))))
        refine bodyPost_ret (v := .agg v.cells) (results_cell_row (p := 6) Try.results15 _ _ g6 35 v.cells (0, 0) _ rfl (KN.at_ (by repeat (first | exact Has.here | refine Has.there ?_))) Try.underlying35 rfl vm_size) rfl ?_
        exact ⟨v, rfl, HV.out.vg (by decide) p0 (by omega), HV.out.state, by rw [HV.out.pc]; omega, KN.toBelow⟩
set_option maxRecDepth 100000 in
set_option maxHeartbeats 40000000 in
theorem Machine_39 (va vr : Value) (zs xs : List Int) (n : Int) (w : World) (hz : Ints w va zs) (hx : U64s w vr xs) (h0 : 0 ≤ n) (h1 : n ≤ 4000) (ht : nextV zs 0 % 2 = 1) :
    Calls Try.prog 15 #[va, vr, .int .i64 n] w (MachPost n w) := by
  have KN := Kn.start w
  obtain ⟨za, zn, zc, rfl⟩ := hz.slice
  obtain ⟨a, c, rfl, hxl, hxc⟩ := hx.form
  have HC := Lib.hid hxc
  have HX := Lib.hid hx
  have HZ := Lib.hid hz
  have HT := Lib.hid ht
  obtain ⟨pc, hpc, p0, p1⟩ := next_bd zs 1 (n + 1) (by omega)
  have HPC := Lib.hid hpc
  clear hx hxc hz ht hpc
  unfold maxLen at hxl
  obtain ⟨L, hL⟩ : ∃ L, L = xs.length := ⟨_, rfl⟩
  rw [← hL] at hxl ⊢
  have HL := Lib.hid hL
  clear hL
  go_enter Try.func15, Try.ntmps15
  go_wp2_with (first | (go_at_call 28; refine (Next_knx KN g12 _ _ zs _ (HZ.out.below KN.toBelow) (by repeat (first | exact Repl.here | apply Repl.there)) (by omega) (by omega) (by omega)).mono ?_; rintro e wx ⟨rfl, K2⟩; replace KN := K2; clear K2; first | rw [HT.out] | rw [HPC.out]) | ((with_reducible refine wpList_gate ?_); first | ((refine gate_load (by rfl) ?_); first | (refine wpList_kn_load1 KN (by rfl) 30 _ rfl _ _ rfl _ _ (by repeat (first | exact Has.here | refine Has.there ?_)) _ (by (repeat (first | ((with_reducible refine get_hit ?_); exact Nat.le_of_ble_eq_true (by kernel_rfl)) | ((with_reducible refine (get_miss ?_).trans ?_); (focus kernel_rfl)) | ((with_reducible refine (get_pmiss ?_).trans ?_); (focus kernel_rfl)))); all_goals (conv => lhs; whnf; arg 1; whnf)) _ Try.underlying30 rfl ?_) | (refine wpList_kn_load1 KN (by rfl) 3 _ rfl _ _ rfl _ _ (by repeat (first | exact Has.here | refine Has.there ?_)) _ (by (repeat (first | ((with_reducible refine get_hit ?_); exact Nat.le_of_ble_eq_true (by kernel_rfl)) | ((with_reducible refine (get_miss ?_).trans ?_); (focus kernel_rfl)) | ((with_reducible refine (get_pmiss ?_).trans ?_); (focus kernel_rfl)))); all_goals (conv => lhs; whnf; arg 1; whnf)) _ Try.underlying3 rfl ?_) | (refine wpList_kn_loadW KN (by rfl) 35 _ rfl _ rfl _ _ (by repeat (first | exact Has.here | refine Has.there ?_)) _ Try.underlying35 rfl (by kernel_rfl) ?_)) | ((refine gate_store (by rfl) ?_); first | (refine wpList_kn_storeW KN (by rfl) 35 _ _ rfl _ rfl _ rfl _ _ (by repeat (first | exact Repl.here | apply Repl.there)) (by kernel_rfl) (by kernel_rfl) (by kernel_rfl) ?_; clear KN; intro wx KN) | (refine wpList_kn_storeA KN (by rfl) 35 _ _ rfl _ _ rfl _ rfl _ _ (by repeat (first | exact Repl.here | apply Repl.there)) (by (try simp only [Array.size_setIfInBounds, putL_size]); first | exact Nat.le_of_ble_eq_true rfl | (simp; omega)) (by kernel_rfl) (by kernel_rfl) ?_; clear KN; intro wx KN) | (refine wpList_kn_store1 KN (by rfl) 30 _ _ rfl _ _ rfl _ (by conv => lhs; whnf) (by rfl) _ _ (by repeat (first | exact Repl.here | apply Repl.there)) (by (try simp only [Array.size_setIfInBounds, putL_size]); first | exact Nat.le_of_ble_eq_true rfl | (simp; omega)) (by kernel_rfl) (by rfl) ?_; clear KN; intro wx KN)) | ((refine gate_new (by rfl) ?_); first | (refine wpList_built rfl 58 _ rfl (numA (.slice za zn zc) 0) (by kernel_rfl) ?_) | (refine wpList_built rfl 35 _ rfl ({ Vm.zero with width := 39, pc := pc } : Vm).cells (by kernel_rfl) ?_) | (refine wpList_kn_alloc KN (by rfl) 35 rfl 6 rfl Vm.zero.cells (by kernel_rfl) ?_; clear KN; intro g6 wx hg6 KN) | (refine wpList_kn_boxA KN (by rfl) 58 _ rfl 12 rfl _ rfl ?_; clear KN; intro g12 wx hg12 KN) | (refine wpList_kn_alloc KN (by rfl) 35 rfl 8 rfl Vm.zero.cells (by kernel_rfl) ?_; clear KN; intro g8 wx hg8 KN))))
  have HREL : Hid (MachRel 39 pc (.slice za zn zc) w g6 g8 g12 (.int .i64 0) wx) := Lib.hid ⟨0, 2, _, rfl, Nat.zero_le _, Nat.le_refl _, MG.start 39 pc, KN⟩
  clear KN
  go_loopw [9] (fun i wr => MachRel 39 pc (.slice za zn zc) w g6 g8 g12 i wr) (fun i _ => 16 - (intOf i).toNat)
  case atStart => exact HREL.out
  case round =>
    obtain ⟨j, k, v, rfl, hj, hk, hv, KN⟩ := hrel
    have HV := Lib.hid hv
    clear hv
    by_cases hlt : j < 16 ∧ j < L
    · obtain ⟨h16, hlt⟩ := hlt
      obtain ⟨x, hxk⟩ : ∃ x, xs[j]? = some x := ⟨_, List.getElem?_eq_getElem (by rw [← HL.out]; exact hlt)⟩
      obtain ⟨gv, ov, rfl, hgv, hlc, hcm, hcell⟩ := HC.out j x hxk
      unfold maxLen at hcm
      rw [← HL.out] at hlc
      have hxm := HX.out.2 x (List.mem_of_getElem? hxk)
      have x0 := hxm.1
      have x1 := hxm.2
      obtain ⟨t, ht, t0, t1⟩ := next_bd zs k 2 (by decide)
      have HT2 := Lib.hid ht
      obtain ⟨y, hy⟩ : ∃ y, y = x % 64 := ⟨_, rfl⟩
      have ym : x.tmod 64 = y := by rw [hy, Int.tmod_eq_emod_of_nonneg x0]
      have y0 : 0 ≤ y := by omega
      have y1 : y ≤ 18446744073709551615 := by omega
      obtain ⟨z, hz⟩ : ∃ z, z = x % 549755813888 := ⟨_, rfl⟩
      have zm := mask39 x x0 x1
      rw [← hz] at zm
      obtain ⟨u, hu⟩ : ∃ u, u = y % 549755813888 := ⟨_, rfl⟩
      have um := mask39 y y0 y1
      rw [← hu] at um
      have hl1 : v.regs.length = 16 := HV.out.len
      have ex := v.cells_set j x hl1 h16
      have ey := (v.setR j x).cells_set j y (by rw [Vm.setR_len]; exact hl1) h16
      have cx := (v.setR j x).cells_reg j h16
      rw [Vm.r_set v j j x hl1 h16, if_pos rfl] at cx
      have cy := ((v.setR j x).setR j y).cells_reg j h16
      rw [Vm.r_set _ j j y (by rw [Vm.setR_len]; exact hl1) h16, if_pos rfl] at cy
      have ez := (v.setR j x).cells_set j z (by rw [Vm.setR_len]; exact hl1) h16
      have eu := ((v.setR j x).setR j y).cells_set j u (by rw [Vm.setR_len, Vm.setR_len]; exact hl1) h16
      have wx1 : (v.setR j x).cells[0]? = some (.int .i64 39) := by rw [← HV.out.width]; rfl
      have wy1 : ((v.setR j x).setR j y).cells[0]? = some (.int .i64 39) := by rw [← HV.out.width]; rfl
      have mz : MG 39 pc ((v.setR j x).setR j z) := HV.out.set j x z h16 (by rw [hz]; omega) (by rw [hz]; show _ < (549755813888 : Int); omega) (.inl rfl)
      have mu : MG 39 pc (((v.setR j x).setR j y).setR j u) := HV.out.set j y u h16 (by rw [hu]; omega) (by rw [hu]; show _ < (549755813888 : Int); omega) (.inr ⟨x, rfl⟩)
      have z0 : 0 ≤ z ∧ z < 549755813888 := by omega
      have u0 : 0 ≤ u ∧ u < 549755813888 := by omega
      obtain ⟨z0, z1⟩ := z0
      obtain ⟨u0, u1⟩ := u0
      have ZM := Lib.hid zm
      have UM := Lib.hid um
      have EX := Lib.hid ex
      have EY := Lib.hid ey
      have EZ := Lib.hid ez
      have EU := Lib.hid eu
      have CX := Lib.hid cx
      have CY := Lib.hid cy
      have WX := Lib.hid wx1
      have WY := Lib.hid wy1
      have MZ := Lib.hid mz
      have MU := Lib.hid mu
      clear zm um hxm ht hy hz hu ex ey ez eu cx cy wx1 wy1 mz mu hxk hl1
      rcases Bool.eq_false_or_eq_true (t == 0) with h7 | h7
      · go_wp2_with (first | (go_at_call 28; refine (Next_knx KN g12 _ _ zs _ (HZ.out.below KN.toBelow) (by repeat (first | exact Repl.here | apply Repl.there)) (by omega) (by omega) (by omega)).mono ?_; rintro e wx ⟨rfl, K2⟩; replace KN := K2; clear K2; first | rw [HT2.out]) | ((with_reducible refine wpList_gate ?_); first | ((refine gate_load (by rfl) ?_); first | (refine wpList_kn_old1 KN (by rfl) 30 _ rfl _ _ rfl _ hcell (by simp) _ Try.underlying30 rfl ?_) | (refine wpList_kn_load1 KN (by rfl) 30 _ rfl _ _ rfl _ _ (by repeat (first | exact Has.here | refine Has.there ?_)) _ (by (repeat (first | ((with_reducible refine get_hit ?_); exact Nat.le_of_ble_eq_true (by kernel_rfl)) | ((with_reducible refine (get_miss ?_).trans ?_); (focus kernel_rfl)) | ((with_reducible refine (get_pmiss ?_).trans ?_); (focus kernel_rfl)))); all_goals (conv => lhs; whnf; arg 1; whnf)) _ Try.underlying30 rfl ?_) | (refine wpList_kn_load1 KN (by rfl) 3 _ rfl _ _ rfl _ _ (by repeat (first | exact Has.here | refine Has.there ?_)) _ (by (repeat (first | ((with_reducible refine get_hit ?_); exact Nat.le_of_ble_eq_true (by kernel_rfl)) | ((with_reducible refine (get_miss ?_).trans ?_); (focus kernel_rfl)) | ((with_reducible refine (get_pmiss ?_).trans ?_); (focus kernel_rfl)))); all_goals (conv => lhs; whnf; arg 1; whnf)) _ Try.underlying3 rfl ?_) | (refine wpList_kn_loadW KN (by rfl) 35 _ rfl _ rfl _ _ (by repeat (first | exact Has.here | refine Has.there ?_)) _ Try.underlying35 rfl (by kernel_rfl) ?_)) | ((refine gate_store (by rfl) ?_); first | (refine wpList_kn_store1 KN (by rfl) 30 _ (.tmp 36) rfl g8 (4 + j) rfl _ (by conv => lhs; whnf) (by rfl) _ _ (by repeat (first | exact Repl.here | apply Repl.there)) (by show 4 + j + 1 ≤ 25; omega) (by kernel_rfl) (by rfl) ?_; clear KN; intro wx KN; replace KN := KN.as_ g8 _ (by repeat (first | exact Repl.here | apply Repl.there)) EX.out) | (refine wpList_kn_store1 KN (by rfl) 30 _ (.tmp 47) rfl g8 (4 + j) rfl _ (by conv => lhs; whnf) (by rfl) _ _ (by repeat (first | exact Repl.here | apply Repl.there)) (by show 4 + j + 1 ≤ 25; omega) (by kernel_rfl) (by rfl) ?_; clear KN; intro wx KN; replace KN := KN.as_ g8 _ (by repeat (first | exact Repl.here | apply Repl.there)) EY.out) | (refine wpList_kn_storeW KN (by rfl) 35 _ _ rfl _ rfl _ rfl _ _ (by repeat (first | exact Repl.here | apply Repl.there)) (by kernel_rfl) (by kernel_rfl) (by kernel_rfl) ?_; clear KN; intro wx KN) | (refine wpList_kn_storeA KN (by rfl) 35 _ _ rfl _ _ rfl _ rfl _ _ (by repeat (first | exact Repl.here | apply Repl.there)) (by (try simp only [Array.size_setIfInBounds, putL_size]); first | exact Nat.le_of_ble_eq_true rfl | (simp; omega)) (by kernel_rfl) (by kernel_rfl) ?_; clear KN; intro wx KN) | (refine wpList_kn_store1 KN (by rfl) 30 _ _ rfl _ _ rfl _ (by conv => lhs; whnf) (by rfl) _ _ (by repeat (first | exact Repl.here | apply Repl.there)) (by (try simp only [Array.size_setIfInBounds, putL_size]); first | exact Nat.le_of_ble_eq_true rfl | (simp; omega)) (by kernel_rfl) (by rfl) ?_; clear KN; intro wx KN)) | ((refine gate_new (by rfl) ?_); first | (refine wpList_kn_alloc KN (by rfl) 35 rfl 6 rfl Vm.zero.cells (by kernel_rfl) ?_; clear KN; intro g6 wx hg6 KN) | (refine wpList_kn_boxA KN (by rfl) 58 _ rfl 12 rfl _ rfl ?_; clear KN; intro g12 wx hg12 KN) | (refine wpList_kn_alloc KN (by rfl) 35 rfl 8 rfl Vm.zero.cells (by kernel_rfl) ?_; clear KN; intro g8 wx hg8 KN))))
        have c1 := KN.cell (g := g8) (o := 4 + j) (by repeat (first | exact Has.here | refine Has.there ?_)) CY.out
        have c2 := KN.cell (g := g8) (o := 0) (by repeat (first | exact Has.here | refine Has.there ?_)) WY.out
        go_still_tail 13, (by kernel_rfl)
        replace KN := KN.drew
        clear c1 c2
        go_wp2_with (refine wpList_kn_store1 KN (by rfl) 30 _ _ rfl g8 (4 + j) rfl _ (by conv => lhs; whnf) (by rfl) _ _ (by repeat (first | exact Repl.here | apply Repl.there)) (by show 4 + j + 1 ≤ 25; omega) (by kernel_rfl) (by rfl) ?_; clear KN; intro wx KN; replace KN := KN.as_ g8 (((v.setR j x).setR j y).setR j u).cells (by repeat (first | exact Repl.here | apply Repl.there)) (by rw [show IntKind.u64.wrap (IntKind.u64.wrap (2 ^ min (IntKind.u64.wrap 39).toNat 64) - 1) = 549755813887 from by decide, UM.out]; exact EU.out))
        go_roundw
        case rel => exact ⟨j + 1, k + 1, _, by go_num, by omega, by omega, MU.out, KN⟩
        case measure => simp [intOf]; omega
      · go_wp2_with (first | (go_at_call 28; refine (Next_knx KN g12 _ _ zs _ (HZ.out.below KN.toBelow) (by repeat (first | exact Repl.here | apply Repl.there)) (by omega) (by omega) (by omega)).mono ?_; rintro e wx ⟨rfl, K2⟩; replace KN := K2; clear K2; first | rw [HT2.out]) | ((with_reducible refine wpList_gate ?_); first | ((refine gate_load (by rfl) ?_); first | (refine wpList_kn_old1 KN (by rfl) 30 _ rfl _ _ rfl _ hcell (by simp) _ Try.underlying30 rfl ?_) | (refine wpList_kn_load1 KN (by rfl) 30 _ rfl _ _ rfl _ _ (by repeat (first | exact Has.here | refine Has.there ?_)) _ (by (repeat (first | ((with_reducible refine get_hit ?_); exact Nat.le_of_ble_eq_true (by kernel_rfl)) | ((with_reducible refine (get_miss ?_).trans ?_); (focus kernel_rfl)) | ((with_reducible refine (get_pmiss ?_).trans ?_); (focus kernel_rfl)))); all_goals (conv => lhs; whnf; arg 1; whnf)) _ Try.underlying30 rfl ?_) | (refine wpList_kn_load1 KN (by rfl) 3 _ rfl _ _ rfl _ _ (by repeat (first | exact Has.here | refine Has.there ?_)) _ (by (repeat (first | ((with_reducible refine get_hit ?_); exact Nat.le_of_ble_eq_true (by kernel_rfl)) | ((with_reducible refine (get_miss ?_).trans ?_); (focus kernel_rfl)) | ((with_reducible refine (get_pmiss ?_).trans ?_); (focus kernel_rfl)))); all_goals (conv => lhs; whnf; arg 1; whnf)) _ Try.underlying3 rfl ?_) | (refine wpList_kn_loadW KN (by rfl) 35 _ rfl _ rfl _ _ (by repeat (first | exact Has.here | refine Has.there ?_)) _ Try.underlying35 rfl (by kernel_rfl) ?_)) | ((refine gate_store (by rfl) ?_); first | (refine wpList_kn_store1 KN (by rfl) 30 _ (.tmp 36) rfl g8 (4 + j) rfl _ (by conv => lhs; whnf) (by rfl) _ _ (by repeat (first | exact Repl.here | apply Repl.there)) (by show 4 + j + 1 ≤ 25; omega) (by kernel_rfl) (by rfl) ?_; clear KN; intro wx KN; replace KN := KN.as_ g8 _ (by repeat (first | exact Repl.here | apply Repl.there)) EX.out) | (refine wpList_kn_storeW KN (by rfl) 35 _ _ rfl _ rfl _ rfl _ _ (by repeat (first | exact Repl.here | apply Repl.there)) (by kernel_rfl) (by kernel_rfl) (by kernel_rfl) ?_; clear KN; intro wx KN) | (refine wpList_kn_storeA KN (by rfl) 35 _ _ rfl _ _ rfl _ rfl _ _ (by repeat (first | exact Repl.here | apply Repl.there)) (by (try simp only [Array.size_setIfInBounds, putL_size]); first | exact Nat.le_of_ble_eq_true rfl | (simp; omega)) (by kernel_rfl) (by kernel_rfl) ?_; clear KN; intro wx KN) | (refine wpList_kn_store1 KN (by rfl) 30 _ _ rfl _ _ rfl _ (by conv => lhs; whnf) (by rfl) _ _ (by repeat (first | exact Repl.here | apply Repl.there)) (by (try simp only [Array.size_setIfInBounds, putL_size]); first | exact Nat.le_of_ble_eq_true rfl | (simp; omega)) (by kernel_rfl) (by rfl) ?_; clear KN; intro wx KN)) | ((refine gate_new (by rfl) ?_); first | (refine wpList_kn_alloc KN (by rfl) 35 rfl 6 rfl Vm.zero.cells (by kernel_rfl) ?_; clear KN; intro g6 wx hg6 KN) | (refine wpList_kn_boxA KN (by rfl) 58 _ rfl 12 rfl _ rfl ?_; clear KN; intro g12 wx hg12 KN) | (refine wpList_kn_alloc KN (by rfl) 35 rfl 8 rfl Vm.zero.cells (by kernel_rfl) ?_; clear KN; intro g8 wx hg8 KN))))
        have c1 := KN.cell (g := g8) (o := 4 + j) (by repeat (first | exact Has.here | refine Has.there ?_)) CX.out
        have c2 := KN.cell (g := g8) (o := 0) (by repeat (first | exact Has.here | refine Has.there ?_)) WX.out
        go_still_tail 13, (by kernel_rfl)
        replace KN := KN.drew
        clear c1 c2
        go_wp2_with (refine wpList_kn_store1 KN (by rfl) 30 _ _ rfl g8 (4 + j) rfl _ (by conv => lhs; whnf) (by rfl) _ _ (by repeat (first | exact Repl.here | apply Repl.there)) (by show 4 + j + 1 ≤ 25; omega) (by kernel_rfl) (by rfl) ?_; clear KN; intro wx KN; replace KN := KN.as_ g8 ((v.setR j x).setR j z).cells (by repeat (first | exact Repl.here | apply Repl.there)) (by rw [show IntKind.u64.wrap (IntKind.u64.wrap (2 ^ min (IntKind.u64.wrap 39).toNat 64) - 1) = 549755813887 from by decide, ZM.out]; exact EZ.out))
        go_roundw
        case rel => exact ⟨j + 1, k + 1, _, by go_num, by omega, by omega, MZ.out, KN⟩
        case measure => simp [intOf]; omega
    · have hge : ¬ j < 16 ∨ (j < 16 ∧ ¬ j < L) := by omega
      clear hlt
      rcases hge with hge | ⟨h16, hge⟩
      all_goals
        go_wp2_with (first | ((with_reducible refine wpList_gate ?_); first | ((refine gate_load (by rfl) ?_); first | (refine wpList_kn_load1 KN (by rfl) 30 _ rfl _ _ rfl _ _ (by repeat (first | exact Has.here | refine Has.there ?_)) _ (by (repeat (first | ((with_reducible refine get_hit ?_); exact Nat.le_of_ble_eq_true (by kernel_rfl)) | ((with_reducible refine (get_miss ?_).trans ?_); (focus kernel_rfl)) | ((with_reducible refine (get_pmiss ?_).trans ?_); (focus kernel_rfl)))); all_goals (conv => lhs; whnf; arg 1; whnf)) _ Try.underlying30 rfl ?_) | (refine wpList_kn_load1 KN (by rfl) 3 _ rfl _ _ rfl _ _ (by repeat (first | exact Has.here | refine Has.there ?_)) _ (by (repeat (first | ((with_reducible refine get_hit ?_); exact Nat.le_of_ble_eq_true (by kernel_rfl)) | ((with_reducible refine (get_miss ?_).trans ?_); (focus kernel_rfl)) | ((with_reducible refine (get_pmiss ?_).trans ?_); (focus kernel_rfl)))); all_goals (conv => lhs; whnf; arg 1; whnf)) _ Try.underlying3 rfl ?_) | (refine wpList_kn_loadW KN (by rfl) 35 _ rfl _ rfl _ _ (by repeat (first | exact Has.here | refine Has.there ?_)) _ Try.underlying35 rfl (by kernel_rfl) ?_)) | ((refine gate_store (by rfl) ?_); first | (refine wpList_kn_storeW KN (by rfl) 35 _ _ rfl _ rfl _ rfl _ _ (by repeat (first | exact Repl.here | apply Repl.there)) (by kernel_rfl) (by kernel_rfl) (by kernel_rfl) ?_; clear KN; intro wx KN) | (refine wpList_kn_storeA KN (by rfl) 35 _ _ rfl _ _ rfl _ rfl _ _ (by repeat (first | exact Repl.here | apply Repl.there)) (by (try simp only [Array.size_setIfInBounds, putL_size]); first | exact Nat.le_of_ble_eq_true rfl | (simp; omega)) (by kernel_rfl) (by kernel_rfl) ?_; clear KN; intro wx KN) | (refine wpList_kn_store1 KN (by rfl) 30 _ _ rfl _ _ rfl _ (by conv => lhs; whnf) (by rfl) _ _ (by repeat (first | exact Repl.here | apply Repl.there)) (by (try simp only [Array.size_setIfInBounds, putL_size]); first | exact Nat.le_of_ble_eq_true rfl | (simp; omega)) (by kernel_rfl) (by rfl) ?_; clear KN; intro wx KN)) | ((refine gate_new (by rfl) ?_); first | (refine wpList_kn_alloc KN (by rfl) 35 rfl 6 rfl Vm.zero.cells (by kernel_rfl) ?_; clear KN; intro g6 wx hg6 KN) | (refine wpList_kn_boxA KN (by rfl) 58 _ rfl 12 rfl _ rfl ?_; clear KN; intro g12 wx hg12 KN) | (refine wpList_kn_alloc KN (by rfl) 35 rfl 8 rfl Vm.zero.cells (by kernel_rfl) ?_; clear KN; intro g8 wx hg8 KN))))
        refine bodyPost_ret (v := .agg v.cells) (results_cell_row (p := 6) Try.results15 _ _ g6 35 v.cells (0, 0) _ rfl (KN.at_ (by repeat (first | exact Has.here | refine Has.there ?_))) Try.underlying35 rfl vm_size) rfl ?_
        exact ⟨v, rfl, HV.out.vg (by decide) p0 (by omega), HV.out.state, by rw [HV.out.pc]; omega, KN.toBelow⟩
theorem Machine_any (va vr : Value) (zs xs : List Int) (n : Int) (w : World) (hz : Ints w va zs) (hx : U64s w vr xs) (h0 : 0 ≤ n) (h1 : n ≤ 4000) :
    Calls Try.prog 15 #[va, vr, .int .i64 n] w (MachPost n w) := by
  have h := nextV_bd zs 0
  have : nextV zs 0 % 2 = 0 ∨ nextV zs 0 % 2 = 1 := by omega
  rcases this with ht | ht
  · exact Machine_32 va vr zs xs n w hz hx h0 h1 ht
  · exact Machine_39 va vr zs xs n w hz hx h0 h1 ht
end Go.Proofs.Ytbllialcfmpkaaa
