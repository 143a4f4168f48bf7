/- The reference's Same, of equal programs. -/
import Derived.Test.YtemigcdieghkfaaDoorPkValidG
import Derived.Test.YtemigcdieghkfaaDoorPkKnAll
import Derived.Deep.Cut
import Derived.BigQuiet
import Derived.Deep.QuietTactic
set_option linter.unusedVariables false
set_option linter.unusedSimpArgs false
set_option linter.unusedSectionVars false
namespace Go.Proofs.YtemigcdieghkfaaDoor
open Go.RowKit Go.BigFrame

theorem range5 {w : World} {g o : Nat} {x : Ins} (h0 : w.cell? ⟨g, o, none⟩ = some (.int .i64 x.op)) (h1 : w.cell? ⟨g, o + 1, none⟩ = some (.int .i64 x.a)) (h2 : w.cell? ⟨g, o + 2, none⟩ = some (.int .i64 x.b)) (h3 : w.cell? ⟨g, o + 3, none⟩ = some (.int .i64 x.c)) (h4 : w.cell? ⟨g, o + 4, none⟩ = some (.int .i32 x.imm)) : w.rangeAt g o x.cells.toList := by
  intro j v hj
  match j, hj with
  | 0, hj => cases hj; exact h0
  | 1, hj => cases hj; exact h1
  | 2, hj => cases hj; exact h2
  | 3, hj => cases hj; exact h3
  | 4, hj => cases hj; exact h4
set_option maxRecDepth 100000 in
set_option maxHeartbeats 40000000 in
theorem Same_eq (va vb : Value) (p : List Ins) (w : World) (ha : Instrs w va p) (hb : Instrs w vb p) : Calls Tryd.prog 10 #[va, vb] w fun e w' => e = .returned (.bool true) ∧ Below w.heap.size w w' := by
  obtain ⟨a, c, rfl, _⟩ := ha.form
  obtain ⟨b, d, rfl, _⟩ := hb.form
  obtain ⟨n, hn⟩ : ∃ n, n = p.length := ⟨_, rfl⟩
  have hm := ha.1.1
  simp only [List.length_map] at hm
  unfold maxLen at hm
  have HA := Lib.hid ha
  have HB := Lib.hid hb
  have HN := Lib.hid hn
  rw [← hn] at hm ⊢
  have KN := Kn.start w
  clear ha hb hn
  go_enter Tryd.func10, Tryd.ntmps10
  go_wp2_with fail
  go_loopw [5] (fun i wr => ∃ k : Nat, i = .int .i64 (k : Int) ∧ k ≤ n ∧ Kn [] w wr []) (fun i _ => n - (intOf i).toNat)
  case atStart => exact ⟨0, rfl, Nat.zero_le _, KN⟩
  case round =>
    clear KN
    obtain ⟨k, rfl, hk, KN⟩ := hrel
    by_cases hlt : k < n
    · obtain ⟨x, hx⟩ : ∃ x, p[k]? = some x := ⟨_, List.getElem?_eq_getElem (by rw [← HN.out]; exact hlt)⟩
      obtain ⟨_, _, hv, hc⟩ := HA.out.form
      obtain ⟨_, _, hv2, hc2⟩ := HB.out.form
      simp only [Value.slice.injEq] at hv hv2
      obtain ⟨g, o, hg, hgb, hl1, hl2, x0, x1, x2, x3, x4⟩ := hc k x hx
      obtain ⟨g2, o2, hg2, hgb2, hl3, hl4, y0, y1, y2, y3, y4⟩ := hc2 k x hx
      obtain ⟨rfl, _, rfl⟩ := hv
      obtain ⟨rfl, _, rfl⟩ := hv2
      subst hg
      subst hg2
      have r1 := range5 x0 x1 x2 x3 x4
      have r2 := range5 y0 y1 y2 y3 y4
      have kr : ∀ (wz : World), Kn [] w wz [] → wz.rangeAt g (o + k * 5) x.cells.toList ∧ wz.rangeAt g2 (o2 + k * 5) x.cells.toList := fun wz K => ⟨fun j v hj => (K.old hgb (by simp)).trans (r1 j v hj), fun j v hj => (K.old hgb2 (by simp)).trans (r2 j v hj)⟩
      have KR := Lib.hid kr
      have l0 : (k : Int) < (n : Int) := by omega
      clear hx hc hc2 x0 x1 x2 x3 x4 y0 y1 y2 y3 y4 r1 r2 kr hl1 hl3
      unfold maxLen at hl2 hl4
      go_upto_region 6 with fail
      (try go_frame)
      replace KN := KN.drew
      refine wp_region_held_drew (S := (fun w' => w'.rangeAt g (o + k * 5) x.cells.toList ∧ w'.rangeAt g2 (o2 + k * 5) x.cells.toList)) (by kernel_rfl) ?qshS (fun hHeld => ?qsrest)
      case qshS => exact KR.out _ KN
      refine wpAnyH_take (i := 0) (oi := ⟨some 17, _, _, _, _, _⟩) (v := ?qsv0) rfl (by kernel_rfl) (by kernel_rfl) (by kernel_rfl) (fun _ _ _ h => h) (Or.inl ⟨by rfl, ?qshy0⟩) hHeld ?qsr0
      case qshy0 => (intro w hSw; (try dsimp only at hSw); go_simp; (try with_reducible rfl))
      (try simp only [Act.put, List.setIfInBounds_toArray, List.set_cons_zero, List.set_cons_succ])
      refine wpAnyH_take (i := 1) (oi := ⟨some 18, _, _, _, _, _⟩) (v := ?qsv1) rfl (by kernel_rfl) (by kernel_rfl) (by kernel_rfl) (fun _ _ _ h => h) (Or.inl ⟨by rfl, ?qshy1⟩) hHeld ?qsr1
      case qshy1 => (intro w hSw; (try dsimp only at hSw); go_simp; (try with_reducible rfl))
      (try simp only [Act.put, List.setIfInBounds_toArray, List.set_cons_zero, List.set_cons_succ])
      refine wpAnyH_take (i := 2) (oi := ⟨some 19, _, _, _, _, _⟩) (v := (.pointer (some ⟨g, o + k * 5, none⟩))) rfl (by kernel_rfl) (by kernel_rfl) (by kernel_rfl) (fun _ _ _ h => h) (Or.inl ⟨by rfl, ?qshy2⟩) hHeld ?qsr2
      case qshy2 => (intro w hSw; (try dsimp only at hSw); go_simp; (try rfl))
      (try simp only [Act.put, List.setIfInBounds_toArray, List.set_cons_zero, List.set_cons_succ])
      refine wpAnyH_take (i := 3) (oi := ⟨some 20, _, _, _, _, _⟩) (v := (.agg x.cells)) rfl (by kernel_rfl) (by kernel_rfl) (by kernel_rfl) (fun _ _ _ h => h) (yields_load (by rfl) 35 _ rfl g (o + k * 5) rfl x.cells _ (fun _ h => h.1) Tryd.underlying35 rfl (by kernel_rfl)) hHeld ?qsr3
      (try simp only [Act.put, List.setIfInBounds_toArray, List.set_cons_zero, List.set_cons_succ])
      refine wpAnyH_take (i := 4) (oi := ⟨some 21, _, _, _, _, _⟩) (v := ?qsv4) rfl (by kernel_rfl) (by kernel_rfl) (by kernel_rfl) (fun _ _ _ h => h) (Or.inl ⟨by rfl, ?qshy4⟩) hHeld ?qsr4
      case qshy4 => (intro w hSw; (try dsimp only at hSw); go_simp; (try with_reducible rfl))
      (try simp only [Act.put, List.setIfInBounds_toArray, List.set_cons_zero, List.set_cons_succ])
      refine wpAnyH_take (i := 5) (oi := ⟨some 22, _, _, _, _, _⟩) (v := ?qsv5) rfl (by kernel_rfl) (by kernel_rfl) (by kernel_rfl) (fun _ _ _ h => h) (Or.inl ⟨by rfl, ?qshy5⟩) hHeld ?qsr5
      case qshy5 => (intro w hSw; (try dsimp only at hSw); go_simp; (try with_reducible rfl))
      (try simp only [Act.put, List.setIfInBounds_toArray, List.set_cons_zero, List.set_cons_succ])
      refine wpAnyH_take (i := 6) (oi := ⟨some 23, _, _, _, _, _⟩) (v := (.pointer (some ⟨g2, o2 + k * 5, none⟩))) rfl (by kernel_rfl) (by kernel_rfl) (by kernel_rfl) (fun _ _ _ h => h) (Or.inl ⟨by rfl, ?qshy6⟩) hHeld ?qsr6
      case qshy6 => (intro w hSw; (try dsimp only at hSw); go_simp; (try rfl))
      (try simp only [Act.put, List.setIfInBounds_toArray, List.set_cons_zero, List.set_cons_succ])
      refine wpAnyH_take (i := 7) (oi := ⟨some 24, _, _, _, _, _⟩) (v := (.agg x.cells)) rfl (by kernel_rfl) (by kernel_rfl) (by kernel_rfl) (fun _ _ _ h => h) (yields_load (by rfl) 35 _ rfl g2 (o2 + k * 5) rfl x.cells _ (fun _ h => h.2) Tryd.underlying35 rfl (by kernel_rfl)) hHeld ?qsr7
      (try simp only [Act.put, List.setIfInBounds_toArray, List.set_cons_zero, List.set_cons_succ])
      refine wpAnyH_take (i := 8) (oi := ⟨some 25, _, _, _, _, _⟩) (v := (.bool false)) rfl (by kernel_rfl) (by kernel_rfl) (by kernel_rfl) (fun _ _ _ h => h) (kn_yields_neq (by rfl) 35 _ _ _ rfl x.cells rfl rfl (by kernel_rfl) (by kernel_rfl)) hHeld ?qsr8
      (try simp only [Act.put, List.setIfInBounds_toArray, List.set_cons_zero, List.set_cons_succ])
      refine wpAnyH_done (by kernel_rfl) ?qsdone _
      go_wp2_with fail
      go_roundw
      case rel => exact ⟨k + 1, by go_num, by omega, KN⟩
      case measure => simp [intOf]; omega
    · go_wp2_with fail
      go_ret
      exact ⟨rfl, KN.toBelow⟩
end Go.Proofs.YtemigcdieghkfaaDoor
