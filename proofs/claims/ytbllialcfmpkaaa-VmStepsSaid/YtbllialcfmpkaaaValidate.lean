/- isa.Validate over a program that lies in memory. -/
import Derived.Test.YtbllialcfmpkaaaValid
set_option linter.unusedVariables false
set_option linter.unusedSimpArgs false
set_option linter.unusedSectionVars false
namespace Go.Proofs.Ytbllialcfmpkaaa
open Go.RowKit

def Ins.fits (x : Ins) : Prop := (-2147483648 ≤ x.imm ∧ x.imm ≤ 2147483647) ∧ (-9223372036854775808 ≤ x.op ∧ x.op ≤ 9223372036854775807)
/-- A slice value that reads as this program. -/
def Instrs (w : World) (v : Value) (p : List Ins) : Prop := Row w v 5 (p.map fun x => x.cells.toList) ∧ ∀ x ∈ p, x.fits
theorem Instrs.below {w w' : World} {v : Value} {p : List Ins} (h : Instrs w v p) (hb : Below w.heap.size w w') : Instrs w' v p := ⟨h.1.below hb, h.2⟩
theorem Instrs.form {w : World} {v : Value} {p : List Ins} (h : Instrs w v p) : ∃ a c, v = .slice a p.length c ∧ (∀ (k : Nat) (x : Ins), p[k]? = some x → ∃ g off, a = some ⟨g, off, none⟩ ∧ g < w.heap.size ∧ p.length ≤ c ∧ c ≤ maxLen ∧
    w.cell? ⟨g, off + k * 5, none⟩ = some (.int .i64 x.op) ∧ w.cell? ⟨g, off + k * 5 + 1, none⟩ = some (.int .i64 x.a) ∧ w.cell? ⟨g, off + k * 5 + 2, none⟩ = some (.int .i64 x.b) ∧ w.cell? ⟨g, off + k * 5 + 3, none⟩ = some (.int .i64 x.c) ∧ w.cell? ⟨g, off + k * 5 + 4, none⟩ = some (.int .i32 x.imm)) := by
  rcases h.1.2 with ⟨h0, a, c, rfl⟩ | ⟨b, off, cap, hv, h0, hl, hm, hb, hc⟩
  · have : p = [] := by simpa using h0
    subst this
    exact ⟨a, c, rfl, fun k x hx => by simp at hx⟩
  · simp only [List.length_map] at hv hl
    refine ⟨_, _, hv, fun k x hx => ⟨b, off, rfl, hb, hl, hm, ?_⟩⟩
    have g := hc k x.cells.toList
    have hi : (p.map fun x => x.cells.toList)[k]? = some x.cells.toList := by rw [List.getElem?_map, hx]; rfl
    exact ⟨g 0 _ hi rfl, g 1 _ hi rfl, g 2 _ hi rfl, g 3 _ hi rfl, g 4 _ hi rfl⟩
theorem firstErr_at {n : Int} : ∀ {p : List Ins} {k : Nat} {x : Ins}, (∀ y ∈ p.take k, insErr y n = 0) → p[k]? = some x → ¬ insErr x n = 0 → firstErr n p = insErr x n
  | [], _, _, _, h, _ => by simp at h
  | y :: p, 0, x, _, h, hx => by
    simp only [List.getElem?_cons_zero, Option.some.injEq] at h
    subst h
    simp only [firstErr]; rw [if_neg hx]
  | y :: p, k + 1, x, ha, h, hx => by
    simp only [firstErr]
    rw [if_pos (ha y (by simp)), firstErr_at (fun z hz => ha z (by rw [List.take_succ_cons]; exact List.mem_cons_of_mem _ hz)) (by simpa using h) hx]
theorem firstErr_zero {n : Int} : ∀ {p : List Ins}, (∀ y ∈ p, insErr y n = 0) → firstErr n p = 0
  | [], _ => rfl
  | y :: p, h => by
    simp only [firstErr]
    rw [if_pos (h y (by simp)), firstErr_zero (fun z hz => h z (by simp [hz]))]
theorem progErr_ok {p : List Ins} (h : ¬ (p.length = 0 ∨ 4096 < p.length)) : progErr p = firstErr p.length p := by unfold progErr; rw [if_neg h]

set_option maxRecDepth 100000 in
set_option maxHeartbeats 2000000 in
theorem Validate_any (va : Value) (p : List Ins) (w : World) (h : Instrs w va p) :
    Calls Try.prog 44 #[va] w fun e w' => e = .returned (.int .i64 (progErr p)) ∧ Below w.heap.size w w' := by
  obtain ⟨a, c, rfl, _⟩ := h.form
  have hm := h.1.1
  simp only [List.length_map] at hm
  unfold maxLen at hm
  obtain ⟨n, hn⟩ : ∃ n, n = p.length := ⟨_, rfl⟩
  have HN := Lib.hid hn
  have H := Lib.hid h
  rw [← hn] at hm ⊢
  by_cases hbad : n = 0 ∨ 4096 < n
  · have he : progErr p = 15 := by unfold progErr; rw [if_pos (by rw [← hn]; exact hbad)]
    have HE := Lib.hid he
    clear he hn h
    rcases hbad with h0 | h0
    · subst h0
      go_enter Try.func44, Try.ntmps44
      go_wp2
      go_ret
      exact ⟨ret_int HE.out.symm, Below.refl _ _⟩
    · go_enter Try.func44, Try.ntmps44
      go_wp2
      go_ret
      exact ⟨ret_int HE.out.symm, Below.refl _ _⟩
  · have he : progErr p = firstErr p.length p := progErr_ok (by rw [← hn]; exact hbad)
    have HE := Lib.hid he
    have n0 : 1 ≤ n := by omega
    have n1 : n ≤ 4096 := by omega
    clear he hn h hbad
    go_enter Try.func44, Try.ntmps44
    go_wp2_with fail
    refine (formats_any _).mono ?_
    rintro e w1 ⟨rfl, hft, hb1, hz1⟩
    have HFT := Lib.hid hft
    have HB1 := Lib.hid hb1
    clear hft hb1
    go_wp2_with fail
    go_loopw [18] (fun i wr => ∃ k : Nat, k ≤ n ∧ i = .int .i64 k ∧ (∀ y ∈ p.take k, insErr y n = 0) ∧ Below w.heap.size w wr ∧ FT wr w.heap.size) (fun i _ => n - (intOf i).toNat)
    case atStart => exact ⟨0, Nat.zero_le _, rfl, by simp, HB1.out, HFT.out⟩
    case round =>
      obtain ⟨k, hk, rfl, hall, hb, hft⟩ := hrel
      have HALL := Lib.hid hall
      have HB := Lib.hid hb
      have HFR := Lib.hid hft
      have hz := hb.size
      have hzt := hft.lt
      by_cases hlt : k < n
      · obtain ⟨x, hx⟩ : ∃ x, p[k]? = some x := ⟨_, List.getElem?_eq_getElem (by rw [← HN.out]; exact hlt)⟩
        obtain ⟨a', c', hv, hcells⟩ := (H.out.below hb).form
        simp only [Value.slice.injEq] at hv
        obtain ⟨g, off, hg, hgb, hc1, hc2, x0, x1, x2, x3, x4⟩ := hcells k x hx
        obtain ⟨rfl, _, rfl⟩ := hv
        subst hg
        have HX := Lib.hid hx
        have hfit := (H.out.2 x (List.mem_of_getElem? hx)).1
        have HNN := Lib.hid (show (n : Int) = p.length by rw [HN.out])
        clear hall hb hft hcells hx hc1
        unfold maxLen at hc2
        go_wp2_with fail
        refine (check_any w.heap.size x n _ (HFR.out.below (by exact (Below.refl _ _).alloc (Nat.le_refl _) _)) hfit).mono ?_
        rintro e w2 ⟨rfl, hb2⟩
        have hbb := HB.out.trans ((((Below.refl _ _).alloc (Nat.le_refl _) _).trans (hb2.mono (by simp))).mono hz)
        have hft2 := (HFR.out.below ((Below.refl _ _).alloc (Nat.le_refl _) _)).below hb2
        have HBB := Lib.hid hbb
        have HFT2 := Lib.hid hft2
        clear hbb hft2 hb2 x0 x1 x2 x3 x4
        by_cases hz0 : insErr x n = 0
        · have hb0 : (insErr x n != 0) = false := by rw [bne_eq_false_iff_eq]; exact hz0
          have HZ := Lib.hid hz0
          clear hz0
          go_wp2
          go_roundw
          case rel =>
            refine ⟨k + 1, by omega, by go_num, ?_, HBB.out, HFT2.out⟩
            intro y hy
            rw [List.take_add_one, HX.out] at hy
            simp only [Option.toList_some, List.mem_append, List.mem_singleton] at hy
            rcases hy with hy | rfl
            · exact HALL.out y hy
            · exact HZ.out
          case measure => simp [intOf]; omega
        · have hb0 : (insErr x n != 0) = true := by rw [bne_iff_ne]; exact hz0
          have HZ := Lib.hid hz0
          clear hz0
          go_wp2
          go_ret
          exact ⟨ret_int (by rw [HE.out, ← HNN.out]; exact (firstErr_at HALL.out HX.out HZ.out).symm), HBB.out⟩
      · clear hall hb hft
        go_wp2
        go_ret
        refine ⟨ret_int ?_, HB.out⟩
        rw [HE.out, firstErr_zero (fun y hy => ?_)]
        have := HALL.out y (by rw [List.take_of_length_le (by rw [← HN.out]; omega)]; exact hy)
        rw [← HN.out]; exact this
end Go.Proofs.Ytbllialcfmpkaaa
