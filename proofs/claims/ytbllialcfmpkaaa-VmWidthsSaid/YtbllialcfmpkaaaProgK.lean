/- The kit's Program: some valid program. -/
import Derived.Test.YtbllialcfmpkaaaInstrK
set_option linter.unusedVariables false
set_option linter.unusedSimpArgs false
set_option linter.unusedSectionVars false
namespace Go.Proofs.Ytbllialcfmpkaaa
open Go.RowKit
def ProgPost (w : World) (e : Ending) (w' : World) : Prop :=
  ∃ (g cap : Nat) (p : List Ins), e = .returned (.slice (some ⟨g, 0, none⟩) p.length cap) ∧ p.length ≤ cap ∧ cap ≤ maxLen ∧ 1 ≤ p.length ∧ p.length ≤ 12 ∧ progErr p = 0 ∧ (∀ x ∈ p, x.fits) ∧
    Kn [] w w' [(g, CapAt 29 5 cap (p.map fun x => x.cells.toList))]
def ProgRel (va : Value) (N : Nat) (w : World) (g9 : Nat) (v i : Value) (wr : World) : Prop :=
  ∃ (j k : Nat) (p : List Ins) (ol : Ents), i = .int .i64 (j : Int) ∧ j ≤ N ∧ k ≤ 1 + 12 * j ∧ p.length = j ∧ (∀ x ∈ p, insErr x N = 0 ∧ x.fits) ∧ OwnT 29 5 v (p.map fun x => x.cells.toList) ol ∧
    Kn [] w wr ((g9, At (numA va k) 58) :: ol)
theorem firstErr_none (n : Int) : ∀ (p : List Ins), (∀ x ∈ p, insErr x n = 0) → firstErr n p = 0
  | [], _ => rfl
  | x :: p, h => by rw [firstErr, if_pos (h x (by simp))]; exact firstErr_none n p (fun y hy => h y (by simp [hy]))
theorem progErr_none {p : List Ins} (h0 : 1 ≤ p.length) (h1 : p.length ≤ 4096) (h : ∀ x ∈ p, insErr x p.length = 0) : progErr p = 0 := by
  unfold progErr; rw [if_neg (by omega)]; exact firstErr_none _ _ h
set_option maxRecDepth 100000 in
set_option maxHeartbeats 40000000 in
theorem Program_any (va : Value) (zs : List Int) (w : World) (hz : Ints w va zs) : Calls Try.prog 10 #[va] w (ProgPost w) := by
  have KN := Kn.start w
  obtain ⟨za, zn, zc, rfl⟩ := hz.slice
  have HZ := Lib.hid hz
  clear hz
  obtain ⟨r, hr, r0, r1⟩ := next_bd zs 0 12 (by decide)
  obtain ⟨N, rfl⟩ := Int.eq_ofNat_of_zero_le r0
  have HR := Lib.hid hr
  clear hr
  go_enter Try.func10, Try.ntmps10
  go_wp2_with (first | (go_at_call 28; refine (Next_knx KN g9 _ _ zs _ (HZ.out.below KN.toBelow) (by repeat (first | exact Repl.here | apply Repl.there)) (by omega) (by omega) (by omega)).mono ?_; rintro e wx ⟨rfl, K2⟩; replace KN := K2; clear K2; first | rw [HR.out]) | ((with_reducible refine wpList_gate ?_); first | ((refine gate_new (by rfl) ?_); first | (refine wpList_built rfl 58 _ rfl (numA (.slice za zn zc) 0) (by kernel_rfl) ?_) | (refine wpList_kn_boxA KN (by rfl) 58 _ rfl 9 rfl _ rfl ?_; clear KN; intro g9 wx hg9 KN))))
  have HREL : Hid (ProgRel (.slice za zn zc) (N + 1) w g9 (.slice none 0 0) (.int .i64 0) wx) := Lib.hid ⟨0, 1, [], [], rfl, Nat.zero_le _, Nat.le_refl _, rfl, by simp, .nil, KN⟩
  have HG := Lib.hid hg9
  clear KN hg9
  go_loopw [5, 6] (fun v i wr => ProgRel (.slice za zn zc) (N + 1) w g9 v i wr) (fun _ i _ => N + 1 - (intOf i).toNat)
  case atStart => exact HREL.out
  case round =>
    obtain ⟨j, k, p, ol, rfl, hj, hk, hp, hx, OW, KN⟩ := hrel
    have HX := Lib.hid hx
    have HP := Lib.hid hp
    have HO := Lib.hid OW
    clear hx hp OW
    by_cases hlt : j < N + 1
    · have hs : ∀ w', Only g9 wr w' → Ints w' (.slice za zn zc) zs := fun w' ho => HZ.out.below (below_only KN.toBelow ho HG.out KN.size)
      have HS := Lib.hid hs
      clear hs
      obtain ⟨a, c, hv⟩ := HO.out.form
      rw [List.length_map] at hv
      subst hv
      go_wp2_with (first | (go_at_call 29; refine (Instr_any g9 k _ zs _ _ (KN.at_ (by repeat (first | exact Has.here | refine Has.there ?_))) HS.out (by omega) (by omega) (by omega)).mono ?_; rintro e wx ⟨x, k', rfl, he, hf, hk1, hk2, K2⟩; replace KN := KN.call1 K2 (by repeat (first | exact Repl.here | apply Repl.there)); clear K2) | ((with_reducible refine wpList_gate ?_); first | (refine wpList_kn_lit KN rfl 25 29 1 _ rfl 22 rfl Try.underlying25 x.cells (by kernel_rfl) ?_; clear KN; intro g22 wx hg22 KN) | (at_builtin; (refine wpList_kn_append1 KN HO.out (by rfl) _ _ 25 rfl 40 Try.underlying25 (by kernel_rfl) (by decide) rfl 1 rfl rfl (by kernel_rfl) (by simp [HP.out, maxLen]; omega) (by simp [HP.out]; omega) (by repeat (first | exact TailF.id | apply TailF.cons)) rfl ?_); clear KN; intro v' wx ol' OW KN) | ((refine gate_new (by rfl) ?_); first | (refine wpList_kn_boxA KN (by rfl) 58 _ rfl 9 rfl _ rfl ?_; clear KN; intro g9 wx hg9 KN))))
      go_roundw
      case rel =>
        refine ⟨j + 1, k', p ++ [x], ol', by go_num, by omega, by omega, by simp [HP.out], ?_, by simpa using OW, KN⟩
        intro y hy
        rcases List.mem_append.1 hy with hy | hy
        · exact HX.out y hy
        · simp at hy; subst hy; exact ⟨by rw [← he]; congr 1; omega, hf⟩
      case measure => simp [intOf]; omega
    · have hjN : j = N + 1 := by omega
      obtain ⟨g, cap, h1, h2, h3, h4⟩ := HO.out.pos (by rw [List.length_map, HP.out]; omega)
      rw [List.length_map] at h1 h2
      subst h1
      subst h4
      have HC := Lib.hid h2
      have HM := Lib.hid h3
      clear h2 h3
      go_wp2_with (first | ((with_reducible refine wpList_gate ?_); first | ((refine gate_new (by rfl) ?_); first | (refine wpList_kn_boxA KN (by rfl) 58 _ rfl 9 rfl _ rfl ?_; clear KN; intro g9 wx hg9 KN))))
      go_ret
      refine ⟨g, cap, p, rfl, HC.out, HM.out, by rw [HP.out]; omega, by rw [HP.out]; omega, progErr_none (by rw [HP.out]; omega) (by rw [HP.out]; omega) (fun x hx => ?_), fun x hx => (HX.out x hx).2, (KN.drop .here)⟩
      rw [HP.out, hjN]
      exact (HX.out x hx).1
end Go.Proofs.Ytbllialcfmpkaaa
