/- The law's list of reports. -/
import Derived.Test.YtpjejaoobbancaaPkMkRep
set_option linter.unusedVariables false
set_option linter.unusedSimpArgs false
set_option linter.unusedSectionVars false
namespace Go.Proofs.Ytpjejaoobbancaa
open Go.RowKit Go.BigFrame

def mkReports (zs : List Int) : Nat → List Rep
  | 0 => []
  | i + 1 => mkReports zs i ++ [{ mkReport (zs.drop (11 * (i : Int)).toNat) with core := (i : Int) }]
inductive RepsC : List Rep → List (List Value) → Ents → Prop
  | nil : RepsC [] [] []
  | snoc {rs : List Rep} {rows : List (List Value)} {inner o : Ents} {r : Rep} {cs : Array Value} : RepsC rs rows inner → RepC r cs o → RepsC (rs ++ [r]) (rows ++ [cs.toList]) (inner ++ o)
theorem RepsC.len {rs : List Rep} {rows : List (List Value)} {inner : Ents} (h : RepsC rs rows inner) : rows.length = rs.length := by
  induction h with
  | nil => rfl
  | snoc _ _ ih => simp [ih]
theorem mkReports_len (zs : List Int) : ∀ n, (mkReports zs n).length = n
  | 0 => rfl
  | n + 1 => by unfold mkReports; rw [List.length_append, mkReports_len zs n]; rfl
def RpsR (zs : List Int) (n : Nat) (w : World) (s i : Value) (wr : World) : Prop :=
  ∃ (k : Nat) (ol inner : Ents) (rows : List (List Value)), i = .int .i64 (k : Int) ∧ k ≤ n ∧ RepsC (mkReports zs k) rows inner ∧ OwnT 40 20 s rows ol ∧ Kn [] w wr (inner ++ ol)
set_option maxRecDepth 100000 in
set_option maxHeartbeats 8000000 in
theorem reports_any {v : Value} {zs : List Int} {w : World} (h : Ints w v zs) (n : Nat) (hn : n ≤ 100) :
    Calls Try.prog 8 #[v, .int .i64 (n : Int)] w fun e w' => ∃ s ol inner rows, e = .returned s ∧ RepsC (mkReports zs n) rows inner ∧ OwnT 40 20 s rows ol ∧ Kn [] w w' (inner ++ ol) := by
  have KN := Kn.start w
  have HI := Lib.hid h
  have HZ : Hid (I64s zs) := Lib.hid h.2
  clear h
  go_enter Try.func8, Try.ntmps8
  go_wp2_with fail
  go_loopw [5, 6] (fun s i wr => RpsR zs n w s i wr) (fun _ i _ => n - (intOf i).toNat)
  case atStart => exact ⟨0, [], [], [], rfl, Nat.zero_le _, .nil, .nil, KN⟩
  case round =>
    clear KN
    obtain ⟨k, ol, inner, rows, rfl, hk, hrc, OW, KN⟩ := hrel
    have HRC := Lib.hid hrc
    have HO := Lib.hid OW
    have HRL : Hid (rows.length = k) := Lib.hid (by rw [hrc.len, mkReports_len])
    obtain ⟨xa, xn, xc, rfl⟩ := OW.form3
    clear hrc OW
    by_cases hlt : k < n
    · obtain ⟨R, hR⟩ : ∃ R, R = mkReport (zs.drop (11 * (k : Int)).toNat) := ⟨_, rfl⟩
      have HR := Lib.hid hR
      have HNX : Hid (mkReports zs (k + 1) = mkReports zs k ++ [{ R with core := (k : Int) }]) := Lib.hid (by rw [hR]; rfl)
      clear hR
      go_upto_region 6 with (first | (go_at_call 24; refine (After_any (HI.out.below KN.toBelow).1 _ (by omega) (by omega)).mono ?_; rintro e wx ⟨va, rfl, hva, rfl⟩; have HVA := Lib.hid hva; clear hva) | (go_at_call 23; refine (Report_any ⟨HVA.out, HZ.out.drop _⟩).mono ?_; rw [← HR.out]; rintro e wx ⟨cs, inner2, rfl, hrc2, K2⟩; obtain ⟨m, o, s0, s2, s3, nm, no, p0, p2, p3, om, oo, pm, po, rfl, h1, h2, h3, h4, hin⟩ := hrc2; have H1 := Lib.hid h1; have H2 := Lib.hid h2; have H3 := Lib.hid h3; have H4 := Lib.hid h4; have HIN := Lib.hid hin; clear h1 h2 h3 h4 hin HVA; replace KN : Kn [] w wx ((inner ++ inner2) ++ ol) := (KN.call0 K2).perm (by rw [← List.append_assoc]; exact List.perm_append_comm.append_right ol); clear K2) | ((with_reducible refine wpList_gate ?_); first | ((with_reducible refine gate_load ?_ ?_); rfl; first | (refine ks_loadW KN 40 Try.underlying40 ?_)) | ((with_reducible refine gate_store ?_ ?_); rfl; first | (refine ks_storeW KN 40 ?_; clear KN; intro wx KN) | (refine ks_storeA KN 40 ?_; clear KN; intro wx KN) | (refine ks_store1 KN 3 ?_; clear KN; intro wx KN)) | ((with_reducible refine gate_new ?_ ?_); rfl; first | (refine ks_alloc KN 40 (q := 7) #[.int .i64 0, .int .i64 0, .slice none 0 0, .slice none 0 0, .slice none 0 0, .slice none 0 0, .slice none 0 0, .slice none 0 0, .slice none 0 0, .slice none 0 0, .bool false, .int .i64 0, .slice none 0 0, .slice none 0 0, .slice none 0 0, .slice none 0 0, .slice none 0 0, .slice none 0 0, .slice none 0 0, .slice none 0 0] ?_; clear KN; intro g7 wx hg7 KN))))
      (try go_frame)
      go_upto_region 7 with (first | ((with_reducible refine wpList_gate ?_); first | ((with_reducible refine gate_load ?_ ?_); rfl; first | (refine ks_loadW KN 40 Try.underlying40 ?_)) | ((with_reducible refine gate_store ?_ ?_); rfl; first | (refine ks_storeW KN 40 ?_; clear KN; intro wx KN) | (refine ks_storeA KN 40 ?_; clear KN; intro wx KN) | (refine ks_store1 KN 3 ?_; clear KN; intro wx KN)) | ((with_reducible refine gate_new ?_ ?_); rfl; first | (refine ks_alloc KN 40 (q := 7) #[.int .i64 0, .int .i64 0, .slice none 0 0, .slice none 0 0, .slice none 0 0, .slice none 0 0, .slice none 0 0, .slice none 0 0, .slice none 0 0, .slice none 0 0, .bool false, .int .i64 0, .slice none 0 0, .slice none 0 0, .slice none 0 0, .slice none 0 0, .slice none 0 0, .slice none 0 0, .slice none 0 0, .slice none 0 0] ?_; clear KN; intro g7 wx hg7 KN))))
      (try go_frame)
      replace KN := KN.as_ g7 (repA (k : Int) R.view.num m o s0 s2 s3 R.ready R.next.num nm no p0 p2 p3) (by repeat (first | exact Repl.here | apply Repl.there)) (by kernel_rfl)
      go_wp2_with (first | ((with_reducible refine wpList_gate ?_); first | (refine wpList_kn_lit KN (by rfl) 24 40 1 _ rfl 22 rfl Try.underlying24 (repA (k : Int) R.view.num m o s0 s2 s3 R.ready R.next.num nm no p0 p2 p3) (by kernel_rfl) ?_; clear KN; intro g22 wx hg22 KN) | (at_builtin; refine wpList_kn_append1 KN HO.out (by rfl) _ _ 24 rfl 416 Try.underlying24 (by kernel_rfl) (by decide) rfl 1 rfl rfl (by kernel_rfl) (by have := HRL.out; unfold maxLen; omega) (by have := HRL.out; omega) (f := fun o => (g7, _) :: ((inner ++ inner2) ++ o)) (.cons _ (.app .id _)) rfl ?_; clear KN; intro v23 wx ol23 OW23 KN; have HO23 := Lib.hid OW23; clear OW23) | ((with_reducible refine gate_load ?_ ?_); rfl; first | (refine ks_loadW KN 40 Try.underlying40 ?_)) | ((with_reducible refine gate_store ?_ ?_); rfl; first | (refine ks_storeW KN 40 ?_; clear KN; intro wx KN) | (refine ks_storeA KN 40 ?_; clear KN; intro wx KN) | (refine ks_store1 KN 3 ?_; clear KN; intro wx KN)) | ((with_reducible refine gate_new ?_ ?_); rfl; first | (refine ks_alloc KN 40 (q := 7) #[.int .i64 0, .int .i64 0, .slice none 0 0, .slice none 0 0, .slice none 0 0, .slice none 0 0, .slice none 0 0, .slice none 0 0, .slice none 0 0, .slice none 0 0, .bool false, .int .i64 0, .slice none 0 0, .slice none 0 0, .slice none 0 0, .slice none 0 0, .slice none 0 0, .slice none 0 0, .slice none 0 0, .slice none 0 0] ?_; clear KN; intro g7 wx hg7 KN))))
      go_roundw
      case rel => exact ⟨k + 1, ol23, inner ++ inner2, _, by go_num, by omega, by rw [HNX.out]; exact .snoc HRC.out ⟨m, o, s0, s2, s3, nm, no, p0, p2, p3, om, oo, pm, po, rfl, H1.out, H2.out, H3.out, H4.out, HIN.out⟩, HO23.out, KN.drop .here⟩
      case measure => simp [intOf]; omega
    · obtain rfl : k = n := by omega
      go_wp2_with fail
      go_ret
      exact ⟨_, ol, inner, rows, rfl, HRC.out, HO.out, KN⟩
end Go.Proofs.Ytpjejaoobbancaa
