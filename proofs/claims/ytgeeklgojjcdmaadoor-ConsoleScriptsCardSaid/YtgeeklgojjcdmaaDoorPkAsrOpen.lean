/- The reference's Open. -/
import Derived.Test.YtgeeklgojjcdmaaDoorPkAsrLab
import Derived.Test.YtgeeklgojjcdmaaDoorPkScanR
import Derived.Test.YtgeeklgojjcdmaaDoorPkAsmT
import Derived.Test.YtgeeklgojjcdmaaDoorPkKnAll
set_option linter.unusedVariables false
set_option linter.unusedSimpArgs false
set_option linter.unusedSectionVars false
namespace Go.Proofs.YtgeeklgojjcdmaaDoor
open Go.RowKit Go.BigFrame

set_option maxRecDepth 100000 in
set_option maxHeartbeats 4000000 in
/-- The same with the tokens as what stood there before. -/
theorem Open_two (s : ByteArray) (w : World) (hs : s.size ≤ maxLen) :
    Calls Tryd.prog 16 #[.string s] w fun e w' => ∃ (gp : Nat) (v : Value) (ol : Ents) (w1 : World), e = .returned (.pointer (some ⟨gp, 0, none⟩)) ∧ Kn [] w w1 ol ∧ TokRd w1 v (scanRes s.data.toList).1 ∧
      Kn [] w1 w' [(gp, At (parC (.string s) v ⟨0, ((scanRes s.data.toList).2.1, (scanRes s.data.toList).2.2.1), (scanRes s.data.toList).2.2.2⟩) 56)] := by
  obtain ⟨d, hd⟩ : ∃ d, d = (scanRes s.data.toList).1 := ⟨_, rfl⟩
  obtain ⟨a, ha⟩ : ∃ a, a = (scanRes s.data.toList).2.1 := ⟨_, rfl⟩
  obtain ⟨b, hb⟩ : ∃ b, b = (scanRes s.data.toList).2.2.1 := ⟨_, rfl⟩
  obtain ⟨er, her⟩ : ∃ er, er = (scanRes s.data.toList).2.2.2 := ⟨_, rfl⟩
  have hsc : ∀ w0, ∀ e w', ScanPost s.data.toList w0 e w' → ∃ ta tc ol, e = .returned (.tuple #[.slice ta d.length tc, .agg #[.int .i64 a, .int .i64 b], .int .i64 er]) ∧ TokRd w' (.slice ta d.length tc) d ∧ Kn [] w0 w' ol := by
    rintro w0 e w' ⟨v, rfl, hown, hbel⟩
    rw [flat_map, ← hd] at hown
    obtain ⟨ol, h1, h2⟩ := Kn.of_owned hbel (tok_len d) (by rw [List.length_map]) hown
    obtain ⟨ta, tc, hv⟩ := h1.form
    rw [List.length_map] at hv
    subst hv
    exact ⟨ta, tc, ol, by rw [ha, hb, her], TokRd.of_own h1 h2 (fun x hx => hx), h2⟩
  have HSC := Lib.hid hsc
  rw [← hd, ← ha, ← hb, ← her]
  have HS := Lib.hid hs
  clear hsc hd ha hb her
  go_enter Tryd.func16, Tryd.ntmps16
  go_wp2_with (first | (go_at_call 44; refine (ScanR_any s _ HS.out).mono ?_; intro e w1 hp; obtain ⟨ta, tc, tl, rfl, hrd, K2⟩ := HSC.out _ _ _ hp; have K0 := Lib.hid K2; have HRD := Lib.hid hrd; clear K2 hp hrd; have KN := Kn.start w1) | ((with_reducible refine wpList_gate ?_); first | ((with_reducible refine gate_load ?_ ?_); rfl; first | (refine ks_loadW KN 25 Tryd.underlying25 ?_)) | ((with_reducible refine gate_store ?_ ?_); rfl; first | (refine ks_storeW KN 25 ?_; clear KN; intro wx KN) | (refine ks_storeA KN 25 ?_; clear KN; intro wx KN)) | ((with_reducible refine gate_new ?_ ?_); rfl; first | (refine wpList_built rfl 56 _ rfl (parC (.string s) (.slice ta d.length tc) ⟨0, (a, b), er⟩) (by kernel_rfl) ?_) | (refine ks_alloc KN 25 (q := 4) #[.int .i64 0, .int .i64 0] ?_; clear KN; intro g4 wx hg4 KN) | (refine ks_boxA KN 56 (q := 17) ?_; clear KN; intro g17 wx hg17 KN))))
  go_ret
  exact ⟨_, _, tl, w1, rfl, K0.out, HRD.out, KN.sub (List.Sublist.cons_cons _ (List.nil_sublist _))⟩
end Go.Proofs.YtgeeklgojjcdmaaDoor
