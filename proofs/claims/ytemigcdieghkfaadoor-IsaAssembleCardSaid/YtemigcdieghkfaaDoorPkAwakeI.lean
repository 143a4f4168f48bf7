/- The law's sanity check: the example of the chapter. -/
import Derived.Test.YtemigcdieghkfaaDoorPkAsmMain
import Derived.Test.YtemigcdieghkfaaDoorPkEncG
import Derived.Test.YtemigcdieghkfaaDoorPkProgG
set_option linter.unusedVariables false
set_option linter.unusedSimpArgs false
set_option linter.unusedSectionVars false
namespace Go.Proofs.YtemigcdieghkfaaDoor
open Go.RowKit Go.BigFrame

def exT : List UInt8 := [115, 116, 97, 114, 116, 58, 32, 108, 105, 32, 114, 49, 44, 32, 53, 59, 32, 108, 111, 111, 112, 58, 32, 97, 100, 100, 105, 32, 114, 49, 44, 32, 114, 49, 44, 32, 45, 49, 59, 32, 98, 110, 101, 122, 32, 114, 49, 44, 32, 108, 111, 111, 112, 59, 32, 104, 97, 108, 116, 59]
def exP : List Ins := [⟨1, 1, 0, 0, 5⟩, ⟨14, 1, 1, 0, -1⟩, ⟨20, 1, 0, 0, 1⟩, ⟨0, 0, 0, 0, 0⟩]
set_option maxRecDepth 100000 in
theorem exT_asm : asm exT = (exP, (0, 0), 0) := by kernel_rfl
theorem exP_ok : progErr exP = 0 := by kernel_rfl
theorem exP_fits : ∀ x ∈ exP, x.fits := by
  intro x hx
  simp only [exP, List.mem_cons, List.not_mem_nil, or_false] at hx
  rcases hx with rfl | rfl | rfl | rfl <;> (unfold Ins.fits; decide)
theorem Instrs.ofT {M : List Nat} {W w : World} {f : Ents → Ents} {ol : Ents} {v : Value} {p : List Ins} (OW : OwnT 35 5 v (p.map fun x => x.cells.toList) ol) (KN : Kn M W w (f ol)) (hf : TailF f) (h : ∀ x ∈ p, x.fits) : Instrs w v p := ⟨OW.row KN hf, h⟩
theorem insLen (p : List Ins) : ∀ c ∈ p.map (fun x => x.cells.toList), c.length = 5 := by intro c hc; obtain ⟨x, _, rfl⟩ := List.mem_map.1 hc; rfl
theorem Assemble_ex (w : World) : Calls Tryd.prog 8 #[.string (str exT)] w fun e w' => ∃ g cap, e = .returned (.tuple #[.slice (some ⟨g, 0, none⟩) 4 cap, .agg #[.int .i64 0, .int .i64 0], .int .i64 0]) ∧ 4 ≤ cap ∧ cap ≤ maxLen ∧ Kn [] w w' [(g, CapAt 35 5 cap (exP.map fun x => x.cells.toList))] := by
  refine (Assemble_any (str exT) w (by decide)).mono ?_
  unfold AsmOut
  rw [data_str, exT_asm]
  rintro e w' ⟨v, ol, rfl, HV, KN⟩
  obtain ⟨g, cap, hv, hc1, hc2, hol⟩ := HV.pos (by decide)
  subst hv
  subst hol
  exact ⟨g, cap, rfl, hc1, hc2, KN⟩
theorem ex_instrs {M : List Nat} {W w : World} {l : Ents} (KN : Kn M W w l) {g cap : Nat} (m : Has l g (CapAt 35 5 cap (exP.map fun x => x.cells.toList))) (h1 : 4 ≤ cap) (h2 : cap ≤ maxLen) : Instrs w (.slice (some ⟨g, 0, none⟩) 4 cap) exP := by
  have := OwnT.blk (e := 35) (sz := 5) (g := g) (cap := cap) (L := exP.map fun x => x.cells.toList) h1 h2 (insLen _)
  exact Instrs.ofT (f := fun o => o) this (KN.onlyK m) .id exP_fits
set_option maxRecDepth 100000 in
set_option maxHeartbeats 4000000 in
theorem awake_any (w : World) : Calls Tryd.prog 7 #[] w fun e w' => e = .returned (.bool true) ∧ Below w.heap.size w w' := by
  have KN := Kn.start w
  go_enter Tryd.func7, Tryd.ntmps7
  go_upto_region 3 with (first | (go_at_call 8; refine (Assemble_ex _).mono ?_; rintro e wx ⟨g, cap, rfl, hc1, hc2, K2⟩; replace KN := KN.call0 K2; clear K2; simp only [List.append_nil] at KN) | (go_at_call 13; refine (Encode_any _ exP _ (ex_instrs KN (by repeat (first | exact Has.here | refine Has.there ?_)) hc1 hc2)).mono ?_; rintro e wx ⟨v, ol, rfl, HV, K2⟩; obtain ⟨bo, bc, hbv⟩ := HV.form; rw [show (u8C (encR exP)).length = 32 from by kernel_rfl] at hbv; subst hbv; rw [exP_ok]; replace KN := (KN.call0 K2).sub (List.sublist_append_right _ _); clear K2) | ((with_reducible refine wpList_gate ?_); first | ((refine gate_load (by rfl) ?_); first | (refine ks_load1 KN 21 Tryd.underlying21 ?_)) | ((refine gate_store (by rfl) ?_); first | (refine ks_storeW KN 25 ?_; clear KN; intro wx KN) | (refine ks_storeA KN 25 ?_; clear KN; intro wx KN)) | ((refine gate_new (by rfl) ?_); first | (refine ks_alloc KN 25 (q := 2) #[.int .i64 0, .int .i64 0] ?_; clear KN; intro g2 wx hg2 KN))))
  have c2 : wx.cell? ⟨g, 14, none⟩ = some (.int .i32 1) := KN.elem (g := g) (e := 35) (sz := 5) (cap := cap) (L := exP.map fun x => x.cells.toList) (i := 2) (j := 4) (by repeat (first | exact Has.here | refine Has.there ?_)) (insLen exP) rfl rfl
  go_wp2_with (first | (go_at_call 14; refine (Validate_any _ exP _ (ex_instrs KN (by repeat (first | exact Has.here | refine Has.there ?_)) hc1 hc2)).mono ?_; rintro e wx ⟨rfl, hb⟩; rw [exP_ok]; replace KN := KN.below hb) | ((with_reducible refine wpList_gate ?_); first | ((refine gate_load (by rfl) ?_); first | (refine ks_load1 KN 21 Tryd.underlying21 ?_)) | ((refine gate_store (by rfl) ?_); first | (refine ks_storeW KN 25 ?_; clear KN; intro wx KN) | (refine ks_storeA KN 25 ?_; clear KN; intro wx KN)) | ((refine gate_new (by rfl) ?_); first | (refine ks_alloc KN 25 (q := 2) #[.int .i64 0, .int .i64 0] ?_; clear KN; intro g2 wx hg2 KN))))
  go_ret
  exact ⟨rfl, KN.toBelow⟩
end Go.Proofs.YtemigcdieghkfaaDoor
