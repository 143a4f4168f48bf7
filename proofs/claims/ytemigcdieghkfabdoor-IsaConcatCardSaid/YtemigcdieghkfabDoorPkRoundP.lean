/- Encoding and decoding, disassembling and assembling are each other's inverses. Plain. -/
import Derived.Test.YtemigcdieghkfabDoorPkDisG
import Derived.Test.YtemigcdieghkfabDoorPkDec
import Derived.Test.YtemigcdieghkfabDoorPkRoundG
set_option linter.unusedVariables false
set_option linter.unusedSimpArgs false
set_option linter.unusedSectionVars false
namespace Go.Proofs.YtemigcdieghkfabDoor
open Go

theorem InsZ.of {x : Ins} {n : Int} (h : insErr x n = 0) : InsZ x := by
  unfold insErr at h
  by_cases h1 : x.op < 0 ∨ 27 < x.op
  · rw [if_pos h1] at h; omega
  rw [if_neg h1] at h
  by_cases h2 : (regOk x.a (uses x.op 97) && regOk x.b (uses x.op 98) && regOk x.c (uses x.op 99) && (x.imm == 0 || uses x.op 105 || uses x.op 116)) = false
  · rw [if_pos h2] at h; omega
  simp only [Bool.not_eq_false, Bool.and_eq_true] at h2
  obtain ⟨⟨⟨ha, hb⟩, hc⟩, hi⟩ := h2
  have rg : ∀ v, regOk v false = true → v = 0 := by
    intro v hv
    simpa [regOk] using hv
  refine ⟨fun hu => rg _ (by rw [← hu]; exact ha), fun hu => rg _ (by rw [← hu]; exact hb), fun hu => rg _ (by rw [← hu]; exact hc), fun hu hv => ?_⟩
  rw [hu, hv] at hi
  simpa using hi
theorem tgt_of {x : Ins} {n : Int} (h : insErr x n = 0) (hu : uses x.op 116 = true) : x.imm < n := by
  unfold insErr at h
  by_cases h1 : x.op < 0 ∨ 27 < x.op
  · rw [if_pos h1] at h; omega
  rw [if_neg h1] at h
  by_cases h2 : (regOk x.a (uses x.op 97) && regOk x.b (uses x.op 98) && regOk x.c (uses x.op 99) && (x.imm == 0 || uses x.op 105 || uses x.op 116)) = false
  · rw [if_pos h2] at h; omega
  rw [if_neg h2] at h
  by_cases h3 : uses x.op 116 = true ∧ (x.imm < 0 ∨ n ≤ x.imm)
  · rw [if_pos h3] at h; omega
  · have : ¬ (x.imm < 0 ∨ n ≤ x.imm) := fun q => h3 ⟨hu, q⟩
    omega
theorem linesT_len (p : List Ins) : ∀ (r : List Ins) (i : Nat), (∀ x ∈ r, InsOk x) → i + r.length ≤ 4096 → (linesT p i r).length ≤ 103 * r.length
  | [], _, _, _ => Nat.zero_le _
  | x :: r, i, h, hi => by
    have h1 := linesT_len p r (i + 1) (fun y hy => h y (by simp [hy])) (by simp only [List.length_cons] at hi; omega)
    have h2 := insText_len x (h x (by simp))
    have h3 := labText_len p i (by simp only [List.length_cons] at hi; omega)
    show (labText p i ++ (insText x ++ linesT p (i + 1) r)).length ≤ _
    simp only [List.length_append, List.length_cons]
    omega
def ins0 (x : Ins) : List UInt8 := mnemOf x.op ++ (opsText x true (operandsOf x.op) ++ [59])
theorem ins0_text (x : Ins) : insText x = ins0 x ++ [10] := by unfold insText ins0; simp
theorem ins_seg0 (x : Ins) (h : InsOk x) : SegB (fun g => !two [59, g]) (ins0 x) (insToks x) := by
  obtain ⟨c, q, hm, hc, hq⟩ := mnem_word x.op h.op.1 h.op.2
  have h1 : SegB noAl (mnemOf x.op) [wordR (mnemOf x.op)] := by rw [hm]; exact SegB.word hc hq
  have hu : ∀ c ∈ operandsOf x.op, c = 116 → 0 ≤ x.imm := by
    intro c hc e
    subst e
    exact h.tgt (List.contains_iff_mem.2 hc)
  obtain ⟨h2, h3⟩ := ops_seg x h (operandsOf x.op) true hu
  have h5 := h2.append' semi_seg ⟨59, [], rfl, by decide⟩
  have h6 := h1.append' h5 (by
    obtain ⟨d, q, e, hd⟩ := h3 59 (by decide)
    exact ⟨d, q, e, hd⟩)
  simpa [ins0, insToks] using h6
theorem linesK_snoc (p : List Ins) : ∀ (r : List Ins) (i : Nat) (x : Ins), linesK p i (r ++ [x]) = linesK p i r ++ (labToks p (i + r.length) ++ insToks x)
  | [], i, x => by
    show labToks p i ++ (insToks x ++ []) = [] ++ (labToks p (i + 0) ++ insToks x)
    simp
  | y :: r, i, x => by
    show labToks p i ++ (insToks y ++ linesK p (i + 1) (r ++ [x])) = labToks p i ++ (insToks y ++ linesK p (i + 1) r) ++ _
    rw [linesK_snoc p r (i + 1) x, show i + 1 + r.length = i + (y :: r).length by rw [List.length_cons]; omega]
    simp
theorem lines_seg0 (p r : List Ins) (i : Nat) (x : Ins) (h : ∀ y ∈ r, InsOk y) (hx : InsOk x) : SegB (fun g => !two [59, g]) (linesT p i r ++ (labText p (i + r.length) ++ ins0 x)) (linesK p i (r ++ [x])) := by
  rw [linesK_snoc]
  obtain ⟨c, q, hm, _⟩ := mnem_word x.op hx.op.1 hx.op.2
  have h1 := (lab_seg p (i + r.length)).append' (ins_seg0 x hx) ⟨c, q ++ (opsText x true (operandsOf x.op) ++ [59]), by rw [ins0, hm]; rfl, rfl⟩
  refine (lines_seg p r i h).append' h1 ?_
  cases hl : labText p (i + r.length) ++ ins0 x with
  | nil =>
    exfalso
    rw [ins0, hm] at hl
    simp at hl
  | cons d l => exact ⟨d, l, rfl, rfl⟩
theorem scan_lines {p : List Ins} (h : ∀ x ∈ p, InsOk x) (h1 : 1 ≤ p.length) (h2 : p.length ≤ 600) : ∃ d : List Tok, scanRes (linesT p 0 p) = (d, 0, 0, 0) ∧ d.map (·.raw) = linesK p 0 p := by
  obtain ⟨r, x, hp⟩ : ∃ r x, p = r ++ [x] := ⟨_, _, (List.dropLast_concat_getLast (by intro q; subst q; simp at h1)).symm⟩
  have hl := linesT_len p p 0 h (by omega)
  have ht : linesT p 0 p = (linesT p 0 r ++ (labText p (0 + r.length) ++ ins0 x)) ++ [10] := by
    have : linesT p 0 (r ++ [x]) = linesT p 0 r ++ (labText p (0 + r.length) ++ insText x) := linesT_snoc p r 0 x
    rw [ins0_text] at this
    rw [hp] at this ⊢
    rw [this]
    simp
  have hk : linesK p 0 p = linesK p 0 (r ++ [x]) := by rw [← hp]
  have hs := lines_seg0 p r 0 x (fun y hy => h y (by rw [hp]; simp [hy])) (h x (by rw [hp]; simp))
  rw [ht, hk]
  exact hs.scan (by decide) (by decide) (by rw [← ht]; omega)
end Go.Proofs.YtemigcdieghkfabDoor
