/- Encoding and decoding, disassembling and assembling are each other's inverses. Plain. -/
import Derived.Test.YtemigcdieghkfabDoorPkDisG
import Derived.Test.YtemigcdieghkfabDoorPkDec
import Derived.Test.YtemigcdieghkfabDoorPkRoundG
set_option linter.unusedVariables false
set_option linter.unusedSimpArgs false
set_option linter.unusedSectionVars false
namespace Go.Proofs.YtemigcdieghkfabDoor
open Go

theorem encI_len (x : Ins) : (encI x).length = 8 := rfl
theorem encP_get : ∀ (p : List Ins) (k : Nat) (x : Ins), p[k]? = some x → ∀ j, j < 8 → (encP p).getD (8 * k + j) 0 = (encI x).getD j 0
  | [], k, x, h, j, hj => by simp at h
  | y :: p, 0, x, h, j, hj => by
    simp at h
    subst h
    show (encI y ++ encP p).getD (8 * 0 + j) 0 = _
    rw [Nat.mul_zero, Nat.zero_add, List.getD_eq_getElem?_getD, List.getElem?_append_left (by rw [encI_len]; exact hj), ← List.getD_eq_getElem?_getD]
  | y :: p, k + 1, x, h, j, hj => by
    have ih := encP_get p k x (by simpa using h) j hj
    show (encI y ++ encP p).getD (8 * (k + 1) + j) 0 = _
    rw [List.getD_eq_getElem?_getD, List.getElem?_append_right (by rw [encI_len]; omega), encI_len, show 8 * (k + 1) + j - 8 = 8 * k + j by omega, ← List.getD_eq_getElem?_getD]
    exact ih
theorem decAt_enc {p : List Ins} {k : Nat} {x : Ins} (h : p[k]? = some x) (ho : InsOk x) : decAt (encP p) (8 * k) = x := by
  have g := encP_get p k x h
  obtain ⟨o0, o1⟩ := ho.op
  obtain ⟨a0, a1⟩ := ho.a
  obtain ⟨b0, b1⟩ := ho.b
  obtain ⟨c0, c1⟩ := ho.c
  obtain ⟨i0, i1⟩ := ho.imm
  unfold decAt
  rw [show 8 * k = 8 * k + 0 from rfl, g 0 (by omega), g 1 (by omega), g 2 (by omega), g 3 (by omega), g 4 (by omega), g 5 (by omega), g 6 (by omega), g 7 (by omega)]
  obtain ⟨op, a, b, c, imm⟩ := x
  show (⟨op % 256, a % 256, b % 256, c % 256, sg32 (leW (imm % 4294967296 % 256) (imm % 4294967296 / 256 % 256) (imm % 4294967296 / 65536 % 256) (imm % 4294967296 / 16777216 % 256))⟩ : Ins) = ⟨op, a, b, c, imm⟩
  dsimp only at o0 o1 a0 a1 b0 b1 c0 c1 i0 i1
  have e : sg32 (leW (imm % 4294967296 % 256) (imm % 4294967296 / 256 % 256) (imm % 4294967296 / 65536 % 256) (imm % 4294967296 / 16777216 % 256)) = imm := by
    unfold sg32 leW; omega
  rw [e, show op % 256 = op by omega, show a % 256 = a by omega, show b % 256 = b by omega, show c % 256 = c by omega]
theorem decL_enc {p : List Ins} (h : ∀ x ∈ p, InsOk x) : decL (encP p) p.length = p := by
  apply List.ext_getElem?
  intro k
  unfold decL
  rw [List.getElem?_map]
  rcases Nat.lt_or_ge k p.length with hk | hk
  · obtain ⟨x, hx⟩ : ∃ x, p[k]? = some x := ⟨_, List.getElem?_eq_getElem hk⟩
    rw [List.getElem?_range hk, hx]
    show some (decAt (encP p) (8 * k)) = some x
    rw [decAt_enc hx (h x (List.mem_of_getElem? hx))]
  · rw [List.getElem?_eq_none (by simpa using hk), List.getElem?_eq_none hk]; rfl
theorem dec_enc {p : List Ins} (he : progErr p = 0) (h : ∀ x ∈ p, InsOk x) : decR (encP p) = (p, 0) := by
  unfold decR
  rw [encP_len, if_neg (by omega), show 8 * p.length / 8 = p.length by omega, decL_enc h, if_pos he]
theorem encI_dec {zs : List Int} (h : BytesOk zs) (o : Nat) : encI (decAt zs o) = [zs.getD o 0, zs.getD (o + 1) 0, zs.getD (o + 2) 0, zs.getD (o + 3) 0, zs.getD (o + 4) 0, zs.getD (o + 5) 0, zs.getD (o + 6) 0, zs.getD (o + 7) 0] := by
  have b0 := h.getD o
  have b1 := h.getD (o + 1)
  have b2 := h.getD (o + 2)
  have b3 := h.getD (o + 3)
  have b4 := h.getD (o + 4)
  have b5 := h.getD (o + 5)
  have b6 := h.getD (o + 6)
  have b7 := h.getD (o + 7)
  unfold encI decAt fixL
  dsimp only
  generalize zs.getD o 0 = z0 at *
  generalize zs.getD (o + 1) 0 = z1 at *
  generalize zs.getD (o + 2) 0 = z2 at *
  generalize zs.getD (o + 3) 0 = z3 at *
  generalize zs.getD (o + 4) 0 = z4 at *
  generalize zs.getD (o + 5) 0 = z5 at *
  generalize zs.getD (o + 6) 0 = z6 at *
  generalize zs.getD (o + 7) 0 = z7 at *
  have e : sg32 (leW z4 z5 z6 z7) % 4294967296 = leW z4 z5 z6 z7 := by unfold sg32 leW; omega
  rw [e, show leW z4 z5 z6 z7 % 256 = z4 by unfold leW; omega, show leW z4 z5 z6 z7 / 256 % 256 = z5 by unfold leW; omega, show leW z4 z5 z6 z7 / 65536 % 256 = z6 by unfold leW; omega, show leW z4 z5 z6 z7 / 16777216 % 256 = z7 by unfold leW; omega,
    show z0 % 256 = z0 by omega, show z1 % 256 = z1 by omega, show z2 % 256 = z2 by omega, show z3 % 256 = z3 by omega]
  rfl
theorem take8 (zs : List Int) (o : Nat) (h : o + 8 ≤ zs.length) : zs.take (o + 8) = zs.take o ++ [zs.getD o 0, zs.getD (o + 1) 0, zs.getD (o + 2) 0, zs.getD (o + 3) 0, zs.getD (o + 4) 0, zs.getD (o + 5) 0, zs.getD (o + 6) 0, zs.getD (o + 7) 0] := by
  have s : ∀ k, k < zs.length → zs.take (k + 1) = zs.take k ++ [zs.getD k 0] := fun k hk => by
    rw [List.take_add_one, getD_get hk]; rfl
  rw [s (o + 7) (by omega), s (o + 6) (by omega), s (o + 5) (by omega), s (o + 4) (by omega), s (o + 3) (by omega), s (o + 2) (by omega), s (o + 1) (by omega), s o (by omega)]
  simp
theorem encP_decL {zs : List Int} (h : BytesOk zs) : ∀ k, 8 * k ≤ zs.length → encP (decL zs k) = zs.take (8 * k)
  | 0, _ => rfl
  | k + 1, hk => by
    rw [decL_succ]
    show (decL zs k ++ [decAt zs (8 * k)]).flatMap encI = _
    rw [List.flatMap_append, show (decL zs k).flatMap encI = encP (decL zs k) from rfl, encP_decL h k (by omega), show 8 * (k + 1) = 8 * k + 8 by omega, take8 zs (8 * k) (by omega), ← encI_dec h]
    simp
theorem enc_dec {zs : List Int} (h : BytesOk zs) {s : List Ins} (hd : decR zs = (s, 0)) : encR s = zs ∧ progErr s = 0 := by
  unfold decR at hd
  split at hd
  · have e : (52 : Int) = 0 := congrArg Prod.snd hd
    exact absurd e (by decide)
  · rename_i h8
    split at hd
    · rename_i he
      have e : decL zs (zs.length / 8) = s := congrArg Prod.fst hd
      rw [e] at he
      refine ⟨?_, he⟩
      unfold encR
      rw [if_pos he, ← e, encP_decL h _ (by omega), List.take_of_length_le (by omega)]
    · rename_i he
      exact absurd (congrArg Prod.snd hd) he
theorem InsZ.of {x : Ins} {n : Int} (h : insErr x n = 0) : InsZ x := by
  unfold insErr at h
  by_cases h1 : x.op < 0 ∨ 27 < x.op
  · rw [if_pos h1] at h; omega
  rw [if_neg h1] at h
  by_cases h2 : (regOk x.a (uses x.op 97) && regOk x.b (uses x.op 98) && regOk x.c (uses x.op 99) && (x.imm == 0 || uses x.op 105 || uses x.op 116)) = false
  · rw [if_pos h2] at h; omega
  simp only [Bool.not_eq_false, Bool.and_eq_true] at h2
  obtain ⟨⟨⟨ha, hb⟩, hc⟩, hi⟩ := h2
  have rg : ∀ v, regOk v false = true → v = 0 := by
    intro v hv
    simpa [regOk] using hv
  refine ⟨fun hu => rg _ (by rw [← hu]; exact ha), fun hu => rg _ (by rw [← hu]; exact hb), fun hu => rg _ (by rw [← hu]; exact hc), fun hu hv => ?_⟩
  rw [hu, hv] at hi
  simpa using hi
theorem tgt_of {x : Ins} {n : Int} (h : insErr x n = 0) (hu : uses x.op 116 = true) : x.imm < n := by
  unfold insErr at h
  by_cases h1 : x.op < 0 ∨ 27 < x.op
  · rw [if_pos h1] at h; omega
  rw [if_neg h1] at h
  by_cases h2 : (regOk x.a (uses x.op 97) && regOk x.b (uses x.op 98) && regOk x.c (uses x.op 99) && (x.imm == 0 || uses x.op 105 || uses x.op 116)) = false
  · rw [if_pos h2] at h; omega
  rw [if_neg h2] at h
  by_cases h3 : uses x.op 116 = true ∧ (x.imm < 0 ∨ n ≤ x.imm)
  · rw [if_pos h3] at h; omega
  · have : ¬ (x.imm < 0 ∨ n ≤ x.imm) := fun q => h3 ⟨hu, q⟩
    omega
theorem linesT_len (p : List Ins) : ∀ (r : List Ins) (i : Nat), (∀ x ∈ r, InsOk x) → i + r.length ≤ 4096 → (linesT p i r).length ≤ 103 * r.length
  | [], _, _, _ => Nat.zero_le _
  | x :: r, i, h, hi => by
    have h1 := linesT_len p r (i + 1) (fun y hy => h y (by simp [hy])) (by simp only [List.length_cons] at hi; omega)
    have h2 := insText_len x (h x (by simp))
    have h3 := labText_len p i (by simp only [List.length_cons] at hi; omega)
    show (labText p i ++ (insText x ++ linesT p (i + 1) r)).length ≤ _
    simp only [List.length_append, List.length_cons]
    omega
def ins0 (x : Ins) : List UInt8 := mnemOf x.op ++ (opsText x true (operandsOf x.op) ++ [59])
theorem ins0_text (x : Ins) : insText x = ins0 x ++ [10] := by unfold insText ins0; simp
theorem ins_seg0 (x : Ins) (h : InsOk x) : SegB (fun g => !two [59, g]) (ins0 x) (insToks x) := by
  obtain ⟨c, q, hm, hc, hq⟩ := mnem_word x.op h.op.1 h.op.2
  have h1 : SegB noAl (mnemOf x.op) [wordR (mnemOf x.op)] := by rw [hm]; exact SegB.word hc hq
  have hu : ∀ c ∈ operandsOf x.op, c = 116 → 0 ≤ x.imm := by
    intro c hc e
    subst e
    exact h.tgt (List.contains_iff_mem.2 hc)
  obtain ⟨h2, h3⟩ := ops_seg x h (operandsOf x.op) true hu
  have h5 := h2.append' semi_seg ⟨59, [], rfl, by decide⟩
  have h6 := h1.append' h5 (by
    obtain ⟨d, q, e, hd⟩ := h3 59 (by decide)
    exact ⟨d, q, e, hd⟩)
  simpa [ins0, insToks] using h6
theorem linesK_snoc (p : List Ins) : ∀ (r : List Ins) (i : Nat) (x : Ins), linesK p i (r ++ [x]) = linesK p i r ++ (labToks p (i + r.length) ++ insToks x)
  | [], i, x => by
    show labToks p i ++ (insToks x ++ []) = [] ++ (labToks p (i + 0) ++ insToks x)
    simp
  | y :: r, i, x => by
    show labToks p i ++ (insToks y ++ linesK p (i + 1) (r ++ [x])) = labToks p i ++ (insToks y ++ linesK p (i + 1) r) ++ _
    rw [linesK_snoc p r (i + 1) x, show i + 1 + r.length = i + (y :: r).length by rw [List.length_cons]; omega]
    simp
theorem lines_seg0 (p r : List Ins) (i : Nat) (x : Ins) (h : ∀ y ∈ r, InsOk y) (hx : InsOk x) : SegB (fun g => !two [59, g]) (linesT p i r ++ (labText p (i + r.length) ++ ins0 x)) (linesK p i (r ++ [x])) := by
  rw [linesK_snoc]
  obtain ⟨c, q, hm, _⟩ := mnem_word x.op hx.op.1 hx.op.2
  have h1 := (lab_seg p (i + r.length)).append' (ins_seg0 x hx) ⟨c, q ++ (opsText x true (operandsOf x.op) ++ [59]), by rw [ins0, hm]; rfl, rfl⟩
  refine (lines_seg p r i h).append' h1 ?_
  cases hl : labText p (i + r.length) ++ ins0 x with
  | nil =>
    exfalso
    rw [ins0, hm] at hl
    simp at hl
  | cons d l => exact ⟨d, l, rfl, rfl⟩
theorem scan_lines {p : List Ins} (h : ∀ x ∈ p, InsOk x) (h1 : 1 ≤ p.length) (h2 : p.length ≤ 600) : ∃ d : List Tok, scanRes (linesT p 0 p) = (d, 0, 0, 0) ∧ d.map (·.raw) = linesK p 0 p := by
  obtain ⟨r, x, hp⟩ : ∃ r x, p = r ++ [x] := ⟨_, _, (List.dropLast_concat_getLast (by intro q; subst q; simp at h1)).symm⟩
  have hl := linesT_len p p 0 h (by omega)
  have ht : linesT p 0 p = (linesT p 0 r ++ (labText p (0 + r.length) ++ ins0 x)) ++ [10] := by
    have : linesT p 0 (r ++ [x]) = linesT p 0 r ++ (labText p (0 + r.length) ++ insText x) := linesT_snoc p r 0 x
    rw [ins0_text] at this
    rw [hp] at this ⊢
    rw [this]
    simp
  have hk : linesK p 0 p = linesK p 0 (r ++ [x]) := by rw [← hp]
  have hs := lines_seg0 p r 0 x (fun y hy => h y (by rw [hp]; simp [hy])) (h x (by rw [hp]; simp))
  rw [ht, hk]
  exact hs.scan (by decide) (by decide) (by rw [← ht]; omega)
theorem asm_dis {p : List Ins} (he : progErr p = 0) (hi : ∀ x ∈ p, InsOk x) (h2 : p.length ≤ 600) : asm (disL p) = (p, (0, 0), 0) := by
  have hall := progErr_all he
  have hlen := progErr_len he
  obtain ⟨d, hd, hr⟩ := scan_lines hi hlen.1 h2
  obtain ⟨s, h3, h4, h5⟩ := asm_toks (d := d) ⟨hlen.1, hlen.2⟩ (fun x hx => ⟨hi x hx, InsZ.of (hall x hx)⟩) (fun x hx hu => tgt_of (hall x hx) hu) hr
  unfold disL
  rw [if_pos he]
  exact (((asm_cases (linesT p 0 p) d 0 0 hd _ _ rfl).2 s h3).2 h4).2 p h5
end Go.Proofs.YtemigcdieghkfabDoor
