/- The text of renamed tokens and what scanning it comes to. Plain. -/
import Derived.Test.YtemigcdieghkfabDoorPkRenPlain
set_option linter.unusedVariables false
set_option linter.unusedSimpArgs false
set_option linter.unusedSectionVars false
namespace Go.Proofs.YtemigcdieghkfabDoor
open Go

def RawOk (r : Raw) : Prop := (0 ≤ r.value ∧ r.value ≤ 18446744073709551615) ∧ (textOf r).2 = true ∧ r.text.length ≤ 200
theorem rawOk_word {s : List UInt8} (h : wordB s = true) (hl : s.length ≤ 200) : RawOk (wordR s) := by
  refine ⟨⟨by show (0 : Int) ≤ 0; omega, by show (0 : Int) ≤ 18446744073709551615; omega⟩, ?_, hl⟩
  simp [textOf, wordR, h]
theorem rawOk_num {v : Int} (h0 : 0 ≤ v) (h1 : v ≤ 18446744073709551615) : RawOk (numR v) := by
  refine ⟨⟨h0, h1⟩, ?_, by simp [numR]⟩
  simp [textOf, numR]
theorem rawOk_pun (c : UInt8) (h : c = 44 ∨ c = 45 ∨ c = 58 ∨ c = 59) : RawOk (punR c) := by
  rcases h with rfl | rfl | rfl | rfl <;> exact ⟨by decide, by decide, by decide⟩
theorem wordB_reg (n : Nat) : wordB (114 :: numL 10 n) = true := by
  simp only [wordB, Bool.and_eq_true, List.all_eq_true]
  exact ⟨by decide, numL_alnum n⟩
theorem wordB_lab (n : Nat) : wordB (labName n) = true := by
  show wordB (76 :: numL 10 n) = true
  simp only [wordB, Bool.and_eq_true, List.all_eq_true]
  exact ⟨by decide, numL_alnum n⟩
theorem wordB_alnum : ∀ {s : List UInt8}, wordB s = true → ∀ c ∈ s, alnumB c.toNat = true
  | [], h, _, _ => by cases h
  | a :: s, h, c, hc => by
    simp only [wordB, Bool.and_eq_true, List.all_eq_true] at h
    rcases List.mem_cons.1 hc with rfl | hc
    · simp [alnumB, h.1]
    · exact h.2 c hc
theorem wordB_append {a b : List UInt8} (ha : wordB a = true) (hb : wordB b = true) : wordB (a ++ b) = true := by
  cases a with
  | nil => cases ha
  | cons c a =>
    have hb' := wordB_alnum hb
    simp only [List.cons_append, wordB, Bool.and_eq_true, List.all_eq_true] at ha ⊢
    refine ⟨ha.1, fun x hx => ?_⟩
    rcases List.mem_append.1 hx with h | h
    · exact ha.2 x h
    · exact hb' x h
theorem labName_len {n : Nat} (h : (n : Int) ≤ 18446744073709551615) : (labName n).length ≤ 21 := by
  have := numL_len10 h
  show (76 :: numL 10 n).length ≤ 21
  rw [List.length_cons]; omega
theorem mnem_ok : ∀ n, n < 28 → wordB (mnemL.getD n []) = true ∧ (mnemL.getD n []).length ≤ 200 := by decide
theorem opsOf_len : ∀ l ∈ operandsL, l.length ≤ 3 := by decide
theorem opToksG_ok {u : List UInt8} {c : UInt8} {x : Ins} (h : InsOk x) (hc : c = 97 ∨ c = 98 ∨ c = 99 ∨ c = 105 ∨ c = 116) (hu : c = 116 → wordB u = true ∧ u.length ≤ 200) : (∀ r ∈ opToksG u c x, RawOk r) ∧ (opToksG u c x).length ≤ 2 := by
  have reg : ∀ v : Int, 0 ≤ v ∧ v < 16 → RawOk (wordR (114 :: numL 10 v.toNat)) := fun v hv => rawOk_word (wordB_reg _) (by
    have := numL_len10 (n := v.toNat) (by omega)
    rw [List.length_cons]; omega)
  have one : ∀ (r : Raw), RawOk r → (∀ q ∈ [r], RawOk q) ∧ [r].length ≤ 2 := fun r hr => ⟨fun q hq => by rw [List.mem_singleton.1 hq]; exact hr, by simp⟩
  rcases hc with rfl | rfl | rfl | rfl | rfl
  · exact one _ (reg _ h.a)
  · exact one _ (reg _ h.b)
  · exact one _ (reg _ h.c)
  · have hi := h.imm
    show (∀ r ∈ immToks x.imm, RawOk r) ∧ (immToks x.imm).length ≤ 2
    unfold immToks
    split
    · refine ⟨fun r hr => ?_, by simp⟩
      simp only [List.mem_cons, List.not_mem_nil, or_false] at hr
      rcases hr with rfl | rfl
      · exact rawOk_pun 45 (by simp)
      · exact rawOk_num (by omega) (by omega)
    · exact one _ (rawOk_num (by omega) (by omega))
  · exact one _ (rawOk_word (hu rfl).1 (hu rfl).2)
theorem opsToksG_ok {u : List UInt8} {x : Ins} (h : InsOk x) : ∀ (l : List UInt8) (f : Bool), (∀ c ∈ l, c = 97 ∨ c = 98 ∨ c = 99 ∨ c = 105 ∨ c = 116) → (116 ∈ l → wordB u = true ∧ u.length ≤ 200) → (∀ r ∈ opsToksG u x f l, RawOk r) ∧ (opsToksG u x f l).length ≤ 3 * l.length
  | [], f, _, _ => by cases f <;> exact ⟨by simp [opsToksG], by simp [opsToksG]⟩
  | c :: l, f, hc, hu => by
    obtain ⟨h1, h2⟩ := opToksG_ok (u := u) h (hc c (by simp)) (fun e => hu (by simp [e]))
    obtain ⟨h3, h4⟩ := opsToksG_ok (u := u) h l false (fun d hd => hc d (by simp [hd])) (fun hm => hu (by simp [hm]))
    have key : ∀ r ∈ opToksG u c x ++ opsToksG u x false l, RawOk r := fun r hr => by
      rcases List.mem_append.1 hr with hr | hr
      · exact h1 r hr
      · exact h3 r hr
    cases f with
    | true =>
      refine ⟨key, ?_⟩
      show (opToksG u c x ++ opsToksG u x false l).length ≤ _
      rw [List.length_append, List.length_cons]; omega
    | false =>
      refine ⟨fun r hr => ?_, ?_⟩
      · rcases List.mem_cons.1 hr with rfl | hr
        · exact rawOk_pun 44 (by simp)
        · exact key r hr
      · show (punR 44 :: (opToksG u c x ++ opsToksG u x false l)).length ≤ _
        rw [List.length_cons, List.length_append, List.length_cons]; omega
structure NameW (L : LLine) : Prop where
  ok : InsOk L.x
  u : uses L.x.op 116 = true → wordB L.u = true ∧ L.u.length ≤ 200
  lab : ∀ s, L.lab = some s → wordB s = true ∧ s.length ≤ 200
theorem linesG_ok : ∀ (r : List LLine), (∀ L ∈ r, NameW L) → (∀ t ∈ linesG r, RawOk t) ∧ (linesG r).length ≤ 13 * r.length
  | [], _ => ⟨by simp [linesG], by simp [linesG]⟩
  | L :: r, h => by
    obtain ⟨h1, h2⟩ := linesG_ok r (fun M hM => h M (by simp [hM]))
    have hL := h L (by simp)
    obtain ⟨hl, _⟩ := opsL _ (opsOf_mem L.x.op hL.ok.op.1 hL.ok.op.2)
    obtain ⟨h3, h4⟩ := opsToksG_ok (u := L.u) hL.ok (operandsOf L.x.op) true hl (fun hm => hL.u (List.contains_iff_mem.2 hm))
    have hm := mnem_ok L.x.op.toNat (by have := hL.ok.op; omega)
    have h5 := opsOf_len _ (opsOf_mem L.x.op hL.ok.op.1 hL.ok.op.2)
    have hlab : (∀ t ∈ labToksG L.lab, RawOk t) ∧ (labToksG L.lab).length ≤ 2 := by
      cases hq : L.lab with
      | none => exact ⟨by simp [labToksG], by simp [labToksG]⟩
      | some s =>
        refine ⟨fun t ht => ?_, by simp [labToksG]⟩
        simp only [labToksG, List.mem_cons, List.not_mem_nil, or_false] at ht
        rcases ht with rfl | rfl
        · exact rawOk_word (hL.lab s hq).1 (hL.lab s hq).2
        · exact rawOk_pun 58 (by simp)
    refine ⟨fun t ht => ?_, ?_⟩
    · simp only [linesG, insToksG, List.mem_append, List.mem_cons, List.not_mem_nil, or_false] at ht
      rcases ht with ht | ((rfl | ht | rfl) | ht)
      · exact hlab.1 t ht
      · exact rawOk_word hm.1 hm.2
      · exact h3 t ht
      · exact rawOk_pun 59 (by simp)
      · exact h1 t ht
    · simp only [linesG, insToksG, List.length_append, List.length_cons, List.length_nil]
      omega
def WordN (f : List UInt8 → List UInt8) : Prop := ∀ k, k ≤ 5000 → wordB (f (labName k)) = true ∧ (f (labName k)).length ≤ 200
theorem targeted_le {p : List Ins} (hi : ∀ x ∈ p, uses x.op 116 = true → x.imm < 4096) {i : Nat} (h : targeted p i = true) : i ≤ 5000 := by
  unfold targeted at h
  obtain ⟨x, hx, h2⟩ := List.any_eq_true.1 h
  simp only [Bool.and_eq_true, decide_eq_true_eq] at h2
  have := hi x hx h2.1
  omega
theorem llines_word {fd fu : List UInt8 → List UInt8} (hd : WordN fd) (hu : WordN fu) {p r : List Ins} {i : Nat} (h : ∀ x ∈ r, InsOk x) (ht : ∀ x ∈ r, uses x.op 116 = true → x.imm < 4096) (htp : ∀ x ∈ p, uses x.op 116 = true → x.imm < 4096) : ∀ L ∈ llines fd fu p i r, NameW L := by
  intro L hL
  obtain ⟨x, k, hx, rfl⟩ := mem_llines hL
  refine ⟨h x hx, fun hux => hu _ ?_, fun s hs => ?_⟩
  · have := ht x hx hux
    show x.imm.toNat ≤ 5000
    omega
  · simp only [labO] at hs
    split at hs
    · rename_i hk
      cases hs
      exact hd k (targeted_le htp hk)
    · cases hs
/-- What scanning a text comes to behind which such tokens' text stands. -/
theorem scan_cat {t : List UInt8} {ts rs : List Raw} (ht : SegB (fun _ => true) t ts) (hr : ∀ r ∈ rs, RawOk r) (hl : (t ++ joinK rs rs.length).length ≤ 65536) : ∃ d : List Tok, scanRes (t ++ joinK rs rs.length) = (d, 0, 0, 0) ∧ d.map (·.raw) = ts ++ rs := by
  have hs := joinK_seg rs (fun r h => ⟨(hr r h).1, (hr r h).2.1⟩) rs.length (Nat.le_refl _) 10 (by decide)
  rw [List.take_of_length_le (Nat.le_refl _)] at hs
  have hne : ∃ c q, joinK rs rs.length ++ [10] = c :: q ∧ (fun _ : UInt8 => true) c = true := by
    cases hj : joinK rs rs.length with
    | nil => exact ⟨10, [], rfl, rfl⟩
    | cons c q => exact ⟨c, q ++ [10], rfl, rfl⟩
  obtain ⟨D, e1, h1⟩ := ht.append' (hs.toB (ok := fun _ => true)) hne
  have h2 := h1 10 [] rfl
  have e : t ++ (joinK rs rs.length ++ [10]) ++ 10 :: [] = (t ++ joinK rs rs.length) ++ 10 :: [10] := by simp
  have hk : scanK [10] = ([], none) := by rw [scanK_cons, if_pos (by decide), scanK_nil]; rfl
  rw [e, scanK_join, hk] at h2
  have h3 : scanK (t ++ joinK rs rs.length) = (D, none) := by
    cases hq : scanK (t ++ joinK rs rs.length) with
    | mk da x =>
      rw [hq] at h2
      cases x with
      | none => simpa [join, ResK.pre, ResK.shift] using h2
      | some v => simp [join, ResK.pre, ResK.shift] at h2
  refine ⟨(place (t ++ joinK rs rs.length) (1, 1) (D, none)).1, by rw [scanRes_place hl, h3], ?_⟩
  simp only [place, List.map_map, ← e1]
  apply List.map_congr_left; intro y _; rfl
theorem formatL_ok {rs : List Raw} (h : ∀ r ∈ rs, RawOk r) : formatL rs = joinK rs rs.length := by
  unfold formatL
  rw [if_pos]
  rw [List.all_eq_true]
  exact fun r hr => (h r hr).2.1
/-- The renamed tokens of a program of few instructions. -/
theorem ren_ok {fd fu : List UInt8 → List UInt8} (hd : WordN fd) (hu : WordN fu) {p : List Ins} (he : progErr p = 0) (hi : ∀ x ∈ p, InsOk x) : (∀ r ∈ renG fd fu (linesK p 0 p), RawOk r) ∧ (renG fd fu (linesK p 0 p)).length ≤ 13 * p.length := by
  rw [(renG_lines fd fu p p 0 hi).1]
  have hall := progErr_all he
  have hlen := progErr_len he
  have ht : ∀ x ∈ p, uses x.op 116 = true → x.imm < 4096 := fun x hx hux => by have := tgt_of (hall x hx) hux; omega
  have := linesG_ok (llines fd fu p 0 p) (llines_word hd hu hi ht ht)
  rw [llines_len] at this
  exact this
theorem scan_ren {fd fu : List UInt8 → List UInt8} (hd : WordN fd) (hu : WordN fu) {p : List Ins} (he : progErr p = 0) (hi : ∀ x ∈ p, InsOk x) (hn : p.length ≤ 12) : (formatL (renG fd fu (linesK p 0 p))).length ≤ 65536 ∧ ∃ d : List Tok, scanRes (formatL (renG fd fu (linesK p 0 p))) = (d, 0, 0, 0) ∧ d.map (·.raw) = renG fd fu (linesK p 0 p) := by
  obtain ⟨h1, h2⟩ := ren_ok hd hu he hi
  have h3 := joinK_len _ (fun r h => ⟨(h1 r h).1, (h1 r h).2.2⟩) (renG fd fu (linesK p 0 p)).length (Nat.le_refl _)
  rw [formatL_ok h1]
  refine ⟨by omega, ?_⟩
  have := scan_cat (t := []) (SegB.nil _) h1 (by rw [List.nil_append]; omega)
  simpa using this
theorem scan_two {f : List UInt8 → List UInt8} (hf : WordN f) {p q : List Ins} (hp : progErr p = 0) (hip : ∀ x ∈ p, InsOk x) (hq : progErr q = 0) (hiq : ∀ x ∈ q, InsOk x) (hn : p.length ≤ 12) (hm : q.length ≤ 12) :
    (disL p ++ formatL (renG f f (linesK q 0 q))).length ≤ 65536 ∧ ∃ d : List Tok, scanRes (disL p ++ formatL (renG f f (linesK q 0 q))) = (d, 0, 0, 0) ∧ d.map (·.raw) = linesK p 0 p ++ renG f f (linesK q 0 q) := by
  obtain ⟨h1, h2⟩ := ren_ok hf hf hq hiq
  have h3 := joinK_len _ (fun r h => ⟨(h1 r h).1, (h1 r h).2.2⟩) (renG f f (linesK q 0 q)).length (Nat.le_refl _)
  have h4 := linesT_len p p 0 hip (by omega)
  rw [formatL_ok h1]
  unfold disL
  rw [if_pos hp]
  have hl : (linesT p 0 p ++ joinK (renG f f (linesK q 0 q)) (renG f f (linesK q 0 q)).length).length ≤ 65536 := by
    rw [List.length_append]; omega
  exact ⟨hl, scan_cat (lines_seg p p 0 hip) h1 hl⟩
end Go.Proofs.YtemigcdieghkfabDoor
