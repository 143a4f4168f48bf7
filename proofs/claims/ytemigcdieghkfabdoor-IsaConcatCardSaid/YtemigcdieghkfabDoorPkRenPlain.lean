/- The tokens of a program's text with other label names. Plain. -/
import Derived.Test.YtemigcdieghkfabDoorPkLineG
import Derived.Test.YtemigcdieghkfabDoorPkRoundP
import Derived.Test.YtemigcdieghkfabDoorPkLexP
set_option linter.unusedVariables false
set_option linter.unusedSimpArgs false
set_option linter.unusedSectionVars false
namespace Go.Proofs.YtemigcdieghkfabDoor
open Go

def isLB (r : Raw) : Bool := decide (r.kind = 1) && decide (r.text.head? = some 76)
def colonB : List Raw → Bool
  | [] => false
  | r :: _ => decide (r.text = [58])
def renR (fd fu : List UInt8 → List UInt8) (r : Raw) (l : List Raw) : Raw := if isLB r = true then { r with text := if colonB l = true then fd r.text else fu r.text } else r
def renG (fd fu : List UInt8 → List UInt8) : List Raw → List Raw
  | [] => []
  | r :: l => renR fd fu r l :: renG fd fu l
/-- Whether a label is used. -/
def useL : List Raw → Bool
  | [] => false
  | r :: l => (isLB r && !colonB l) || useL l
theorem ren_no {fd fu : List UInt8 → List UInt8} {r : Raw} {l : List Raw} (h : isLB r = false) : renR fd fu r l = r := by unfold renR; rw [h]; rfl
theorem ren_pun (fd fu : List UInt8 → List UInt8) (c : UInt8) (l : List Raw) : renR fd fu (punR c) l = punR c := ren_no rfl
theorem ren_num (fd fu : List UInt8 → List UInt8) (v : Int) (l : List Raw) : renR fd fu (numR v) l = numR v := ren_no rfl
def tail44 : List Raw → Bool
  | [] => false
  | r :: _ => !decide (r.text = [58])
theorem tail44_colon {l : List Raw} (h : tail44 l = true) : colonB l = false := by
  cases l with
  | nil => rfl
  | cons r l => simpa [tail44, colonB] using h
theorem renG_op (fd fu : List UInt8 → List UInt8) {c : UInt8} {x : Ins} (hc : c = 97 ∨ c = 98 ∨ c = 99 ∨ c = 105 ∨ c = 116) (ht : c = 116 → 0 ≤ x.imm) (rest : List Raw) (hr : tail44 rest = true) :
    renG fd fu (opToks c x ++ rest) = opToksG (fu (labName x.imm.toNat)) c x ++ renG fd fu rest := by
  rcases hc with rfl | rfl | rfl | rfl | rfl
  · rfl
  · rfl
  · rfl
  · show renG fd fu (immToks x.imm ++ rest) = immToks x.imm ++ renG fd fu rest
    unfold immToks
    split
    · show renR fd fu (punR 45) _ :: renR fd fu (numR _) _ :: renG fd fu rest = _
      rw [ren_pun, ren_num]; rfl
    · show renR fd fu (numR _) _ :: renG fd fu rest = _
      rw [ren_num]; rfl
  · have h0 := ht rfl
    have e : immText x.imm = numL 10 x.imm.toNat := by unfold immText; rw [if_neg (by omega)]
    have e2 : opToks 116 x = [wordR (labName x.imm.toNat)] := by show [wordR (76 :: immText x.imm)] = _; rw [e]; rfl
    rw [e2]
    show renR fd fu (wordR (labName x.imm.toNat)) rest :: renG fd fu rest = wordR (fu (labName x.imm.toNat)) :: renG fd fu rest
    have : renR fd fu (wordR (labName x.imm.toNat)) rest = wordR (fu (labName x.imm.toNat)) := by
      unfold renR
      rw [if_pos (by rfl), if_neg (by rw [tail44_colon hr]; decide)]; rfl
    rw [this]
theorem useL_op {c : UInt8} {x : Ins} (hc : c = 97 ∨ c = 98 ∨ c = 99 ∨ c = 105 ∨ c = 116) (rest : List Raw) (hr : tail44 rest = true) : useL (opToks c x ++ rest) = (decide (c = 116) || useL rest) := by
  rcases hc with rfl | rfl | rfl | rfl | rfl
  · rfl
  · rfl
  · rfl
  · show useL (immToks x.imm ++ rest) = _
    unfold immToks
    split <;> rfl
  · show ((isLB (wordR (76 :: immText x.imm)) && !colonB rest) || useL rest) = _
    rw [tail44_colon hr]; rfl
theorem renG_ops (fd fu : List UInt8 → List UInt8) {x : Ins} (rest : List Raw) : ∀ (l : List UInt8) (f : Bool), (∀ c ∈ l, c = 97 ∨ c = 98 ∨ c = 99 ∨ c = 105 ∨ c = 116) → (116 ∈ l → 0 ≤ x.imm) →
    renG fd fu (opsToks x f l ++ punR 59 :: rest) = opsToksG (fu (labName x.imm.toNat)) x f l ++ punR 59 :: renG fd fu rest ∧ useL (opsToks x f l ++ punR 59 :: rest) = (l.contains 116 || useL rest) ∧ tail44 (opsToks x false l ++ punR 59 :: rest) = true
  | [], f, _, _ => by cases f <;> exact ⟨by show renR fd fu (punR 59) _ :: _ = _; rw [ren_pun]; rfl, rfl, rfl⟩
  | c :: l, f, hc, ht => by
    obtain ⟨h1, h2, h3⟩ := renG_ops fd fu rest l false (fun d hd => hc d (by simp [hd])) (fun h => ht (by simp [h]))
    have h4 := renG_op fd fu (hc c (by simp)) (fun e => ht (by simp [e])) _ h3
    have h5 := useL_op (x := x) (hc c (by simp)) _ h3
    rw [h1] at h4
    rw [h2] at h5
    have h6 : (c :: l).contains 116 = (decide (c = 116) || l.contains 116) := by
      rw [List.contains_cons]
      congr 1
      rw [Bool.eq_iff_iff]; simp; exact eq_comm
    rw [h6, Bool.or_assoc]
    cases f with
    | true =>
      refine ⟨?_, ?_, rfl⟩
      · show renG fd fu ((opToks c x ++ opsToks x false l) ++ punR 59 :: rest) = (opToksG _ c x ++ opsToksG _ x false l) ++ _
        rw [List.append_assoc, h4, List.append_assoc]
      · show useL ((opToks c x ++ opsToks x false l) ++ punR 59 :: rest) = _
        rw [List.append_assoc, h5]
    | false =>
      refine ⟨?_, ?_, rfl⟩
      · show renR fd fu (punR 44) _ :: renG fd fu ((opToks c x ++ opsToks x false l) ++ punR 59 :: rest) = punR 44 :: ((opToksG _ c x ++ opsToksG _ x false l) ++ _)
        rw [ren_pun, List.append_assoc, h4, List.append_assoc]
      · show ((isLB (punR 44) && _) || useL ((opToks c x ++ opsToks x false l) ++ punR 59 :: rest)) = _
        rw [List.append_assoc, h5]; rfl
theorem mnem_noL : ∀ n, n < 28 → isLB (wordR (mnemL.getD n [])) = false := by decide
theorem renG_ins (fd fu : List UInt8 → List UInt8) {x : Ins} (h : InsOk x) (rest : List Raw) :
    renG fd fu (insToks x ++ rest) = insToksG (fu (labName x.imm.toNat)) x ++ renG fd fu rest ∧ useL (insToks x ++ rest) = (uses x.op 116 || useL rest) := by
  obtain ⟨hl, _⟩ := opsL _ (opsOf_mem x.op h.op.1 h.op.2)
  have hm : isLB (wordR (mnemOf x.op)) = false := mnem_noL x.op.toNat (by have := h.op; omega)
  obtain ⟨h1, h2, _⟩ := renG_ops fd fu rest (operandsOf x.op) true hl (fun hm => h.tgt (List.contains_iff_mem.2 hm))
  constructor
  · show renR fd fu (wordR (mnemOf x.op)) _ :: renG fd fu ((opsToks x true (operandsOf x.op) ++ [punR 59]) ++ rest) = wordR (mnemOf x.op) :: ((opsToksG _ x true (operandsOf x.op) ++ [punR 59]) ++ renG fd fu rest)
    rw [ren_no hm, List.append_assoc, List.append_assoc]
    exact congrArg _ h1
  · show ((isLB (wordR (mnemOf x.op)) && _) || useL ((opsToks x true (operandsOf x.op) ++ [punR 59]) ++ rest)) = _
    rw [hm, Bool.false_and, Bool.false_or, List.append_assoc]
    exact h2
def labO (fd : List UInt8 → List UInt8) (p : List Ins) (i : Nat) : Option (List UInt8) := if targeted p i = true then some (fd (labName i)) else none
theorem renG_lab (fd fu : List UInt8 → List UInt8) (p : List Ins) (i : Nat) (rest : List Raw) :
    renG fd fu (labToks p i ++ rest) = labToksG (labO fd p i) ++ renG fd fu rest ∧ useL (labToks p i ++ rest) = useL rest := by
  unfold labToks labO
  split
  · constructor
    · show renR fd fu (wordR (labName i)) (punR 58 :: rest) :: renR fd fu (punR 58) rest :: renG fd fu rest = _
      rw [ren_pun]; rfl
    · rfl
  · exact ⟨rfl, rfl⟩
def llines (fd fu : List UInt8 → List UInt8) (p : List Ins) : Nat → List Ins → List LLine
  | _, [] => []
  | i, x :: r => ⟨labO fd p i, x, fu (labName x.imm.toNat)⟩ :: llines fd fu p (i + 1) r
theorem renG_lines (fd fu : List UInt8 → List UInt8) (p : List Ins) : ∀ (r : List Ins) (i : Nat), (∀ x ∈ r, InsOk x) → renG fd fu (linesK p i r) = linesG (llines fd fu p i r) ∧ useL (linesK p i r) = r.any fun x => uses x.op 116
  | [], _, _ => ⟨rfl, rfl⟩
  | x :: r, i, h => by
    obtain ⟨h1, h2⟩ := renG_lines fd fu p r (i + 1) (fun y hy => h y (by simp [hy]))
    obtain ⟨h3, h4⟩ := renG_ins fd fu (h x (by simp)) (linesK p (i + 1) r)
    obtain ⟨h5, h6⟩ := renG_lab fd fu p i (insToks x ++ linesK p (i + 1) r)
    constructor
    · show renG fd fu (labToks p i ++ (insToks x ++ linesK p (i + 1) r)) = labToksG _ ++ (insToksG _ _ ++ linesG _)
      rw [h5, h3, h1]
    · show useL (labToks p i ++ (insToks x ++ linesK p (i + 1) r)) = _
      rw [h6, h4, h2]; rfl
/-- Without another name the tokens are the same. -/
theorem renR_id (r : Raw) (l : List Raw) : renR id id r l = r := by
  unfold renR
  split
  · simp
  · rfl
theorem renG_id : ∀ l : List Raw, renG id id l = l
  | [] => rfl
  | r :: l => by rw [renG, renR_id, renG_id l]
theorem linesG_append : ∀ a b : List LLine, linesG (a ++ b) = linesG a ++ linesG b
  | [], _ => rfl
  | L :: a, b => by simp only [List.cons_append, linesG, linesG_append a b, List.append_assoc]
theorem labsG_append : ∀ (a b : List LLine) (n : Nat), labsG n (a ++ b) = labsG n a ++ labsG (n + a.length) b
  | [], b, n => rfl
  | L :: a, b, n => by
    simp only [List.cons_append, labsG, labsG_append a b (n + 1), List.append_assoc, List.length_cons]
    rw [show n + 1 + a.length = n + (a.length + 1) from by omega]
theorem llines_len (fd fu : List UInt8 → List UInt8) (p : List Ins) : ∀ (r : List Ins) (i : Nat), (llines fd fu p i r).length = r.length
  | [], _ => rfl
  | x :: r, i => by simp [llines, llines_len fd fu p r (i + 1)]
theorem mem_labs (fd fu : List UInt8 → List UInt8) (p : List Ins) : ∀ (r : List Ins) (i n : Nat) (s : List UInt8) (k : Nat), (s, k) ∈ labsG n (llines fd fu p i r) ↔ ∃ j, j < r.length ∧ k = n + j ∧ targeted p (i + j) = true ∧ s = fd (labName (i + j))
  | [], i, n, s, k => by simp [llines, labsG]
  | x :: r, i, n, s, k => by
    have ih := mem_labs fd fu p r (i + 1) (n + 1) s k
    rw [llines, labsG, List.mem_append, ih]
    constructor
    · rintro (h | ⟨j, h1, h2, h3, h4⟩)
      · unfold labO at h
        by_cases ht : targeted p i = true
        · simp only [ht, if_true, lab1, List.mem_singleton, Prod.mk.injEq] at h
          exact ⟨0, by simp, by omega, ht, h.1⟩
        · simp [ht, lab1] at h
      · exact ⟨j + 1, by simp only [List.length_cons]; omega, by omega, by rw [show i + (j + 1) = i + 1 + j from by omega]; exact h3, by rw [show i + (j + 1) = i + 1 + j from by omega]; exact h4⟩
    · rintro ⟨j, h1, h2, h3, h4⟩
      cases j with
      | zero =>
        left
        have h3' : targeted p i = true := h3
        show (s, k) ∈ lab1 n (labO fd p i)
        unfold labO
        rw [if_pos h3']
        simp only [lab1, List.mem_singleton, Prod.mk.injEq]
        exact ⟨h4, by omega⟩
      | succ j =>
        right
        exact ⟨j, by simp only [List.length_cons] at h1; omega, by omega, by rw [show i + 1 + j = i + (j + 1) from by omega]; exact h3, by rw [show i + 1 + j = i + (j + 1) from by omega]; exact h4⟩
def InjL (f : List UInt8 → List UInt8) : Prop := ∀ a b, a ≤ 5000 → b ≤ 5000 → f (labName a) = f (labName b) → a = b
theorem labs_nodup {fd : List UInt8 → List UInt8} (fu : List UInt8 → List UInt8) (p : List Ins) (hf : InjL fd) : ∀ (r : List Ins) (i n : Nat), i + r.length ≤ 5000 → ((labsG n (llines fd fu p i r)).map (·.1)).Nodup
  | [], _, _, _ => by simp [llines, labsG]
  | x :: r, i, n, hi => by
    simp only [List.length_cons] at hi
    have ih := labs_nodup fu p hf r (i + 1) (n + 1) (by omega)
    rw [llines, labsG]
    show ((lab1 n (labO fd p i) ++ labsG (n + 1) (llines fd fu p (i + 1) r)).map (·.1)).Nodup
    unfold labO
    by_cases ht : targeted p i = true
    · rw [if_pos ht]
      show (fd (labName i) :: (labsG (n + 1) (llines fd fu p (i + 1) r)).map (·.1)).Nodup
      rw [List.nodup_cons]
      refine ⟨fun hm => ?_, ih⟩
      obtain ⟨⟨s, k⟩, h1, h2⟩ := List.mem_map.1 hm
      obtain ⟨j, h3, _, _, h4⟩ := (mem_labs fd fu p r (i + 1) (n + 1) s k).1 h1
      have : i + 1 + j = i := hf _ _ (by omega) (by omega) (by rw [← h4]; exact h2)
      omega
    · rw [if_neg ht]; exact ih
theorem mem_llines {fd fu : List UInt8 → List UInt8} {p : List Ins} {L : LLine} : ∀ {r : List Ins} {i : Nat}, L ∈ llines fd fu p i r → ∃ x k, x ∈ r ∧ L = ⟨labO fd p k, x, fu (labName x.imm.toNat)⟩
  | [], _, h => by cases h
  | x :: r, i, h => by
    rcases List.mem_cons.1 h with rfl | h
    · exact ⟨x, i, by simp, rfl⟩
    · obtain ⟨y, k, hy, e⟩ := mem_llines h
      exact ⟨y, k, by simp [hy], e⟩
/-- A name that no register has. -/
theorem regOf_has {s : List UInt8} (h : 76 ∈ s) : ¬ 0 ≤ regOf s := by
  have key : ∀ n, n < 16 → ¬ 76 ∈ regName n := by decide
  have : regOf s = -1 := regFrom_no 16 0 fun k hk e => key k (by omega) (e ▸ h)
  omega
def GoodN (f : List UInt8 → List UInt8) : Prop := ∀ k, ¬ 0 ≤ regOf (f (labName k)) ∧ ¬ f (labName k) = []
theorem llines_ok {fd fu : List UInt8 → List UInt8} (hd : GoodN fd) (hu : GoodN fu) {p r : List Ins} {i : Nat} (h : ∀ x ∈ r, InsOk x ∧ InsZ x) : ∀ L ∈ llines fd fu p i r, LineOk L := by
  intro L hL
  obtain ⟨x, k, hx, rfl⟩ := mem_llines hL
  refine ⟨(h x hx).1, (h x hx).2, fun _ => hu _, fun s hs => ?_⟩
  simp only [labO] at hs
  split at hs
  · cases hs; exact (hd k).1
  · cases hs
theorem targeted_of {p : List Ins} {x : Ins} (hx : x ∈ p) (hu : uses x.op 116 = true) (h0 : 0 ≤ x.imm) : targeted p x.imm.toNat = true := by
  unfold targeted
  rw [List.any_eq_true]
  exact ⟨x, hx, by rw [hu, Bool.true_and, decide_eq_true_eq]; omega⟩
/-- Renamed throughout. -/
theorem asm_ren {f : List UInt8 → List UInt8} (hf : InjL f) (hg : GoodN f) {p : List Ins} (he : progErr p = 0) (hi : ∀ x ∈ p, InsOk x) {t : List UInt8} {d : List Tok} (hs : scanRes t = (d, 0, 0, 0)) (hr : d.map (·.raw) = renG f f (linesK p 0 p)) :
    asm t = (p, (0, 0), 0) := by
  have hall := progErr_all he
  have hlen := progErr_len he
  rw [(renG_lines f f p p 0 hi).1] at hr
  have hz := fun x hx => (⟨hi x hx, InsZ.of (hall x hx)⟩ : InsOk x ∧ InsZ x)
  obtain ⟨s, h3, h4, h5, _⟩ := asm_lines (d := d) (r := llines f f p 0 p) (by rw [llines_len]; exact ⟨hlen.1, hlen.2⟩) (llines_ok hg hg hz) (labs_nodup f p hf p 0 0 (by omega)) hr
  have h6 := h5 (fun L => L.x) (fun L hL => by
    obtain ⟨x, k, hx, rfl⟩ := mem_llines hL
    refine ⟨fun hu => ?_, fun _ => rfl⟩
    have h0 := (hi x hx).tgt hu
    have h1 := tgt_of (hall x hx) hu
    refine ⟨x.imm.toNat, (mem_labs f f p p 0 0 _ _).2 ⟨x.imm.toNat, by omega, by omega, by rw [Nat.zero_add]; exact targeted_of hx hu h0, by rw [Nat.zero_add]⟩, by rw [llines_len]; omega, ?_⟩
    obtain ⟨op, a, b, c, imm⟩ := x
    simp only at h0 ⊢
    rw [Int.toNat_of_nonneg h0])
  have h7 : (llines f f p 0 p).map (fun L => L.x) = p := by
    have : ∀ (r : List Ins) (i : Nat), (llines f f p i r).map (fun L => L.x) = r := by
      intro r
      induction r with
      | nil => intro i; rfl
      | cons x r ih => intro i; rw [llines, List.map_cons, ih]
    exact this p 0
  rw [h7] at h6
  exact (((asm_cases t d 0 0 hs _ _ rfl).2 s h3).2 h4).2 p h6
/-- The uses renamed to something that is not defined. -/
theorem asm_ren_bad {fd fu : List UInt8 → List UInt8} (hf : InjL fd) (hg : GoodN fd) (hu : GoodN fu) (hne : ∀ a b, ¬ fd (labName a) = fu (labName b)) {p : List Ins} (he : progErr p = 0) (hi : ∀ x ∈ p, InsOk x) {t : List UInt8} {d : List Tok} (hs : scanRes t = (d, 0, 0, 0)) (hr : d.map (·.raw) = renG fd fu (linesK p 0 p)) :
    (asm t).2.2 = if useL (linesK p 0 p) = true then 72 else 0 := by
  have hall := progErr_all he
  have hlen := progErr_len he
  rw [(renG_lines fd fu p p 0 hi).1] at hr
  rw [(renG_lines fd fu p p 0 hi).2]
  have hz := fun x hx => (⟨hi x hx, InsZ.of (hall x hx)⟩ : InsOk x ∧ InsZ x)
  obtain ⟨s, h3, h4, h5, h6⟩ := asm_lines (d := d) (r := llines fd fu p 0 p) (by rw [llines_len]; exact ⟨hlen.1, hlen.2⟩) (llines_ok hg hu hz) (labs_nodup fu p hf p 0 0 (by omega)) hr
  by_cases hany : (p.any fun x => uses x.op 116) = true
  · rw [if_pos hany]
    obtain ⟨x, hx, hxu⟩ := List.any_eq_true.1 hany
    have hmem : ∀ (r : List Ins) (i : Nat), x ∈ r → ∃ L ∈ llines fd fu p i r, uses L.x.op 116 = true := by
      intro r
      induction r with
      | nil => intro i h; cases h
      | cons y r ih =>
        intro i h
        rcases List.mem_cons.1 h with rfl | h
        · exact ⟨_, by rw [llines]; exact List.mem_cons_self .., hxu⟩
        · obtain ⟨L, h1, h2⟩ := ih (i + 1) h
          exact ⟨L, by rw [llines]; exact List.mem_cons_of_mem _ h1, h2⟩
    obtain ⟨e, h7⟩ := h6 (fun L hL _ y hy q => by
      obtain ⟨z, k, hz, rfl⟩ := mem_llines hL
      obtain ⟨s', k'⟩ := y
      obtain ⟨j, _, _, _, h8⟩ := (mem_labs fd fu p p 0 0 s' k').1 hy
      exact hne (0 + j) z.imm.toNat (h8 ▸ q)) (hmem p 0 hx)
    rw [(((asm_cases t d 0 0 hs _ _ rfl).2 s h3).2 h4).1 (e, 72) h7]
  · rw [if_neg hany]
    have h7 := h5 (fun L => L.x) (fun L hL => by
      obtain ⟨x, k, hx, rfl⟩ := mem_llines hL
      exact ⟨fun hu => absurd (List.any_eq_true.2 ⟨x, hx, hu⟩) hany, fun _ => rfl⟩)
    rw [(((asm_cases t d 0 0 hs _ _ rfl).2 s h3).2 h4).2 _ h7]
/-- One program behind the other. -/
def moveI (n : Nat) (x : Ins) : Ins := if uses x.op 116 = true then { x with imm := x.imm + (n : Int) } else x
theorem asm_cat {f : List UInt8 → List UInt8} (hf : InjL f) (hg : GoodN f) (hne : ∀ a b, ¬ labName a = f (labName b)) {p q : List Ins} (hp : progErr p = 0) (hq : progErr q = 0) (hip : ∀ x ∈ p, InsOk x) (hiq : ∀ x ∈ q, InsOk x) (hl : p.length + q.length ≤ 4096) {t : List UInt8} {d : List Tok} (hs : scanRes t = (d, 0, 0, 0)) (hr : d.map (·.raw) = linesK p 0 p ++ renG f f (linesK q 0 q)) :
    asm t = (p ++ q.map (moveI p.length), (0, 0), 0) := by
  have hpa := progErr_all hp
  have hqa := progErr_all hq
  have hpl := progErr_len hp
  have hid : InjL id := fun a b ha hb e => labName_inj ha hb e
  have hgid : GoodN id := fun k => ⟨regOf_has (by show 76 ∈ 76 :: numL 10 k; simp), by show ¬ 76 :: numL 10 k = []; simp⟩
  rw [← renG_id (linesK p 0 p), (renG_lines id id p p 0 hip).1, (renG_lines f f q q 0 hiq).1, ← linesG_append] at hr
  obtain ⟨r, hrr⟩ : ∃ r, r = llines id id p 0 p ++ llines f f q 0 q := ⟨_, rfl⟩
  rw [← hrr] at hr
  have hrl : r.length = p.length + q.length := by rw [hrr, List.length_append, llines_len, llines_len]
  have hlab : labsG 0 r = labsG 0 (llines id id p 0 p) ++ labsG p.length (llines f f q 0 q) := by rw [hrr, labsG_append, llines_len, Nat.zero_add]
  have hnd : ((labsG 0 r).map (·.1)).Nodup := by
    rw [hlab, List.map_append, List.nodup_append]
    refine ⟨labs_nodup id p hid p 0 0 (by omega), labs_nodup f q hf q 0 p.length (by omega), fun a ha b hb e => ?_⟩
    obtain ⟨⟨s, k⟩, h1, rfl⟩ := List.mem_map.1 ha
    obtain ⟨⟨s', k'⟩, h2, rfl⟩ := List.mem_map.1 hb
    obtain ⟨j, _, _, _, h3⟩ := (mem_labs id id p p 0 0 s k).1 h1
    obtain ⟨j', _, _, _, h4⟩ := (mem_labs f f q q 0 p.length s' k').1 h2
    simp only at e
    exact hne (0 + j) (0 + j') (by rw [← h4, ← e, h3]; rfl)
  have hok : ∀ L ∈ r, LineOk L := by
    intro L hL
    rw [hrr, List.mem_append] at hL
    rcases hL with hL | hL
    · exact llines_ok hgid hgid (fun x hx => ⟨hip x hx, InsZ.of (hpa x hx)⟩) L hL
    · exact llines_ok hg hg (fun x hx => ⟨hiq x hx, InsZ.of (hqa x hx)⟩) L hL
  obtain ⟨s, h3, h4, h5, _⟩ := asm_lines (d := d) (r := r) (by omega) hok hnd hr
  have hin1 : ∀ x ∈ p, uses x.op 116 = true → (labName x.imm.toNat, x.imm.toNat) ∈ labsG 0 r := fun x hx hu => by
    have h0 := (hip x hx).tgt hu
    have h1 := tgt_of (hpa x hx) hu
    rw [hlab, List.mem_append]
    exact .inl ((mem_labs id id p p 0 0 _ _).2 ⟨x.imm.toNat, by omega, by omega, by rw [Nat.zero_add]; exact targeted_of hx hu h0, by rw [Nat.zero_add]; rfl⟩)
  have hin2 : ∀ x ∈ q, uses x.op 116 = true → (f (labName x.imm.toNat), p.length + x.imm.toNat) ∈ labsG 0 r := fun x hx hu => by
    have h0 := (hiq x hx).tgt hu
    have h1 := tgt_of (hqa x hx) hu
    rw [hlab, List.mem_append]
    exact .inr ((mem_labs f f q q 0 p.length _ _).2 ⟨x.imm.toNat, by omega, rfl, by rw [Nat.zero_add]; exact targeted_of hx hu h0, by rw [Nat.zero_add]⟩)
  obtain ⟨y, hy⟩ : ∃ y : LLine → Ins, y = fun L => if uses L.x.op 116 = true then { L.x with imm := (((labelAt (labsG 0 r) L.u).getD 0 : Nat) : Int) } else L.x := ⟨_, rfl⟩
  have hy1 : ∀ x ∈ p, ∀ o, y ⟨o, x, labName x.imm.toNat⟩ = x := fun x hx o => by
    rw [hy]
    dsimp only
    by_cases hu : uses x.op 116 = true
    · rw [if_pos hu, labelAt_memG hnd (hin1 x hx hu)]
      have h0 := (hip x hx).tgt hu
      obtain ⟨op, a, b, c, imm⟩ := x
      simp only [Option.getD_some] at h0 ⊢
      rw [Int.toNat_of_nonneg h0]
    · rw [if_neg hu]
  have hy2 : ∀ x ∈ q, ∀ o, y ⟨o, x, f (labName x.imm.toNat)⟩ = moveI p.length x := fun x hx o => by
    rw [hy]
    dsimp only
    unfold moveI
    by_cases hu : uses x.op 116 = true
    · rw [if_pos hu, if_pos hu, labelAt_memG hnd (hin2 x hx hu)]
      have h0 := (hiq x hx).tgt hu
      obtain ⟨op, a, b, c, imm⟩ := x
      simp only [Option.getD_some, Ins.mk.injEq, true_and] at h0 ⊢
      omega
    · rw [if_neg hu, if_neg hu]
  have h6 := h5 y (fun L hL => by
    rw [hrr, List.mem_append] at hL
    rcases hL with hL | hL
    · obtain ⟨x, k, hx, rfl⟩ := mem_llines hL
      refine ⟨fun hu => ⟨x.imm.toNat, hin1 x hx hu, ?_, ?_⟩, fun hu => ?_⟩
      · have := tgt_of (hpa x hx) hu; have := (hip x hx).tgt hu; rw [hrl]; omega
      · rw [show (id (labName x.imm.toNat)) = labName x.imm.toNat from rfl, hy1 x hx]
        have h0 := (hip x hx).tgt hu
        obtain ⟨op, a, b, c, imm⟩ := x
        simp only at h0 ⊢
        rw [Int.toNat_of_nonneg h0]
      · rw [show (id (labName x.imm.toNat)) = labName x.imm.toNat from rfl, hy1 x hx]
    · obtain ⟨x, k, hx, rfl⟩ := mem_llines hL
      refine ⟨fun hu => ⟨p.length + x.imm.toNat, hin2 x hx hu, ?_, ?_⟩, fun hu => ?_⟩
      · have := tgt_of (hqa x hx) hu; have := (hiq x hx).tgt hu; rw [hrl]; omega
      · rw [hy2 x hx]
        have h0 := (hiq x hx).tgt hu
        unfold moveI
        rw [if_pos hu]
        obtain ⟨op, a, b, c, imm⟩ := x
        simp only [Ins.mk.injEq, true_and] at h0 ⊢
        omega
      · rw [hy2 x hx]; unfold moveI; rw [if_neg hu])
  have h7 : r.map y = p ++ q.map (moveI p.length) := by
    have e1 : ∀ (z : List Ins) (i : Nat), (∀ x ∈ z, x ∈ p) → (llines id id p i z).map y = z := by
      intro z
      induction z with
      | nil => intro i _; rfl
      | cons x z ih =>
        intro i hz
        rw [llines, List.map_cons, ih _ (fun a ha => hz a (by simp [ha]))]
        rw [show (id (labName x.imm.toNat)) = labName x.imm.toNat from rfl, hy1 x (hz x (by simp))]
    have e2 : ∀ (z : List Ins) (i : Nat), (∀ x ∈ z, x ∈ q) → (llines f f q i z).map y = z.map (moveI p.length) := by
      intro z
      induction z with
      | nil => intro i _; rfl
      | cons x z ih =>
        intro i hz
        rw [llines, List.map_cons, ih _ (fun a ha => hz a (by simp [ha])), hy2 x (hz x (by simp)), List.map_cons]
    rw [hrr, List.map_append, e1 p 0 (fun _ h => h), e2 q 0 (fun _ h => h)]
  rw [h7] at h6
  exact (((asm_cases t d 0 0 hs _ _ rfl).2 s h3).2 h4).2 _ h6
end Go.Proofs.YtemigcdieghkfabDoor
