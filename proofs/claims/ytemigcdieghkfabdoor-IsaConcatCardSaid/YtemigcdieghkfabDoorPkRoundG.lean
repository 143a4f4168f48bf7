/- Merged: SegB, DisPlain, AsmRound, AsmRound2. -/
import Derived.Test.YtemigcdieghkfabDoorPkLexP
import Derived.Test.YtemigcdieghkfabDoorPkAsmP
import Derived.Test.YtemigcdieghkfabDoorPkValidG
set_option linter.unusedVariables false
set_option linter.unusedSimpArgs false
set_option linter.unusedSectionVars false
namespace Go.Proofs.YtemigcdieghkfabDoor
section
open Go

/-- A piece that comes to these tokens where the byte behind it is such. -/
def SegB (ok : UInt8 → Bool) (t : List UInt8) (rs : List Raw) : Prop :=
  ∃ D : List (Nat × Raw), D.map (·.2) = rs ∧ ∀ g rest, ok g = true → scanK (t ++ g :: rest) = ResK.pre D (ResK.shift t.length (scanK (g :: rest)))
theorem Seg.toB {ok : UInt8 → Bool} {t : List UInt8} {rs : List Raw} (h : Seg t rs) : SegB ok t rs := by
  obtain ⟨D, e, h⟩ := h
  exact ⟨D, e, fun g rest _ => h (g :: rest)⟩
theorem SegB.mono {ok ok' : UInt8 → Bool} {t : List UInt8} {rs : List Raw} (h : SegB ok t rs) (hi : ∀ g, ok' g = true → ok g = true) : SegB ok' t rs := by
  obtain ⟨D, e, h⟩ := h
  exact ⟨D, e, fun g rest hg => h g rest (hi g hg)⟩
theorem SegB.append {ok1 ok2 : UInt8 → Bool} {a : List UInt8} {ra rb : List Raw} (ha : SegB ok1 a ra) {c : UInt8} {q : List UInt8} (hc : ok1 c = true) (hb : SegB ok2 (c :: q) rb) : SegB ok2 (a ++ c :: q) (ra ++ rb) := by
  obtain ⟨Da, e1, h1⟩ := ha
  obtain ⟨Db, e2, h2⟩ := hb
  refine ⟨Da ++ Db.map (fun x => (x.1 + a.length, x.2)), by simp [e1, ← e2], fun g rest hg => ?_⟩
  rw [List.append_assoc, List.cons_append, h1 c _ hc, ← List.cons_append, h2 g rest hg, pre_shift, shift_shift]
  simp only [ResK.pre, List.append_assoc, Prod.mk.injEq, List.length_append]
  rw [Nat.add_comm a.length]
  exact ⟨rfl, rfl⟩
theorem SegB.append' {ok1 ok2 : UInt8 → Bool} {a b : List UInt8} {ra rb : List Raw} (ha : SegB ok1 a ra) (hb : SegB ok2 b rb) (hc : ∃ c q, b = c :: q ∧ ok1 c = true) : SegB ok2 (a ++ b) (ra ++ rb) := by
  obtain ⟨c, q, rfl, hc⟩ := hc
  exact ha.append hc hb
theorem SegB.nil (ok : UInt8 → Bool) : SegB ok [] [] := Seg.nil.toB
theorem SegB.of {ok : UInt8 → Bool} {c : UInt8} {q : List UInt8} {r : Raw} (hw : wsB c = false) (h35 : ¬ c.toNat = 35) (h : ∀ g rest, ok g = true → lexOne (c :: (q ++ g :: rest)) = (r, q.length + 1, 0)) : SegB ok (c :: q) [r] := by
  refine ⟨[(0, r)], rfl, fun g rest hg => ?_⟩
  have hl := h g rest hg
  rw [List.cons_append, scanK_cons, if_neg (by rw [hw]; decide), if_neg h35, hl, if_pos rfl]
  simp only [Nat.add_sub_cancel, List.drop_left]
  simp only [ResK.pre, ResK.cons, ResK.shift, List.length_cons, List.nil_append, List.cons_append]
def noAl (g : UInt8) : Bool := !alnumB g.toNat
theorem SegB.word {c : UInt8} {q : List UInt8} (hc : letterB c.toNat = true) (h : ∀ x ∈ q, alnumB x.toNat = true) : SegB noAl (c :: q) [⟨1, c :: q, 0⟩] := by
  refine SegB.of (by simp [letterB] at hc; simp [wsB]; omega) (by simp [letterB] at hc; omega) fun g rest hg => ?_
  have hall : ∀ x ∈ c :: q, alnumB x.toNat = true := by
    intro x hx
    rcases List.mem_cons.1 hx with rfl | hx
    · simp [alnumB, hc]
    · exact h x hx
  have hr := run_all hall (g := g) (b := rest) (by simpa [noAl] using hg)
  rw [lexOne_letter hc, show c :: (q ++ g :: rest) = (c :: q) ++ g :: rest from rfl, hr, List.take_left]; rfl
theorem SegB.num {n : Nat} (hn : (n : Int) ≤ most) : SegB noAl (numL 10 n) [⟨2, [], n⟩] := by
  have hall := all10 n
  cases hd : numL 10 n with
  | nil => exact absurd hd (numL_ne (by decide) n)
  | cons c q =>
    have hc := (hall c (by rw [hd]; simp)).1
    have hl : letterB c.toNat = false := by simp [digitB] at hc; simp [letterB]; omega
    refine SegB.of (by simp [digitB] at hc; simp [wsB]; omega) (by simp [digitB] at hc; omega) fun g rest hg => ?_
    have hr := run_all (l := c :: q) (fun x hx => (hall x (by rw [hd]; exact hx)).2.1) (g := g) (b := rest) (by simpa [noAl] using hg)
    have h10 := numeral10 n hn
    have ht : (c :: (q ++ g :: rest)).take (runLen (c :: (q ++ g :: rest))) = numL 10 n := by
      rw [show c :: (q ++ g :: rest) = (c :: q) ++ g :: rest from rfl, hr, List.take_left, hd]
    rw [lexOne_num hl hc (by rw [ht, h10]), ht, h10, show c :: (q ++ g :: rest) = (c :: q) ++ g :: rest from rfl, hr]
    rfl
/-- A mark of one byte. -/
theorem SegB.punct {c : UInt8} (h1 : letterB c.toNat = false) (h2 : digitB c.toNat = false) (h3 : ¬ c.toNat = 34) (h4 : wsB c = false) (h5 : ¬ c.toNat = 35) (h6 : 0 ≤ Lib.indexByte marks1 c) : SegB (fun g => !two [c, g]) [c] [⟨4, [c], 0⟩] := by
  refine SegB.of h4 h5 fun g rest hg => ?_
  have hp : punctLen (c :: ([] ++ g :: rest)) = 1 := by
    rw [punct_cases, if_neg, if_pos h6]
    rintro ⟨_, h⟩
    simp only [List.nil_append, List.take_succ_cons, List.take_zero] at h
    rw [h] at hg; cases hg
  rw [lexOne_punct h1 h2 h3 (by rw [hp]; decide), hp]
  rfl
theorem SegB.ws {ok : UInt8 → Bool} {c : UInt8} (h : wsB c = true) : SegB ok [c] [] := (Seg.ws h).toB
/-- What scanning comes to where the piece ends in white space. -/
theorem SegB.scan {ok : UInt8 → Bool} {t : List UInt8} {rs : List Raw} {g : UInt8} (h : SegB ok t rs) (hg : ok g = true) (hw : wsB g = true) (hl : (t ++ [g]).length ≤ 65536) : ∃ d : List Tok, scanRes (t ++ [g]) = (d, 0, 0, 0) ∧ d.map (·.raw) = rs := by
  obtain ⟨D, e1, h1⟩ := h
  have hs := h1 g [] hg
  have hk : scanK [g] = ([], none) := by rw [scanK_cons, if_pos hw, scanK_nil]; rfl
  rw [hk] at hs
  refine ⟨(place (t ++ [g]) (1, 1) (ResK.pre D (ResK.shift t.length ([], none)))).1, by rw [scanRes_place hl, hs]; rfl, ?_⟩
  simp only [place, ResK.pre, ResK.shift, List.map_nil, List.append_nil, List.map_map, ← e1]
  apply List.map_congr_left; intro y _; rfl
end
section
open Go

def immText (v : Int) : List UInt8 := if v < 0 then 45 :: numL 10 (-v).toNat else numL 10 v.toNat
def opText (c : UInt8) (x : Ins) : List UInt8 :=
  if c = 97 then 114 :: numL 10 x.a.toNat else if c = 98 then 114 :: numL 10 x.b.toNat else if c = 99 then 114 :: numL 10 x.c.toNat
  else if c = 116 then 76 :: immText x.imm else immText x.imm
def opsText (x : Ins) : Bool → List UInt8 → List UInt8
  | _, [] => []
  | true, c :: l => 32 :: (opText c x ++ opsText x false l)
  | false, c :: l => 44 :: 32 :: (opText c x ++ opsText x false l)
def insText (x : Ins) : List UInt8 := mnemOf x.op ++ (opsText x true (operandsOf x.op) ++ [59, 10])
def targeted (p : List Ins) (i : Nat) : Bool := p.any fun x => uses x.op 116 && decide (x.imm = i)
def labText (p : List Ins) (i : Nat) : List UInt8 := if targeted p i = true then 76 :: (numL 10 i ++ [58, 32]) else []
def linesT (p : List Ins) : Nat → List Ins → List UInt8
  | _, [] => []
  | i, x :: r => labText p i ++ (insText x ++ linesT p (i + 1) r)
/-- The text of a program. -/
def disL (p : List Ins) : List UInt8 := if progErr p = 0 then linesT p 0 p else []

/-! ### Its tokens -/
def wordR (s : List UInt8) : Raw := ⟨1, s, 0⟩
def punR (c : UInt8) : Raw := ⟨4, [c], 0⟩
def numR (n : Int) : Raw := ⟨2, [], n⟩
def immToks (v : Int) : List Raw := if v < 0 then [punR 45, numR (-v)] else [numR v]
def opToks (c : UInt8) (x : Ins) : List Raw :=
  if c = 97 then [wordR (114 :: numL 10 x.a.toNat)] else if c = 98 then [wordR (114 :: numL 10 x.b.toNat)] else if c = 99 then [wordR (114 :: numL 10 x.c.toNat)]
  else if c = 116 then [wordR (76 :: immText x.imm)] else immToks x.imm
def opsToks (x : Ins) : Bool → List UInt8 → List Raw
  | _, [] => []
  | true, c :: l => opToks c x ++ opsToks x false l
  | false, c :: l => punR 44 :: (opToks c x ++ opsToks x false l)
def insToks (x : Ins) : List Raw := wordR (mnemOf x.op) :: (opsToks x true (operandsOf x.op) ++ [punR 59])
def labToks (p : List Ins) (i : Nat) : List Raw := if targeted p i = true then [wordR (76 :: numL 10 i), punR 58] else []
def linesK (p : List Ins) : Nat → List Ins → List Raw
  | _, [] => []
  | i, x :: r => labToks p i ++ (insToks x ++ linesK p (i + 1) r)

/-- What is asked of an instruction for its text to be read again. -/
structure InsOk (x : Ins) : Prop where
  op : 0 ≤ x.op ∧ x.op ≤ 27
  a : 0 ≤ x.a ∧ x.a < 16
  b : 0 ≤ x.b ∧ x.b < 16
  c : 0 ≤ x.c ∧ x.c < 16
  imm : -2147483648 ≤ x.imm ∧ x.imm ≤ 2147483647
  tgt : uses x.op 116 = true → 0 ≤ x.imm

theorem numL_cons (n : Nat) : ∃ c q, numL 10 n = c :: q ∧ digitB c.toNat = true := by
  cases hd : numL 10 n with
  | nil => exact absurd hd (numL_ne (by decide) n)
  | cons c q => exact ⟨c, q, rfl, (all10 n c (by rw [hd]; simp)).1⟩
theorem numL_alnum (n : Nat) : ∀ c ∈ numL 10 n, alnumB c.toNat = true := fun c hc => (all10 n c hc).2.1
theorem word_num (c : UInt8) (hc : letterB c.toNat = true) (n : Nat) : SegB noAl (c :: numL 10 n) [wordR (c :: numL 10 n)] := SegB.word hc (numL_alnum n)
theorem imm_seg (v : Int) (h : -2147483648 ≤ v ∧ v ≤ 2147483647) : SegB noAl (immText v) (immToks v) := by
  unfold immText immToks
  by_cases hv : v < 0
  · rw [if_pos hv, if_pos hv]
    obtain ⟨c, q, hn, hd⟩ := numL_cons (-v).toNat
    have h1 : SegB (fun g => !two [45, g]) [45] [punR 45] := SegB.punct (by decide) (by decide) (by decide) (by decide) (by decide) (by decide)
    have h2 : SegB noAl (numL 10 (-v).toNat) [numR (((-v).toNat : Nat) : Int)] := SegB.num (by unfold most; omega)
    have e : (((-v).toNat : Nat) : Int) = -v := by omega
    rw [e] at h2
    refine h1.append' h2 ⟨c, q, hn, ?_⟩
    have hd' : 48 ≤ c.toNat ∧ c.toNat ≤ 57 := by simp [digitB] at hd; omega
    have : ∀ b : UInt8, b.toNat < 48 ∨ 57 < b.toNat → ¬ c = b := by intro b hb e; subst e; omega
    have e1 := this 61 (by decide)
    have e2 := this 46 (by decide)
    have e3 := this 62 (by decide)
    simp [two, e1, e2, e3]
  · rw [if_neg hv, if_neg hv]
    have h2 : SegB noAl (numL 10 v.toNat) [numR ((v.toNat : Nat) : Int)] := SegB.num (by unfold most; omega)
    have e : ((v.toNat : Nat) : Int) = v := by omega
    rw [e] at h2
    exact h2
theorem op_seg (c : UInt8) (x : Ins) (h : InsOk x) (ht : c = 116 → 0 ≤ x.imm) : SegB noAl (opText c x) (opToks c x) := by
  unfold opText opToks
  split
  · exact word_num 114 (by decide) _
  split
  · exact word_num 114 (by decide) _
  split
  · exact word_num 114 (by decide) _
  split
  · rename_i h4
    have h0 := ht h4
    have e : immText x.imm = numL 10 x.imm.toNat := by unfold immText; rw [if_neg (by omega)]
    rw [e]
    exact word_num 76 (by decide) _
  · exact imm_seg _ h.imm
theorem opText_head (c : UInt8) (x : Ins) : ∃ d q, opText c x = d :: q ∧ two [44, d] = false := by
  have key : ∀ d : UInt8, two [44, d] = false := by intro d; simp [two]
  unfold opText
  split
  · exact ⟨_, _, rfl, key _⟩
  split
  · exact ⟨_, _, rfl, key _⟩
  split
  · exact ⟨_, _, rfl, key _⟩
  split
  · exact ⟨_, _, rfl, key _⟩
  · unfold immText
    split
    · exact ⟨_, _, rfl, key _⟩
    · obtain ⟨d, q, hn, _⟩ := numL_cons x.imm.toNat
      exact ⟨d, q, hn, key _⟩
theorem comma_seg : SegB (fun g => !two [44, g]) [44] [punR 44] := SegB.punct (by decide) (by decide) (by decide) (by decide) (by decide) (by decide)
theorem semi_seg : SegB (fun g => !two [59, g]) [59] [punR 59] := SegB.punct (by decide) (by decide) (by decide) (by decide) (by decide) (by decide)
theorem colon_seg : SegB (fun g => !two [58, g]) [58] [punR 58] := SegB.punct (by decide) (by decide) (by decide) (by decide) (by decide) (by decide)
theorem sp_seg (ok : UInt8 → Bool) : SegB ok [32] [] := SegB.ws (by decide)
/-- Operands, behind a word or an operand; a semicolon follows. -/
theorem ops_seg (x : Ins) (h : InsOk x) : ∀ (l : List UInt8) (f : Bool), (∀ c ∈ l, c = 116 → 0 ≤ x.imm) → SegB noAl (opsText x f l) (opsToks x f l) ∧ (∀ g, noAl g = true → ∃ d q, opsText x f l ++ [g] = d :: q ∧ noAl d = true)
  | [], f, _ => by cases f <;> exact ⟨SegB.nil _, fun g hg => ⟨g, [], rfl, hg⟩⟩
  | c :: l, f, ht => by
    obtain ⟨ih, hi⟩ := ops_seg x h l false (fun d hd => ht d (by simp [hd]))
    have ho := op_seg c x h (ht c (by simp))
    obtain ⟨d, q, hd, h44⟩ := opText_head c x
    have hrest : SegB noAl (opText c x ++ opsText x false l) (opToks c x ++ opsToks x false l) := by
      cases hl : l with
      | nil => simpa [opsText, opsToks] using ho
      | cons c2 l2 =>
        rw [← hl]
        refine ho.append' ih ?_
        subst hl
        exact ⟨44, _, rfl, by decide⟩
    have hsp : SegB noAl (32 :: (opText c x ++ opsText x false l)) (opToks c x ++ opsToks x false l) := by
      have := (sp_seg (fun _ => true)).append' hrest ⟨d, q ++ opsText x false l, by rw [hd]; rfl, rfl⟩
      simpa using this
    cases f with
    | true =>
      refine ⟨hsp, fun g hg => ⟨32, _, rfl, by decide⟩⟩
    | false =>
      refine ⟨?_, fun g hg => ⟨44, _, rfl, by decide⟩⟩
      have := comma_seg.append' hsp ⟨32, _, rfl, by decide⟩
      simpa [opsText, opsToks] using this
def wordOkB : List UInt8 → Bool
  | [] => false
  | c :: q => letterB c.toNat && q.all fun y => alnumB y.toNat
theorem mnem_okB : ∀ s ∈ mnemL, wordOkB s = true := by decide
theorem mnem_word (op : Int) (h0 : 0 ≤ op) (h1 : op ≤ 27) : ∃ c q, mnemOf op = c :: q ∧ letterB c.toNat = true ∧ ∀ y ∈ q, alnumB y.toNat = true := by
  have key : ∀ s ∈ mnemL, ∃ c q, s = c :: q ∧ letterB c.toNat = true ∧ ∀ y ∈ q, alnumB y.toNat = true := by
    intro s hs
    have hb := mnem_okB s hs
    cases s with
    | nil => cases hb
    | cons c q =>
      simp only [wordOkB, Bool.and_eq_true, List.all_eq_true] at hb
      exact ⟨c, q, rfl, hb.1, hb.2⟩
  have hm : mnemOf op ∈ mnemL := by
    unfold mnemOf
    have hl : op.toNat < mnemL.length := by show op.toNat < 28; omega
    rw [List.getD_eq_getElem?_getD, List.getElem?_eq_getElem hl]
    exact List.getElem_mem _
  exact key _ hm
theorem ins_seg (x : Ins) (h : InsOk x) : SegB (fun _ => true) (insText x) (insToks x) := by
  obtain ⟨c, q, hm, hc, hq⟩ := mnem_word x.op h.op.1 h.op.2
  have h1 : SegB noAl (mnemOf x.op) [wordR (mnemOf x.op)] := by rw [hm]; exact SegB.word hc hq
  have hu : ∀ c ∈ operandsOf x.op, c = 116 → 0 ≤ x.imm := by
    intro c hc e
    subst e
    exact h.tgt (List.contains_iff_mem.2 hc)
  obtain ⟨h2, h3⟩ := ops_seg x h (operandsOf x.op) true hu
  have h4 : SegB (fun _ => true) [59, 10] [punR 59] := by
    have := semi_seg.append' (SegB.ws (ok := fun _ => true) (c := 10) (by decide)) ⟨10, [], rfl, by decide⟩
    simpa using this
  have h5 := h2.append' h4 ⟨59, [10], rfl, by decide⟩
  have h6 := h1.append' h5 (by
    obtain ⟨d, q, e, hd⟩ := h3 59 (by decide)
    refine ⟨d, q ++ [10], ?_, hd⟩
    have : opsText x true (operandsOf x.op) ++ [59, 10] = (opsText x true (operandsOf x.op) ++ [59]) ++ [10] := by simp
    rw [this, e]; rfl)
  simpa [insText, insToks] using h6
theorem insText_head (x : Ins) (h : InsOk x) : ∃ c q, insText x = c :: q := by
  obtain ⟨c, q, hm, _⟩ := mnem_word x.op h.op.1 h.op.2
  exact ⟨c, _, by rw [insText, hm]; rfl⟩
theorem lab_seg (p : List Ins) (i : Nat) : SegB (fun _ => true) (labText p i) (labToks p i) := by
  unfold labText labToks
  split
  · have h1 := word_num 76 (by decide) i
    have h2 := colon_seg.append' (sp_seg (fun _ => true)) ⟨32, [], rfl, by decide⟩
    have h3 := h1.append' h2 ⟨58, [32], rfl, by decide⟩
    simpa using h3
  · exact SegB.nil _
theorem lines_seg (p : List Ins) : ∀ (r : List Ins) (i : Nat), (∀ x ∈ r, InsOk x) → SegB (fun _ => true) (linesT p i r) (linesK p i r)
  | [], _, _ => SegB.nil _
  | x :: r, i, h => by
    have ih := lines_seg p r (i + 1) (fun y hy => h y (by simp [hy]))
    have h1 := ins_seg x (h x (by simp))
    have h2 : SegB (fun _ => true) (insText x ++ linesT p (i + 1) r) (insToks x ++ linesK p (i + 1) r) := by
      cases hl : linesT p (i + 1) r with
      | nil =>
        have : linesK p (i + 1) r = [] := by
          cases r with
          | nil => rfl
          | cons y r =>
            exfalso
            obtain ⟨c, q, hc⟩ := insText_head y (h y (by simp))
            rw [linesT, hc] at hl
            simp at hl
        rw [this, List.append_nil, List.append_nil]
        exact h1
      | cons c q => rw [← hl]; exact h1.append' ih ⟨c, q, hl, rfl⟩
    obtain ⟨c, q, hc⟩ := insText_head x (h x (by simp))
    exact (lab_seg p i).append' h2 ⟨c, q ++ linesT p (i + 1) r, by rw [hc]; rfl, rfl⟩
end
section
open Go

/-- From there on the tokens begin with these. -/
def TkAt (d : List Tok) (i : Nat) (l : List Raw) : Prop := ∀ k r, l[k]? = some r → tk d (i + k) = r
theorem TkAt.head {d : List Tok} {i : Nat} {r : Raw} {l : List Raw} (h : TkAt d i (r :: l)) : tk d i = r := h 0 r rfl
theorem TkAt.tail {d : List Tok} {i : Nat} {r : Raw} {l : List Raw} (h : TkAt d i (r :: l)) : TkAt d (i + 1) l := fun k x hx => by
  have := h (k + 1) x hx
  rwa [show i + (k + 1) = i + 1 + k from by omega] at this
theorem TkAt.left {d : List Tok} {i : Nat} {a b : List Raw} (h : TkAt d i (a ++ b)) : TkAt d i a := fun k x hx => h k x (by rw [List.getElem?_append_left ((List.getElem?_eq_some_iff.1 hx).1)]; exact hx)
theorem TkAt.right {d : List Tok} {i : Nat} {a b : List Raw} (h : TkAt d i (a ++ b)) : TkAt d (i + a.length) b := fun k x hx => by
  rw [Nat.add_assoc]
  exact h (a.length + k) x (by rw [List.getElem?_append_right (by omega), Nat.add_sub_cancel_left]; exact hx)
theorem TkAt.of {d : List Tok} {l : List Raw} (h : d.map (·.raw) = l) : TkAt d 0 l := fun k r hr => by
  rw [← h, List.getElem?_map] at hr
  rw [Nat.zero_add]
  unfold tk
  cases hd : d[k]? with
  | none => rw [hd] at hr; cases hr
  | some t => rw [hd] at hr; simpa using hr
theorem regOf_reg : ∀ n, n < 16 → regOf (regName n) = n := by decide
theorem regOf_num (n : Nat) (h : n < 16) : regOf (114 :: numL 10 n) = n := by rw [← regName_num n h, regOf_reg n h]
theorem regFrom_no {s : List UInt8} : ∀ (f n : Nat), (∀ k, k < n + f → ¬ s = regName k) → regFrom s f n = -1
  | 0, _, _ => rfl
  | f + 1, n, h => by
    rw [regFrom, if_neg (h n (by omega)), regFrom_no f (n + 1) (fun k hk => h k (by omega))]
theorem regName_head : ∀ n, n < 16 → (regName n).head? = some 114 := by decide
theorem regOf_L (q : List UInt8) : regOf (76 :: q) = -1 := regFrom_no 16 0 fun k hk e => by
  have := regName_head k (by omega)
  rw [← e] at this
  simp at this
theorem numL_inj {a b : Nat} (ha : (a : Int) ≤ most) (hb : (b : Int) ≤ most) (h : numL 10 a = numL 10 b) : a = b := by
  have h1 := numeral10 a ha
  have h2 := numeral10 b hb
  rw [h, h2] at h1
  have := congrArg Prod.fst h1
  simp at this
  omega
theorem mnemIx_of : ∀ n, n < 28 → mnemIx (mnemL.getD n []) = n := by decide
theorem mnemIx_mnem (op : Int) (h0 : 0 ≤ op) (h1 : op ≤ 27) : mnemIx (mnemOf op) = op := by
  have := mnemIx_of op.toNat (by omega)
  unfold mnemOf
  rw [this]; omega

/-- The instruction whose target is not yet filled in. -/
def strip (x : Ins) : Ins := if uses x.op 116 = true then { x with imm := 0 } else x
def setF (c : UInt8) (y x : Ins) : Ins :=
  if c = 97 then { y with a := x.a } else if c = 98 then { y with b := x.b } else if c = 99 then { y with c := x.c } else if c = 105 then { y with imm := x.imm } else { y with imm := 0 }
def refOk (n : Nat) (x : Ins) (c : UInt8) (us : List ARef) : Prop := if c = 116 then ∃ k, us = [⟨n, 76 :: numL 10 x.imm.toNat, true, k⟩] else us = []
theorem aReg_ok {d : List Tok} {i : Nat} {v : Int} (h : tk d i = wordR (114 :: numL 10 v.toNat)) (h0 : 0 ≤ v) (h1 : v < 16) : aReg d i = .ok v := by
  unfold aReg
  rw [h]
  have hr : regOf (wordR (114 :: numL 10 v.toNat)).text = v := by
    show regOf (114 :: numL 10 v.toNat) = v
    rw [regOf_num _ (by omega)]; omega
  rw [hr, if_pos ⟨rfl, h0⟩]
theorem rOperand_ok {d : List Tok} {n i : Nat} {c : UInt8} {x y : Ins} (hx : InsOk x) (hc : c = 97 ∨ c = 98 ∨ c = 99 ∨ c = 105 ∨ c = 116) (ht : c = 116 → 0 ≤ x.imm) (h : TkAt d i (opToks c x)) :
    ∃ us, aOperand d n c y i = .ok (setF c y x, i + (opToks c x).length, us) ∧ refOk n x c us := by
  rcases hc with rfl | rfl | rfl | rfl | rfl
  · have h1 : tk d i = wordR (114 :: numL 10 x.a.toNat) := h.head
    exact ⟨[], by unfold aOperand; rw [if_pos rfl, aReg_ok h1 hx.a.1 hx.a.2]; rfl, rfl⟩
  · have h1 : tk d i = wordR (114 :: numL 10 x.b.toNat) := h.head
    exact ⟨[], by unfold aOperand; rw [if_neg (by decide), if_pos rfl, aReg_ok h1 hx.b.1 hx.b.2]; rfl, rfl⟩
  · have h1 : tk d i = wordR (114 :: numL 10 x.c.toNat) := h.head
    exact ⟨[], by unfold aOperand; rw [if_neg (by decide), if_neg (by decide), if_pos rfl, aReg_ok h1 hx.c.1 hx.c.2]; rfl, rfl⟩
  · refine ⟨[], ?_, rfl⟩
    have hi := hx.imm
    unfold aOperand
    rw [if_neg (by decide), if_neg (by decide), if_neg (by decide), if_pos rfl]
    have h' : TkAt d i (immToks x.imm) := h
    have e : opToks 105 x = immToks x.imm := rfl
    rw [e]
    by_cases hv : x.imm < 0
    · have e2 : immToks x.imm = [punR 45, numR (-x.imm)] := by unfold immToks; rw [if_pos hv]
      rw [e2] at h' ⊢
      have h1 := h'.head
      have h2 := h'.tail.head
      have ha : aImm d n false i = .ok (x.imm, i + 2, []) := by
        unfold aImm
        have hp : isP d i [45] = true := by unfold isP; rw [h1]; rfl
        rw [h1, if_neg (show ¬ (punR 45).kind = 1 by decide), hp, if_pos (by rfl), h2, if_neg (show ¬ ¬ (numR (-x.imm)).kind = 2 from fun q => q rfl), if_neg (show ¬ 2147483648 < (numR (-x.imm)).value by show ¬ 2147483648 < -x.imm; omega)]
        show Except.ok (-(-x.imm), i + 2, []) = _
        rw [Int.neg_neg]
      rw [ha]; rfl
    · have e2 : immToks x.imm = [numR x.imm] := by unfold immToks; rw [if_neg hv]
      rw [e2] at h' ⊢
      have h1 := h'.head
      have ha : aImm d n false i = .ok (x.imm, i + 1, []) := by
        unfold aImm
        have hp : isP d i [45] = false := by unfold isP; rw [h1]; rfl
        rw [h1, if_neg (show ¬ (numR x.imm).kind = 1 by show ¬ (2 : Int) = 1; decide), hp, if_neg (by decide), if_neg (show ¬ ¬ (numR x.imm).kind = 2 from fun q => q rfl), if_neg (show ¬ 2147483647 < (numR x.imm).value by show ¬ 2147483647 < x.imm; omega)]
        rfl
      rw [ha]; rfl
  · have h0 := ht rfl
    have e : immText x.imm = numL 10 x.imm.toNat := by unfold immText; rw [if_neg (by omega)]
    have e2 : opToks 116 x = [wordR (76 :: numL 10 x.imm.toNat)] := by show [wordR (76 :: immText x.imm)] = _; rw [e]
    rw [e2] at h ⊢
    have h1 := h.head
    refine ⟨[⟨n, 76 :: numL 10 x.imm.toNat, true, i⟩], ?_, ⟨i, rfl⟩⟩
    have ha : aImm d n true i = .ok (0, i + 1, [⟨n, 76 :: numL 10 x.imm.toNat, true, i⟩]) := by
      unfold aImm
      rw [h1, if_pos (show (wordR (76 :: numL 10 x.imm.toNat)).kind = 1 from rfl), if_neg (show ¬ 0 ≤ regOf (wordR (76 :: numL 10 x.imm.toNat)).text by show ¬ 0 ≤ regOf (76 :: numL 10 x.imm.toNat); rw [regOf_L]; decide)]
      rfl
    unfold aOperand
    rw [if_neg (by decide), if_neg (by decide), if_neg (by decide), if_neg (by decide), ha]
    rfl
def setAll : List UInt8 → Ins → Ins → Ins
  | [], y, _ => y
  | c :: l, y, x => setAll l (setF c y x) x
theorem opsL : ∀ l ∈ operandsL, (∀ c ∈ l, c = 97 ∨ c = 98 ∨ c = 99 ∨ c = 105 ∨ c = 116) ∧ l.Nodup := by decide
theorem opsOf_mem (op : Int) (h0 : 0 ≤ op) (h1 : op ≤ 27) : operandsOf op ∈ operandsL := by
  unfold operandsOf
  have hl : op.toNat < operandsL.length := by show op.toNat < 28; omega
  rw [List.getD_eq_getElem?_getD, List.getElem?_eq_getElem hl]
  exact List.getElem_mem _
/-- What an operation does not use is zero. -/
structure InsZ (x : Ins) : Prop where
  a : uses x.op 97 = false → x.a = 0
  b : uses x.op 98 = false → x.b = 0
  c : uses x.op 99 = false → x.c = 0
  imm : uses x.op 105 = false → uses x.op 116 = false → x.imm = 0
theorem setAll_cases (l : List UInt8) (hl : l = [] ∨ l = [97, 105] ∨ l = [97, 98] ∨ l = [97, 98, 99] ∨ l = [97, 98, 105] ∨ l = [116] ∨ l = [97, 116] ∨ l = [97] ∨ l = [105]) (op a b c imm : Int)
    (za : l.contains 97 = false → a = 0) (zb : l.contains 98 = false → b = 0) (zc : l.contains 99 = false → c = 0) (zi : l.contains 105 = false → l.contains 116 = false → imm = 0) :
    setAll l ⟨op, 0, 0, 0, 0⟩ ⟨op, a, b, c, imm⟩ = if l.contains 116 = true then ⟨op, a, b, c, 0⟩ else ⟨op, a, b, c, imm⟩ := by
  rcases hl with rfl | rfl | rfl | rfl | rfl | rfl | rfl | rfl | rfl
  all_goals
    simp [setAll, setF] at za zb zc zi ⊢
    try simp [*]
theorem setAll_strip (x : Ins) (h : InsOk x) (hz : InsZ x) : setAll (operandsOf x.op) ⟨x.op, 0, 0, 0, 0⟩ x = strip x := by
  obtain ⟨op, a, b, c, imm⟩ := x
  have hm := opsOf_mem op h.op.1 h.op.2
  have hl : ∀ l ∈ operandsL, l = [] ∨ l = [97, 105] ∨ l = [97, 98] ∨ l = [97, 98, 99] ∨ l = [97, 98, 105] ∨ l = [116] ∨ l = [97, 116] ∨ l = [97] ∨ l = [105] := by decide
  exact setAll_cases _ (hl _ hm) op a b c imm hz.a hz.b hz.c hz.imm
end
section
open Go

def labName (i : Nat) : List UInt8 := 76 :: numL 10 i
theorem labName_inj {a b : Nat} (ha : a ≤ 5000) (hb : b ≤ 5000) (h : labName a = labName b) : a = b := numL_inj (by unfold most; omega) (by unfold most; omega) (List.cons.inj h).2
theorem insToks_len (x : Ins) : 2 ≤ (insToks x).length := by simp only [insToks, List.length_cons, List.length_append, List.length_nil]; omega
theorem linesK_len (p : List Ins) : ∀ (r : List Ins) (i : Nat), 2 * r.length ≤ (linesK p i r).length
  | [], _ => by simp [linesK]
  | x :: r, i => by
    have := linesK_len p r (i + 1)
    have := insToks_len x
    simp only [linesK, List.length_append, List.length_cons]
    omega
end
end Go.Proofs.YtemigcdieghkfabDoor
