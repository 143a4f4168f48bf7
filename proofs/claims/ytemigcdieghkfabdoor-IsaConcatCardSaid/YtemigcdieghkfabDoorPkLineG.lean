/- Assembling lines whose labels have any names. Plain. -/
import Derived.Test.YtemigcdieghkfabDoorPkRoundG
set_option linter.unusedVariables false
set_option linter.unusedSimpArgs false
set_option linter.unusedSectionVars false
namespace Go.Proofs.YtemigcdieghkfabDoor
open Go

/-- A line: its label, its instruction, the name of its target. -/
structure LLine where
  lab : Option (List UInt8)
  x : Ins
  u : List UInt8
def opToksG (u : List UInt8) (c : UInt8) (x : Ins) : List Raw := if c = 116 then [wordR u] else opToks c x
def opsToksG (u : List UInt8) (x : Ins) : Bool → List UInt8 → List Raw
  | _, [] => []
  | true, c :: l => opToksG u c x ++ opsToksG u x false l
  | false, c :: l => punR 44 :: (opToksG u c x ++ opsToksG u x false l)
def insToksG (u : List UInt8) (x : Ins) : List Raw := wordR (mnemOf x.op) :: (opsToksG u x true (operandsOf x.op) ++ [punR 59])
def labToksG : Option (List UInt8) → List Raw
  | none => []
  | some s => [wordR s, punR 58]
def linesG : List LLine → List Raw
  | [] => []
  | L :: r => labToksG L.lab ++ (insToksG L.u L.x ++ linesG r)
structure LineOk (L : LLine) : Prop where
  ok : InsOk L.x
  z : InsZ L.x
  u : uses L.x.op 116 = true → ¬ 0 ≤ regOf L.u ∧ ¬ L.u = []
  lab : ∀ s, L.lab = some s → ¬ 0 ≤ regOf s

def refOkG (n : Nat) (u : List UInt8) (c : UInt8) (us : List ARef) : Prop := if c = 116 then ∃ k, us = [⟨n, u, true, k⟩] else us = []
theorem rOperand_okG {d : List Tok} {n i : Nat} {c : UInt8} {x y : Ins} {u : List UInt8} (hx : InsOk x) (hc : c = 97 ∨ c = 98 ∨ c = 99 ∨ c = 105 ∨ c = 116) (ht : c = 116 → ¬ 0 ≤ regOf u) (h : TkAt d i (opToksG u c x)) :
    ∃ us, aOperand d n c y i = .ok (setF c y x, i + (opToksG u c x).length, us) ∧ refOkG n u c us := by
  by_cases h116 : c = 116
  · subst h116
    have e2 : opToksG u 116 x = [wordR u] := rfl
    rw [e2] at h ⊢
    have h1 := h.head
    refine ⟨[⟨n, u, true, i⟩], ?_, ⟨i, rfl⟩⟩
    have ha : aImm d n true i = .ok (0, i + 1, [⟨n, u, true, i⟩]) := by
      unfold aImm
      rw [h1, if_pos (show (wordR u).kind = 1 from rfl), if_neg (show ¬ 0 ≤ regOf (wordR u).text from ht rfl)]
      rfl
    unfold aOperand
    rw [if_neg (by decide), if_neg (by decide), if_neg (by decide), if_neg (by decide), ha]
    rfl
  · have e : opToksG u c x = opToks c x := if_neg h116
    rw [e] at h ⊢
    obtain ⟨us, h1, h2⟩ := rOperand_ok (n := n) (y := y) hx hc (fun q => absurd q h116) h
    unfold refOk at h2
    rw [if_neg h116] at h2
    exact ⟨us, h1, by unfold refOkG; rw [if_neg h116]; exact h2⟩
def refsOkG (n : Nat) (u : List UInt8) (l : List UInt8) (us : List ARef) : Prop := if 116 ∈ l then ∃ k, us = [⟨n, u, true, k⟩] else us = []
theorem rOperands_okG {d : List Tok} {n : Nat} {x : Ins} {u : List UInt8} (hx : InsOk x) : ∀ (l : List UInt8) (f : Bool) (y : Ins) (i : Nat) (vs : List ARef), (∀ c ∈ l, c = 97 ∨ c = 98 ∨ c = 99 ∨ c = 105 ∨ c = 116) → (116 ∈ l → ¬ 0 ≤ regOf u) → l.Nodup → TkAt d i (opsToksG u x f l) →
    ∃ us, aOperands d n f l y i vs = .ok (setAll l y x, i + (opsToksG u x f l).length, vs ++ us) ∧ refsOkG n u l us
  | [], f, y, i, vs, _, _, _, _ => ⟨[], by cases f <;> simp [aOperands, opsToksG, setAll], by simp [refsOkG]⟩
  | c :: l, f, y, i, vs, hl, hi, hn, h => by
    rw [List.nodup_cons] at hn
    have step : ∀ j, TkAt d j (opToksG u c x ++ opsToksG u x false l) → ∃ us, (match aOperand d n c y j with | .error e => .error e | .ok (y, j, ws) => aOperands d n false l y j (vs ++ ws)) = Except.ok (setAll (c :: l) y x, j + (opToksG u c x ++ opsToksG u x false l).length, vs ++ us) ∧ refsOkG n u (c :: l) us := by
      intro j hj
      obtain ⟨us, h1, h2⟩ := rOperand_okG (n := n) (y := y) hx (hl c (by simp)) (fun e => hi (by simp [e])) hj.left
      obtain ⟨ws, h3, h4⟩ := rOperands_okG hx l false (setF c y x) (j + (opToksG u c x).length) (vs ++ us) (fun d hd => hl d (by simp [hd])) (fun hm => hi (by simp [hm])) hn.2 hj.right
      refine ⟨us ++ ws, ?_, ?_⟩
      · rw [h1]
        simp only
        rw [h3]
        simp only [setAll, List.length_append, List.append_assoc, Nat.add_assoc]
      · unfold refsOkG refOkG at *
        by_cases hc : c = 116
        · subst hc
          rw [if_pos rfl] at h2
          rw [if_neg hn.1] at h4
          rw [if_pos (by simp)]
          obtain ⟨k, rfl⟩ := h2
          exact ⟨k, by rw [h4]; rfl⟩
        · rw [if_neg hc] at h2
          subst h2
          by_cases hm : 116 ∈ l
          · rw [if_pos hm] at h4
            rw [if_pos (by simp [hm])]
            simpa using h4
          · rw [if_neg hm] at h4
            rw [if_neg (by simp [hm]; exact fun e => hc e.symm)]
            simpa using h4
    cases f with
    | true =>
      obtain ⟨us, h1, h2⟩ := step i h
      exact ⟨us, h1, h2⟩
    | false =>
      have h' : TkAt d i (punR 44 :: (opToksG u c x ++ opsToksG u x false l)) := h
      obtain ⟨us, h1, h2⟩ := step (i + 1) h'.tail
      refine ⟨us, ?_, h2⟩
      have hp : isP d i [44] = true := by unfold isP; rw [h'.head]; rfl
      rw [aOperands, if_neg (by rw [hp]; decide)]
      refine h1.trans ?_
      congr 3
      show i + 1 + _ = i + (_ + 1)
      omega
/-- The second token of an instruction is no colon. -/
theorem insToksG_colon {d : List Tok} {i : Nat} {u : List UInt8} {x : Ins} (h : TkAt d i (insToksG u x)) : isP d (i + 1) [58] = false := by
  have h2 := h.tail
  have key : ∀ r : Raw, tk d (i + 1) = r → (¬ r.kind = 4 ∨ ¬ r.text = [58]) → isP d (i + 1) [58] = false := by
    intro r hr hn
    unfold isP
    rw [hr]
    rcases hn with h | h <;> simp [h]
  cases hl : operandsOf x.op with
  | nil =>
    rw [hl] at h2
    exact key _ h2.head (.inr (by decide))
  | cons c l =>
    rw [hl] at h2
    have h3 : TkAt d (i + 1) (opToksG u c x) := h2.left.left
    unfold opToksG at h3
    split at h3
    · exact key _ h3.head (.inl (by show ¬ (1 : Int) = 4; decide))
    unfold opToks at h3
    split at h3
    · exact key _ h3.head (.inl (by show ¬ (1 : Int) = 4; decide))
    split at h3
    · exact key _ h3.head (.inl (by show ¬ (1 : Int) = 4; decide))
    split at h3
    · exact key _ h3.head (.inl (by show ¬ (1 : Int) = 4; decide))
    · unfold immToks at h3
      split at h3
      · exact key _ h3.head (.inr (by decide))
      · exact key _ h3.head (.inl (by show ¬ (2 : Int) = 4; decide))
def refsOfG (n : Nat) (L : LLine) (us : List ARef) : Prop := if uses L.x.op 116 = true then ∃ k, us = [⟨n, L.u, true, k⟩] else us = []
theorem aBody_okG {d : List Tok} {s : ASt} {L : LLine} (hL : LineOk L) (hn : s.prog.length < 4096) (h : TkAt d s.i (insToksG L.u L.x)) :
    ∃ us, aBody d s = .ok ⟨s.i + (insToksG L.u L.x).length, s.prog ++ [strip L.x], s.labels, s.uses ++ us⟩ ∧ refsOfG s.prog.length L us := by
  have hx := hL.ok
  obtain ⟨hl, hnd⟩ := opsL _ (opsOf_mem L.x.op hx.op.1 hx.op.2)
  obtain ⟨us, h1, h2⟩ := rOperands_okG (n := s.prog.length) (u := L.u) hx (operandsOf L.x.op) true ⟨L.x.op, 0, 0, 0, 0⟩ (s.i + 1) [] hl (fun hm => (hL.u (List.contains_iff_mem.2 hm)).1) hnd h.tail.left
  refine ⟨us, ?_, ?_⟩
  · have h0 := h.head
    have hm : mnemIx (tk d s.i).text = L.x.op := by rw [h0]; exact mnemIx_mnem L.x.op hx.op.1 hx.op.2
    unfold aBody
    have ho := hx.op
    rw [if_neg (show ¬ ¬ (tk d s.i).kind = 1 by rw [h0]; exact fun q => q rfl), hm, if_neg (by omega), if_neg (by omega), h1]
    simp only
    have h59 := h.tail.right.head
    have hp : isP d (s.i + 1 + (opsToksG L.u L.x true (operandsOf L.x.op)).length) [59] = true := by unfold isP; rw [h59]; rfl
    rw [if_pos hp, setAll_strip L.x hx hL.z, List.nil_append]
    congr 2
    simp only [insToksG, List.length_cons, List.length_append, List.length_nil]
    omega
  · unfold refsOkG at h2
    unfold refsOfG
    by_cases hu : uses L.x.op 116 = true
    · rw [if_pos (List.contains_iff_mem.1 hu)] at h2
      rw [if_pos hu]; exact h2
    · rw [if_neg (fun hm => hu (List.contains_iff_mem.2 hm))] at h2
      rw [if_neg hu]; exact h2
def lab1 (n : Nat) : Option (List UInt8) → Labels
  | none => []
  | some s => [(s, n)]
theorem labelAt_noneG {ls : Labels} {s : List UInt8} (h : ∀ x ∈ ls, ¬ x.1 = s) : labelAt ls s = none := by
  unfold labelAt
  rw [List.find?_eq_none.2 (fun x hx => by simpa using h x hx)]; rfl
theorem aInstr_okG {d : List Tok} {s : ASt} {L : LLine} (hL : LineOk L) (hn : s.prog.length < 4096) (hlab : ∀ nm, L.lab = some nm → ∀ x ∈ s.labels, ¬ x.1 = nm) (hd : 2 ≤ d.length) (h : TkAt d s.i (labToksG L.lab ++ insToksG L.u L.x)) :
    ∃ us, aInstr d s = .ok ⟨s.i + (labToksG L.lab ++ insToksG L.u L.x).length, s.prog ++ [strip L.x], s.labels ++ lab1 s.prog.length L.lab, s.uses ++ us⟩ ∧ refsOfG s.prog.length L us := by
  have hstop : ∀ (f i : Nat) (ls : Labels), TkAt d i (insToksG L.u L.x) → aLabels d s.prog.length f i ls = .ok (i, ls) := by
    intro f i ls hi
    cases f with
    | zero => rfl
    | succ f => rw [aLabels, if_neg (by rw [insToksG_colon hi]; simp)]
  unfold aInstr
  cases hq : L.lab with
  | some nm =>
    rw [hq] at h
    have h0 : tk d s.i = wordR nm := h.head
    have h1 : isP d (s.i + 1) [58] = true := by unfold isP; rw [h.tail.head]; rfl
    have h2 : TkAt d (s.i + 2) (insToksG L.u L.x) := h.right
    have hl : aLabels d s.prog.length d.length s.i s.labels = .ok (s.i + 2, s.labels ++ [(nm, s.prog.length)]) := by
      obtain ⟨f, hf⟩ : ∃ f, d.length = f + 1 := ⟨d.length - 1, by omega⟩
      rw [hf, aLabels, h0, if_pos ⟨rfl, h1⟩, if_neg (show ¬ 0 ≤ regOf (wordR nm).text from hL.lab nm hq)]
      rw [if_neg (show ¬ (labelAt s.labels (wordR nm).text).isSome = true by show ¬ (labelAt s.labels nm).isSome = true; rw [labelAt_noneG (hlab nm hq)]; decide), hstop _ _ _ h2]
      rfl
    rw [hl]
    simp only
    obtain ⟨us, h3, h4⟩ := aBody_okG (s := ⟨s.i + 2, s.prog, s.labels ++ [(nm, s.prog.length)], s.uses⟩) hL hn h2
    refine ⟨us, ?_, h4⟩
    rw [h3]
    simp only [List.length_append, labToksG, List.length_cons, List.length_nil, lab1]
    congr 2
    omega
  | none =>
    rw [hq] at h
    have h' : TkAt d s.i (insToksG L.u L.x) := h
    rw [hstop _ _ _ h']
    simp only
    obtain ⟨us, h3, h4⟩ := aBody_okG (s := s) hL hn h'
    refine ⟨us, ?_, h4⟩
    rw [h3]
    simp only [labToksG, lab1, List.append_nil, List.nil_append]
def labsG : Nat → List LLine → Labels
  | _, [] => []
  | n, L :: r => lab1 n L.lab ++ labsG (n + 1) r
inductive RefsG : Nat → List LLine → List ARef → Prop
  | nil (n : Nat) : RefsG n [] []
  | cons {n : Nat} {L : LLine} {r : List LLine} {us vs : List ARef} : refsOfG n L us → RefsG (n + 1) r vs → RefsG n (L :: r) (us ++ vs)
theorem insToksG_len (u : List UInt8) (x : Ins) : 2 ≤ (insToksG u x).length := by simp only [insToksG, List.length_cons, List.length_append, List.length_nil]; omega
theorem linesG_len : ∀ (r : List LLine), 2 * r.length ≤ (linesG r).length
  | [] => by simp [linesG]
  | L :: r => by
    have := linesG_len r
    have := insToksG_len L.u L.x
    simp only [linesG, List.length_append, List.length_cons]
    omega
theorem aAll_okG {d : List Tok} : ∀ (r : List LLine) (f : Nat) (s : ASt), r.length ≤ f → (∀ L ∈ r, LineOk L) → s.prog.length + r.length ≤ 4096 → ((s.labels ++ labsG s.prog.length r).map (·.1)).Nodup → TkAt d s.i (linesG r) → d.length = s.i + (linesG r).length →
    ∃ us, aAll d f s = .ok ⟨d.length, s.prog ++ r.map (fun L => strip L.x), s.labels ++ labsG s.prog.length r, s.uses ++ us⟩ ∧ RefsG s.prog.length r us
  | [], f, s, _, _, _, _, _, hd => by
    refine ⟨[], ?_, .nil _⟩
    have hi : s.i = d.length := by rw [hd]; simp [linesG]
    have : aAll d f s = .ok s := by
      cases f with
      | zero => rfl
      | succ f => rw [aAll, if_neg (by omega)]
    rw [this]
    obtain ⟨i, pr, ls, us⟩ := s
    simp only at hi
    subst hi
    simp [labsG]
  | L :: r, f, s, hf, hx, hn, hl, ht, hd => by
    obtain ⟨f, rfl⟩ : ∃ g, f = g + 1 := ⟨f - 1, by simp only [List.length_cons] at hf; omega⟩
    simp only [List.length_cons] at hf hn
    have hlen : (linesG (L :: r)).length = (labToksG L.lab ++ insToksG L.u L.x).length + (linesG r).length := by simp [linesG, Nat.add_assoc]
    have h2 := insToksG_len L.u L.x
    have hlen2 : 2 ≤ (labToksG L.lab ++ insToksG L.u L.x).length := by rw [List.length_append]; omega
    have ht' : TkAt d s.i ((labToksG L.lab ++ insToksG L.u L.x) ++ linesG r) := by rw [List.append_assoc]; exact ht
    have hl' : (((s.labels ++ lab1 s.prog.length L.lab) ++ labsG (s.prog.length + 1) r).map (·.1)).Nodup := by rw [List.append_assoc]; exact hl
    obtain ⟨us, h3, h4⟩ := aInstr_okG (s := s) (hx L (by simp)) (by omega) (by
      intro nm hnm x hx e
      rw [List.map_append, List.map_append] at hl'
      have h5 := (List.nodup_append.1 hl').1
      rw [List.nodup_append] at h5
      exact h5.2.2 x.1 (List.mem_map_of_mem hx) nm (by rw [hnm]; simp [lab1]) e) (by omega) ht'.left
    rw [aAll, if_pos (by omega), h3]
    simp only
    have hpl : (s.prog ++ [strip L.x]).length = s.prog.length + 1 := by simp
    obtain ⟨vs, h5, h6⟩ := aAll_okG r f ⟨s.i + (labToksG L.lab ++ insToksG L.u L.x).length, s.prog ++ [strip L.x], s.labels ++ lab1 s.prog.length L.lab, s.uses ++ us⟩ (by omega) (fun y hy => hx y (by simp [hy])) (by simp only; rw [hpl]; omega)
      (by simp only; rw [hpl]; exact hl') (by simp only; exact ht'.right) (by simp only; omega)
    refine ⟨us ++ vs, ?_, .cons h4 (by simp only at h6; rw [hpl] at h6; exact h6)⟩
    rw [h5]
    simp only [List.append_assoc, List.map_cons, List.singleton_append, labsG]
    rw [hpl]
/-- The targets are filled in. -/
theorem aFix_okG {ls : Labels} {N : Nat} {y : LLine → Ins} :
    ∀ (r : List LLine) (n : Nat) (us : List ARef), RefsG n r us → (∀ L ∈ r, (uses L.x.op 116 = true → ¬ L.u = [] ∧ ∃ k, labelAt ls L.u = some k ∧ k < N ∧ y L = { L.x with imm := (k : Int) }) ∧ (¬ uses L.x.op 116 = true → y L = L.x)) → ∀ done, done.length = n → aFix ls N us (done ++ r.map (fun L => strip L.x)) = .ok (done ++ r.map y)
  | [], n, us, h, _, done, _ => by
    cases h
    simp [aFix]
  | L :: r, n, us, h, ht, done, hd => by
    cases h with
    | @cons _ _ _ us vs h1 h2 =>
      have ih := aFix_okG (ls := ls) (N := N) (y := y) r (n + 1) vs h2 (fun z hz => ht z (by simp [hz])) (done ++ [y L]) (by simp [hd])
      have e : done ++ [y L] ++ r.map y = done ++ (L :: r).map y := by simp
      rw [e] at ih
      rw [← ih]
      unfold refsOfG at h1
      obtain ⟨ta, tb⟩ := ht L (by simp)
      by_cases hu : uses L.x.op 116 = true
      · rw [if_pos hu] at h1
        obtain ⟨k, rfl⟩ := h1
        obtain ⟨hne, k1, hla, hlt, hy⟩ := ta hu
        have hg : (done ++ (L :: r).map fun L => strip L.x).getD n ⟨0, 0, 0, 0, 0⟩ = strip L.x := by
          rw [List.getD_eq_getElem?_getD, List.getElem?_append_right (by omega), hd, Nat.sub_self]; rfl
        rw [List.singleton_append, aFix, if_neg hne]
        simp only
        rw [hla]
        simp only
        rw [if_neg (by omega), hg]
        congr 1
        rw [List.map_cons, ← hd, List.set_append_right _ _ (Nat.le_refl _), Nat.sub_self, List.set_cons_zero]
        have : ({ strip L.x with imm := (k1 : Int) } : Ins) = y L := by
          rw [hy]; unfold strip; rw [if_pos hu]
        rw [this]
        simp
      · rw [if_neg hu] at h1
        subst h1
        rw [List.nil_append]
        congr 1
        have : strip L.x = y L := by unfold strip; rw [if_neg hu, tb hu]
        rw [List.map_cons, this]
        simp
/-- A label that is not defined. -/
theorem aFix_badG {ls : Labels} {N : Nat} : ∀ (r : List LLine) (n : Nat) (us : List ARef), RefsG n r us → (∀ L ∈ r, uses L.x.op 116 = true → ¬ L.u = [] ∧ labelAt ls L.u = none) → (∃ L ∈ r, uses L.x.op 116 = true) → ∀ q, ∃ e, aFix ls N us q = .error (e, 72)
  | [], _, _, _, _, h, _ => by obtain ⟨L, hL, _⟩ := h; cases hL
  | L :: r, n, us, h, ht, hex, q => by
    cases h with
    | @cons _ _ _ us vs h1 h2 =>
      unfold refsOfG at h1
      by_cases hu : uses L.x.op 116 = true
      · rw [if_pos hu] at h1
        obtain ⟨k, rfl⟩ := h1
        obtain ⟨hne, hla⟩ := ht L (by simp) hu
        rw [List.singleton_append, aFix, if_neg hne]
        simp only
        rw [hla]
        exact ⟨k, rfl⟩
      · rw [if_neg hu] at h1
        subst h1
        rw [List.nil_append]
        refine aFix_badG r (n + 1) vs h2 (fun z hz => ht z (by simp [hz])) ?_ q
        obtain ⟨M, hM, hm⟩ := hex
        rcases List.mem_cons.1 hM with rfl | hM
        · exact absurd hm hu
        · exact ⟨M, hM, hm⟩
theorem labelAt_memG {ls : Labels} {s : List UInt8} {k : Nat} (h : (ls.map (·.1)).Nodup) (hm : (s, k) ∈ ls) : labelAt ls s = some k := by
  induction ls with
  | nil => cases hm
  | cons a r ih =>
    rw [List.map_cons, List.nodup_cons] at h
    unfold labelAt
    rw [List.find?_cons]
    rcases List.mem_cons.1 hm with e | hr
    · rw [← e]; simp
    · have hne : ¬ a.1 = s := fun e => h.1 (by rw [e]; exact List.mem_map_of_mem (f := fun x : List UInt8 × Nat => x.1) hr)
      have := ih h.2 hr
      unfold labelAt at this
      simp only [hne, decide_false]
      exact this
/-- Tokens that are those of lines. -/
theorem asm_lines {d : List Tok} {r : List LLine} (hn : 1 ≤ r.length ∧ r.length ≤ 4096) (hx : ∀ L ∈ r, LineOk L) (hl : ((labsG 0 r).map (·.1)).Nodup) (h : d.map (·.raw) = linesG r) :
    ∃ s, aAll d d.length ⟨0, [], [], []⟩ = .ok s ∧ ¬ s.prog = [] ∧
      (∀ y : LLine → Ins, (∀ L ∈ r, (uses L.x.op 116 = true → ∃ k, (L.u, k) ∈ labsG 0 r ∧ k < r.length ∧ y L = { L.x with imm := (k : Int) }) ∧ (¬ uses L.x.op 116 = true → y L = L.x)) → aResolve s = .ok (r.map y)) ∧
      ((∀ L ∈ r, uses L.x.op 116 = true → ∀ x ∈ labsG 0 r, ¬ x.1 = L.u) → (∃ L ∈ r, uses L.x.op 116 = true) → ∃ e, aResolve s = .error (e, 72)) := by
  have hlen : d.length = (linesG r).length := by rw [← h]; simp
  have h2 := linesG_len r
  obtain ⟨us, h3, h4⟩ := aAll_okG (d := d) r d.length ⟨0, [], [], []⟩ (by omega) hx (by simp; omega) (by simpa using hl) (TkAt.of h) (by simp [hlen])
  refine ⟨_, h3, ?_, fun y hy => ?_, fun hb he => ?_⟩
  · simp only [List.nil_append]
    intro q
    have := congrArg List.length q
    simp at this
    subst this; simp at hn
  · unfold aResolve
    simp only [List.nil_append, List.length_nil, List.length_map] at h4 ⊢
    have := aFix_okG (ls := labsG 0 r) (N := r.length) (y := y) r 0 us h4 (fun L hL => ⟨fun hu => ⟨((hx L hL).u hu).2, by
      obtain ⟨k, h5, h6, h7⟩ := (hy L hL).1 hu
      exact ⟨k, labelAt_memG hl h5, h6, h7⟩⟩, (hy L hL).2⟩) [] rfl
    simpa using this
  · unfold aResolve
    simp only [List.nil_append, List.length_nil, List.length_map] at h4 ⊢
    exact aFix_badG r 0 us h4 (fun L hL hu => ⟨((hx L hL).u hu).2, labelAt_noneG (hb L hL hu)⟩) he _
end Go.Proofs.YtemigcdieghkfabDoor
