/- What the reference's assembler relies on behind the reading: a used label's kind follows from the operation. Plain. -/
import Derived.Test.YtemigcdieghkfaaDoorPkAsrPlain2
import Derived.Test.YtemigcdieghkfaaDoorPkAsmRI
set_option linter.unusedVariables false
set_option linter.unusedSimpArgs false
set_option linter.unusedSectionVars false
namespace Go.Proofs.YtemigcdieghkfaaDoor
open Go Go.RowKit

structure AsrInv (d : List Tok) (s : ASt) : Prop where
  op : ∀ x ∈ s.prog, 0 ≤ x.op ∧ x.op ≤ 27
  tg : ∀ u ∈ s.uses, ∀ x, s.prog[u.instr]? = some x → u.target = uses x.op 116
  pos : ∀ u ∈ s.uses, u.at_ < d.length
theorem aImm_tg {d : List Tok} {n : Nat} {tg : Bool} {i j : Nat} {v : Int} {vs : List ARef} (h : aImm d n tg i = .ok (v, j, vs)) : ∀ z ∈ vs, z.target = tg ∧ z.at_ < d.length := by
  have key : ∀ (a : Int) (b : Nat) (l : List ARef), (Except.ok (a, b, l) : Except AErr (Int × Nat × List ARef)) = .ok (v, j, vs) → (∀ z ∈ l, z.target = tg ∧ z.at_ < d.length) → ∀ z ∈ vs, z.target = tg ∧ z.at_ < d.length := by
    intro a b l e hl
    injection e with e
    simp only [Prod.mk.injEq] at e
    obtain ⟨_, _, rfl⟩ := e
    exact hl
  unfold aImm at h
  split at h
  · rename_i hk
    have hlt := kind_lt (d := d) (i := i) (by rw [hk]; decide)
    split at h
    · cases h
    · exact key _ _ _ h (by simpa using hlt)
  · split at h
    · split at h
      · cases h
      · split at h
        · cases h
        · exact key _ _ _ h (by simp)
    · split at h
      · cases h
      · rename_i hk
        have hlt := kind_lt (d := d) (i := i) (by rw [Classical.not_not.1 hk]; decide)
        split at h
        · cases h
        · exact key _ _ _ h (by cases tg <;> simp [hlt])
def OpLet (c : UInt8) : Prop := c = 97 ∨ c = 98 ∨ c = 99 ∨ c = 105 ∨ c = 116
theorem aOperand_tg {d : List Tok} {n : Nat} {c : UInt8} {x y : Ins} {i j : Nat} {vs : List ARef} (hc : OpLet c) (h : aOperand d n c x i = .ok (y, j, vs)) : y.op = x.op ∧ ∀ z ∈ vs, ((c = 105 ∧ z.target = false) ∨ (c = 116 ∧ z.target = true)) ∧ z.at_ < d.length := by
  have kr : ∀ (f : Int → Ins), (∀ r, (f r).op = x.op) → (match aReg d i with | .error e => Except.error e | .ok r => .ok (f r, i + 1, [])) = (Except.ok (y, j, vs) : Except AErr (Ins × Nat × List ARef)) → y.op = x.op ∧ ∀ z ∈ vs, ((c = 105 ∧ z.target = false) ∨ (c = 116 ∧ z.target = true)) ∧ z.at_ < d.length := by
    intro f hf e
    cases hr : aReg d i with
    | error e' => rw [hr] at e; cases e
    | ok r =>
      rw [hr] at e
      injection e with e
      simp only [Prod.mk.injEq] at e
      obtain ⟨rfl, _, rfl⟩ := e
      exact ⟨hf r, by simp⟩
  have kv : ∀ (tg : Bool), (match aImm d n tg i with | .error e => Except.error e | .ok (v, j, us) => .ok (({ x with imm := v } : Ins), j, us)) = (Except.ok (y, j, vs) : Except AErr (Ins × Nat × List ARef)) → y.op = x.op ∧ ∀ z ∈ vs, z.target = tg ∧ z.at_ < d.length := by
    intro tg e
    cases hr : aImm d n tg i with
    | error e' => rw [hr] at e; cases e
    | ok r =>
      obtain ⟨v, j', us⟩ := r
      rw [hr] at e
      injection e with e
      simp only [Prod.mk.injEq] at e
      obtain ⟨rfl, _, rfl⟩ := e
      exact ⟨rfl, aImm_tg hr⟩
  rcases hc with rfl | rfl | rfl | rfl | rfl
  · exact kr (fun r => { x with a := r }) (fun _ => rfl) h
  · exact kr (fun r => { x with b := r }) (fun _ => rfl) h
  · exact kr (fun r => { x with c := r }) (fun _ => rfl) h
  · obtain ⟨h1, h2⟩ := kv false h
    exact ⟨h1, fun z hz => ⟨.inl ⟨rfl, (h2 z hz).1⟩, (h2 z hz).2⟩⟩
  · obtain ⟨h1, h2⟩ := kv true h
    exact ⟨h1, fun z hz => ⟨.inr ⟨rfl, (h2 z hz).1⟩, (h2 z hz).2⟩⟩
theorem aOperands_tg {d : List Tok} {n : Nat} : ∀ (l : List UInt8) (b : Bool) (x y : Ins) (i j : Nat) (us vs : List ARef), (∀ c ∈ l, OpLet c) → aOperands d n b l x i us = .ok (y, j, vs) →
    y.op = x.op ∧ ∀ z ∈ vs, z ∈ us ∨ (z.instr = n ∧ z.at_ < d.length ∧ ((105 ∈ l ∧ z.target = false) ∨ (116 ∈ l ∧ z.target = true)))
  | [], b, x, y, i, j, us, vs, hl, h => by
    rw [aOps_nil] at h
    cases h
    exact ⟨rfl, fun z hz => .inl hz⟩
  | c :: l, b, x, y, i, j, us, vs, hl, h => by
    have key : ∀ i', aStep d n l us (aOperand d n c x i') = .ok (y, j, vs) → y.op = x.op ∧ ∀ z ∈ vs, z ∈ us ∨ (z.instr = n ∧ z.at_ < d.length ∧ ((105 ∈ c :: l ∧ z.target = false) ∨ (116 ∈ c :: l ∧ z.target = true))) := by
      intro i' h
      cases ho : aOperand d n c x i' with
      | error e => rw [ho] at h; cases h
      | ok z =>
        obtain ⟨x2, j2, ws⟩ := z
        rw [ho] at h
        obtain ⟨h1, h2⟩ := aOperand_tg (hl c (List.mem_cons_self ..)) ho
        have h3 := aOperand_ref ho
        obtain ⟨g1, g2⟩ := aOperands_tg l false x2 y j2 j (us ++ ws) vs (fun c' hc' => hl c' (List.mem_cons_of_mem _ hc')) h
        refine ⟨g1.trans h1, fun z hz => ?_⟩
        rcases g2 z hz with hm | ⟨e1, hm⟩
        · rw [List.mem_append] at hm
          rcases hm with hm | hm
          · exact .inl hm
          · refine .inr ⟨h3 z hm, (h2 z hm).2, ?_⟩
            rcases (h2 z hm).1 with ⟨rfl, e⟩ | ⟨rfl, e⟩
            · exact .inl ⟨List.mem_cons_self .., e⟩
            · exact .inr ⟨List.mem_cons_self .., e⟩
        · refine .inr ⟨e1, hm.1, ?_⟩
          rcases hm.2 with ⟨a1, a2⟩ | ⟨a1, a2⟩
          · exact .inl ⟨List.mem_cons_of_mem _ a1, a2⟩
          · exact .inr ⟨List.mem_cons_of_mem _ a1, a2⟩
    cases b with
    | true => rw [aOps_first'] at h; exact key i h
    | false =>
      rcases Bool.eq_false_or_eq_true (isP d i [44]) with hp | hp
      · rw [aOps_next' hp] at h; exact key (i + 1) h
      · rw [aOps_comma hp] at h; cases h
theorem opsT_one : ∀ k, k < 28 → 105 ∈ operandsL.getD k [] → ¬ 116 ∈ operandsL.getD k [] := by decide
/-- What an instruction adds. -/
theorem aInstr_shape {d : List Tok} {s s' : ASt} (h : aInstr d s = .ok s') : ∃ (i : Nat) (mn : Int) (x : Ins) (j : Nat) (us : List ARef), s'.prog = s.prog ++ [x] ∧ s'.uses = s.uses ++ us ∧ 0 ≤ mn ∧ mn ≤ 27 ∧ aOperands d s.prog.length true (operandsOf mn) ⟨mn, 0, 0, 0, 0⟩ (i + 1) [] = .ok (x, j, us) := by
  unfold aInstr at h
  cases hlab : aLabels d s.prog.length d.length s.i s.labels with
  | error e => rw [hlab] at h; cases h
  | ok z =>
    obtain ⟨i, ls⟩ := z
    rw [hlab] at h
    replace h : aBody d ⟨i, s.prog, ls, s.uses⟩ = .ok s' := h
    by_cases hk : (tk d i).kind = 1
    · by_cases hm : mnemIx (tk d i).text < 0
      · rw [aBody_mnem (s := ⟨i, s.prog, ls, s.uses⟩) hk hm] at h; cases h
      · by_cases hn : s.prog.length = 4096
        · rw [aBody_many (s := ⟨i, s.prog, ls, s.uses⟩) hk hm hn] at h; cases h
        · rw [aBody_rest (s := ⟨i, s.prog, ls, s.uses⟩) hk hm hn] at h
          cases ho : aOperands d s.prog.length true (operandsOf (mnemIx (tk d i).text)) ⟨mnemIx (tk d i).text, 0, 0, 0, 0⟩ (i + 1) [] with
          | error e => rw [show (⟨i, s.prog, ls, s.uses⟩ : ASt).prog = s.prog from rfl, show (⟨i, s.prog, ls, s.uses⟩ : ASt).i = i from rfl, ho] at h; cases h
          | ok z =>
            obtain ⟨x, j, us⟩ := z
            rw [show (⟨i, s.prog, ls, s.uses⟩ : ASt).prog = s.prog from rfl, show (⟨i, s.prog, ls, s.uses⟩ : ASt).i = i from rfl, ho] at h
            unfold aRest at h
            dsimp only at h
            split at h
            · cases h
              exact ⟨i, _, x, j, us, rfl, rfl, by omega, mnemIx_bd _, ho⟩
            · cases h
    · rw [aBody_word (s := ⟨i, s.prog, ls, s.uses⟩) hk] at h; cases h
theorem AsrInv.instr {d : List Tok} {s s' : ASt} (hs : AsmOk d s) (hi : AsrInv d s) (h : aInstr d s = .ok s') : AsrInv d s' := by
  obtain ⟨i, mn, x, j, us, e1, e2, m0, m1, ho⟩ := aInstr_shape h
  obtain ⟨q, rfl⟩ := Int.eq_ofNat_of_zero_le m0
  have hlt : q < 28 := by omega
  have hol : operandsOf (q : Int) = operandsL.getD q [] := by unfold operandsOf; rw [Int.toNat_natCast]
  obtain ⟨g1, g2⟩ := aOperands_tg _ _ _ _ _ _ _ _ (fun c hc => (opsOf_nat q hlt).2 c hc) ho
  replace g1 : x.op = (q : Int) := g1
  refine ⟨fun y hy => ?_, fun u hu y hy => ?_, fun u hu => ?_⟩
  · rw [e1, List.mem_append] at hy
    rcases hy with hy | hy
    · exact hi.op y hy
    · have : y = x := by simpa using hy
      subst this
      omega
  · rw [e2, List.mem_append] at hu
    rw [e1] at hy
    rcases hu with hu | hu
    · have hlt := hs.ins u hu
      rw [List.getElem?_append_left hlt] at hy
      exact hi.tg u hu y hy
    · rcases g2 u hu with hm | ⟨e3, _, hm⟩
      · cases hm
      · rw [e3, List.getElem?_append_right (Nat.le_refl _), Nat.sub_self] at hy
        have : x = y := by simpa using hy
        subst this
        unfold uses
        rw [g1, hol]
        rw [hol] at hm
        rcases hm with ⟨a1, a2⟩ | ⟨a1, a2⟩
        · have := opsT_one q hlt a1
          rw [a2]
          symm
          rw [Bool.eq_false_iff]
          intro h9
          exact this (List.contains_iff_mem.1 h9)
        · rw [a2]
          symm
          exact List.contains_iff_mem.2 a1
  · rw [e2, List.mem_append] at hu
    rcases hu with hu | hu
    · exact hi.pos u hu
    · rcases g2 u hu with hm | ⟨_, hm, _⟩
      · cases hm
      · exact hm
theorem AsrInv.all {d : List Tok} (hv : ∀ t ∈ d, 0 ≤ t.raw.value ∧ t.raw.value ≤ 18446744073709551615) (hl : ∀ t ∈ d, t.raw.text.length ≤ maxLen) : ∀ (f : Nat) (s s' : ASt), AsmOk d s → AsrInv d s → aAll d f s = .ok s' → AsrInv d s'
  | 0, s, s', _, hi, h => by rw [aAll] at h; cases h; exact hi
  | f + 1, s, s', hs, hi, h => by
    rw [aAll] at h
    split at h
    · cases hI : aInstr d s with
      | error e => rw [hI] at h; cases h
      | ok t =>
        rw [hI] at h
        exact AsrInv.all hv hl f t s' (hs.instr hv hl hI).1 (hi.instr hs hI) h
    · cases h; exact hi
theorem AsrInv.start (d : List Tok) : AsrInv d ⟨0, [], [], []⟩ := ⟨fun x hx => by (cases hx), fun u hu => by (cases hu), fun u hu => by (cases hu)⟩
theorem aBody_labels {d : List Tok} {x y : ASt} (h : aBody d x = .ok y) : y.labels = x.labels := by
  unfold aBody at h
  split at h
  · cases h
  split at h
  · cases h
  split at h
  · cases h
  split at h
  · cases h
  · split at h
    · cases h; rfl
    · cases h
end Go.Proofs.YtemigcdieghkfaaDoor
