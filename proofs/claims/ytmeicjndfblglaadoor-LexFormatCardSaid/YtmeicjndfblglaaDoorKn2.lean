/- More operations on known blocks. Nothing of the program is imported. -/
import Derived.Test.YtmeicjndfblglaaDoorAppend
import Derived.Test.YtmeicjndfblglaaDoorEqual
set_option linter.unusedVariables false
set_option linter.unusedSimpArgs false
set_option linter.unusedSectionVars false
namespace Go.Proofs.YtmeicjndfblglaaDoor
open Go Go.RowKit Go.BigFrame
section
variable {P : Program} {ops : Array Oper} {rest : List Oper} {op : Oper} {a : Act} {w W : World} {K : Act → World → Prop} {Q : Exit → Act → World → Prop} {M : List Nat} {l l' : Ents}
theorem wp_kn_alloc (KN : Kn M W w l) (T : TypeId) (ho : op.op = .alloc T) (d : Tmp) (hd : op.dst = some d) (cs : Array Value) (hz : ((P.info? T).bind (·.zero)).map (·.cells) = some cs)
    (h : ∀ g w', W.heap.size ≤ g → Kn M W w' ((g, At cs T) :: l) → Below w.heap.size w w' → K (a.put (some d) (.pointer (some ⟨g, 0, none⟩))) w') : op.wp P a w K Q := by
  cases hq : P.info? T with
  | none => simp [hq] at hz
  | some i =>
    cases hzz : i.zero with
    | none => simp [hq, hzz] at hz
    | some z =>
      have hzc : z.cells = cs := by simpa [hq, hzz] using hz
      unfold Oper.wp execOp
      simp [ho, Sem.run_bind, Instr.alloc, zeroValue, typeInfo, hq, hzz, newVar, newRow, run_newObj_alloc, hzc]
      rw [Oper.upon_value, hd]
      exact h _ _ KN.size (KN.alloc (.cells cs T) rfl) ((Below.refl _ _).alloc (Nat.le_refl _) _)
/-- A slice literal. -/
theorem wpList_kn_lit (KN : Kn M W w l) (hg : op.guard = none) (t e : TypeId) (len : Nat) (parts : Array (Nat × Operand)) (ho : op.op = .buildSlice t len parts) (d : Tmp) (hd : op.dst = some d) (hu : P.underlying t = some (.slice e)) (cells : Array Value)
    (hf : P.builtSlice e len (parts.map fun (i, x) => (i, a.eval x)).toList = some cells)
    (h : ∀ g w', W.heap.size ≤ g → Kn M W w' ((g, At cells e) :: l) → wpList P ops Q rest (a.put (some d) (.slice (some ⟨g, 0, none⟩) len len)) w') : wpList P ops Q (op :: rest) a w :=
  Go.Great.wpList_buildSliceTo hg t e len parts ho _ rfl (some d) hd hu cells hf (h _ _ KN.size (KN.alloc (.cells cells e) rfl))
end
theorem Row.of_blk {w : World} {g : Nat} {cs : Array Value} {T : TypeId} {sz n : Nat} {L : List (List Value)} (h : BlkT w g cs T) (hcs : cs = L.flatten.toArray) (hl : ∀ c ∈ L, c.length = sz) (hn : n = L.length) (hm : L.length ≤ maxLen) (h0 : 0 < L.length) : Row w (.slice (some ⟨g, 0, none⟩) n n) sz L := by
  subst hn
  refine ⟨hm, .inr ⟨g, 0, L.length, rfl, h0, Nat.le_refl _, hm, blk_lt h, fun i c j x hi hj => ?_⟩⟩
  rw [Nat.zero_add, blk_cell h, hcs]
  have hjl : j < sz := by have := (List.getElem?_eq_some_iff.1 hj).1; rw [hl c (List.mem_of_getElem? hi)] at this; exact this
  have := flat_get sz L hl i j c hi hjl
  simp only [List.getElem?_toArray, this, hj]
end Go.Proofs.YtmeicjndfblglaaDoor
