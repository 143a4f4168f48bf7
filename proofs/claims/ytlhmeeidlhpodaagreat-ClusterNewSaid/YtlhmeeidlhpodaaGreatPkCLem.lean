/- More operations of drawn regions: a struct that is built, a box, a slice that is made. Nothing of the program is imported. -/
import Derived.Test.YtlhmeeidlhpodaaGreatPkGenJ
import Derived.Laws.Tables
import Derived.Laws.OwnMore
set_option linter.unusedVariables false
set_option linter.unusedSimpArgs false
set_option linter.unusedSectionVars false
namespace Go.Proofs.YtlhmeeidlhpodaaGreat
open Go Go.RowKit Go.BigFrame
section
variable {P : Program} {ops : Array Oper} {rest : List Oper} {op : Oper} {a : Act} {w W : World} {K : Act → World → Prop} {Q : Exit → Act → World → Prop} {M : List Nat} {l : Ents}
theorem yields_built {S : World → Prop} (hw : Region.wanted op (yielded ops a.tmps) = true) (t : TypeId) (parts : Array (Nat × Operand)) (ho : op.op = .build t parts) (cells : Array Value) (hf : P.built t (parts.map fun (i, x) => (i, a.eval x)).toList = some cells) :
    YieldsIf P ops S op (.agg cells) a := .inl ⟨hw, fun w _ => by
  have := run_build (P := P) w t (parts.map fun (i, x) => (i, a.eval x)) cells hf
  unfold execOp
  simp only [ho, Sem.run_bind, this, Result.andThen_ok, Sem.run_pure]⟩
theorem wp_kn_box (KN : Kn M W w l) (T : TypeId) (x : Operand) (ho : op.op = .box T x) (d : Tmp) (hd : op.dst = some d) (v : Value) (hx : a.eval x = v) (cs : Array Value) (hz : v.cells = cs)
    (h : ∀ g w', W.heap.size ≤ g → Kn M W w' ((g, At cs T) :: l) → K (a.put (some d) (.pointer (some ⟨g, 0, none⟩))) w') : op.wp P a w K Q := by
  unfold Oper.wp execOp
  simp [ho, hx, Sem.run_bind, Instr.box, newVar, newRow, run_newObj_alloc, hz]
  rw [Oper.upon_value, hd]
  exact h _ _ KN.size (KN.alloc (.cells cs T) rfl)
theorem wp_kn_make (KN : Kn M W w l) (t : TypeId) (x y : Operand) (ho : op.op = .makeSlice t x y) (e : TypeId) (sz bytes : Nat) (ht : P.underlying t = some (.slice e))
    (hinfo : (P.info? e).map (fun i => (i.size, i.bytes, i.zero.map (·.cells.size))) = some (sz, bytes, some sz)) (n c : Nat) (kx ky : IntKind) (hx : a.eval x = .int kx (n : Int)) (hy : a.eval y = .int ky (c : Int)) (hnc : n ≤ c) (hb : bytes * c ≤ 281474976710656) (h63 : c ≤ maxLen)
    (h : ∀ g w' cs, W.heap.size ≤ g → cs = madeCells (((P.info? e).bind (·.zero)).map (·.cells) |>.getD #[]) (c * sz) → Kn M W w' ((g, At cs e) :: l) → K (a.put op.dst (.slice (some ⟨g, 0, none⟩) n c)) w') : op.wp P a w K Q := by
  obtain ⟨i, z, hi, hz, hsize, hby, hzs⟩ := info_of hinfo
  subst hsize
  subst hby
  have h63' : (c : Int) ≤ 9223372036854775807 := by
    have h := h63
    simp [maxLen] at h
    omega
  have hb' : (i.bytes : Int) * (c : Int) ≤ 281474976710656 := by
    have h : ((i.bytes * c : Nat) : Int) ≤ 281474976710656 := by omega
    rwa [Int.natCast_mul] at h
  have hr := run_make (P := P) w t e i z ht hi hz kx ky n c (by omega) (by omega) hb' h63'
  simp only [Int.toNat_natCast] at hr
  unfold Oper.wp
  simp [execOp, ho, hx, hy, hr, Result.andThen]
  exact h _ _ _ KN.size (by simp [hi, hz]) (KN.alloc (.cells (madeCells z.cells (c * i.size)) e) rfl)
/-- A made slice of one-cell elements: so many zeros. -/
theorem made_one (z : Value) (n : Nat) : (madeCells #[z] (n * 1)).size = n ∧ ∀ (i : Nat) (x : Value), (madeCells #[z] (n * 1))[i]? = some x → x = z := by
  rw [Nat.mul_one]
  refine ⟨size_madeCells _ _, fun i x hx => ?_⟩
  rw [← Array.getElem?_toList, toList_madeCells_one, List.getElem?_replicate] at hx
  split at hx
  · exact (Option.some.inj hx).symm
  · cases hx
end
end Go.Proofs.YtlhmeeidlhpodaaGreat
