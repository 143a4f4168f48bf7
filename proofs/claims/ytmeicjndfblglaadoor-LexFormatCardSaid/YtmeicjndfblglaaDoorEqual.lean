/- A plain value equals itself. Nothing of the program is imported. -/
import Derived.Test.YtmeicjndfblglaaDoorKn
import Derived.Laws.StructEq
import Derived.DeepKeys
set_option linter.unusedVariables false
set_option linter.unusedSimpArgs false
set_option linter.unusedSectionVars false
namespace Go.Proofs.YtmeicjndfblglaaDoor
open Go Go.RowKit Go.BigFrame

def partV (P : Program) (t : TypeId) (cs : Array Value) (off : Nat) : Option Value :=
  match P.underlying t with
  | some d => if d.isRow = true then (P.info? t).map fun i => .agg (cs.extract off (off + i.size)) else cs[off]?
  | none => none
/-- A value of bools, integers and strings, laid as its type says. -/
def plainV (P : Program) : Nat → TypeId → Value → Bool
  | 0, _, _ => false
  | d + 1, t, v => match P.underlying t, v with
    | some .bool, .bool _ => true
    | some (.int _), .int _ _ => true
    | some .string, .string _ => true
    | some (.struct fs), .agg xs => !P.stoodInHeld t && fs.toList.all fun f => f.name == "_" || (match partV P f.type xs f.offset with | some a => plainV P d f.type a | none => false)
    | some (.array n e), .agg xs => (P.info? e).isSome && (List.range n).all fun i => match partV P e xs (i * P.cellsOf e) with | some a => plainV P d e a | none => false
    | _, _ => false
theorem run_part {P : Program} {t : TypeId} {cs : Array Value} {off : Nat} {a : Value} (w : World) (h : partV P t cs off = some a) : (part t cs off).run P w = .ok a w := by
  unfold partV at h
  cases hu : P.underlying t with
  | none => simp [hu] at h
  | some d =>
    simp only [hu] at h
    by_cases hd : d.isRow = true
    · rw [if_pos hd] at h
      cases hi : P.info? t with
      | none => simp [hi] at h
      | some i =>
        simp only [hi, Option.map_some, Option.some.injEq] at h
        subst h
        have hagg : (isAgg t).run P w = .ok true w := by
          unfold isAgg
          rw [Sem.run_bind, run_underlying hu w]
          cases d <;> simp_all
        simp [part, hagg, sizeOf, typeInfo, hi]
    · rw [if_neg hd] at h
      have hagg : (isAgg t).run P w = .ok false w := by
        unfold isAgg
        rw [Sem.run_bind, run_underlying hu w]
        cases d <;> simp_all
      simp [part, hagg, h]
theorem run_eqFields_same {P : Program} (d : Nat) (xs : Array Value) (w : World) : ∀ (fs : List Field), (∀ f ∈ fs, f.name = "_" ∨ ∃ a, (part f.type xs f.offset).run P w = .ok a w ∧ (Op.equalIn d f.type a a).run P w = .ok true w) → (Op.eqFields d xs xs fs).run P w = .ok true w
  | [], _ => by simp [Op.eqFields]
  | f :: fs, h => by
    have ih := run_eqFields_same d xs w fs (fun g hg => h g (by simp [hg]))
    rcases h f (by simp) with hf | ⟨a, h1, h2⟩
    · simp only [Op.eqFields, hf, ne_eq, not_true_eq_false, if_false]; exact ih
    · by_cases hn : f.name = "_"
      · simp only [Op.eqFields, hn, ne_eq, not_true_eq_false, if_false]; exact ih
      · simp only [Op.eqFields, hn, ne_eq, not_false_eq_true, if_true, Sem.run_bind, h1, h2, Result.andThen_ok, Bool.not_true, Bool.false_eq_true, if_false]; exact ih
theorem run_eqItems_same {P : Program} (d : Nat) (e : TypeId) (n : Nat) (xs : Array Value) (w : World) : ∀ (is : List Nat), (∀ i ∈ is, ∃ a, (part e xs (i * n)).run P w = .ok a w ∧ (Op.equalIn d e a a).run P w = .ok true w) → (Op.eqItems d e n xs xs is).run P w = .ok true w
  | [], _ => by simp [Op.eqItems]
  | i :: is, h => by
    have ih := run_eqItems_same d e n xs w is (fun g hg => h g (by simp [hg]))
    obtain ⟨a, h1, h2⟩ := h i (by simp)
    simp only [Op.eqItems, Sem.run_bind, h1, h2, Result.andThen_ok, Bool.not_true, Bool.false_eq_true, if_false]; exact ih
theorem equal_same {P : Program} (w : World) (D : Nat) : ∀ (m : Nat) (t : TypeId) (v : Value), plainV P m t v = true → (Op.equalIn (D + m) t v v).run P w = .ok true w
  | 0, _, _, h => by simp [plainV] at h
  | m + 1, t, v, h => by
    unfold plainV at h
    rw [show D + (m + 1) = (D + m) + 1 from rfl]
    cases hu : P.underlying t with
    | none => simp [hu] at h
    | some kd =>
      simp only [hu] at h
      cases kd with
      | bool =>
        cases v <;> simp at h
        simp [Op.equalIn, run_underlying hu]
      | int q =>
        cases v <;> simp at h
        simp [Op.equalIn, run_underlying hu]
      | string =>
        cases v <;> simp at h
        simp [Op.equalIn, run_underlying hu, beq_toListBytes]
      | struct fs =>
        cases v with
        | agg xs =>
          simp only [Bool.and_eq_true, Bool.not_eq_true', List.all_eq_true, Bool.or_eq_true, beq_iff_eq] at h
          have hfs : P.fieldsOf t = fs := by simp [Program.fieldsOf, hu]
          rw [run_equalIn_struct w (D + m) t xs xs (by rw [hfs]; exact hu) h.1, hfs]
          refine run_eqFields_same _ _ _ _ (fun f hf => ?_)
          rcases h.2 f hf with hn | hp
          · exact .inl hn
          · cases hq : partV P f.type xs f.offset with
            | none => rw [hq] at hp; cases hp
            | some a =>
              rw [hq] at hp
              exact .inr ⟨a, run_part w hq, equal_same w D m f.type a hp⟩
        | _ => simp at h
      | array n e =>
        cases v with
        | agg xs =>
          simp only [Bool.and_eq_true, List.all_eq_true, Option.isSome_iff_exists] at h
          obtain ⟨⟨i, hi⟩, h⟩ := h
          rw [run_equalIn_array w (D + m) xs xs hu hi]
          refine run_eqItems_same _ _ _ _ _ _ (fun j hj => ?_)
          have hp := h j hj
          have hc : P.cellsOf e = i.size := by simp [Program.cellsOf, hi]
          cases hq : partV P e xs (j * P.cellsOf e) with
          | none => rw [hq] at hp; cases hp
          | some a =>
            rw [hq] at hp
            first
              | exact ⟨a, run_part w hq, equal_same w D m e a hp⟩
              | exact ⟨a, run_part w (by rw [← hc]; exact hq), equal_same w D m e a hp⟩
        | _ => simp at h
      | _ => simp at h
section
variable {P : Program} {ops : Array Oper} {rest : List Oper} {op : Oper} {a : Act} {w : World} {K : Act → World → Prop} {Q : Exit → Act → World → Prop}
theorem run_eql_same (m : Nat) (hm : m ≤ 10000) (t : TypeId) (xs : Array Value) (hp : plainV P m t (.agg xs) = true) : (binOp .eql t (.agg xs) (.agg xs)).run P w = .ok (.bool true) w := by
  have := equal_same (P := P) w (10000 - m) m t (.agg xs) hp
  rw [show 10000 - m + m = 10000 from by omega] at this
  rw [run_eql_struct, this]; rfl
theorem run_neq_same (m : Nat) (hm : m ≤ 10000) (t : TypeId) (xs : Array Value) (hp : plainV P m t (.agg xs) = true) : (binOp .neq t (.agg xs) (.agg xs)).run P w = .ok (.bool false) w := by
  have := equal_same (P := P) w (10000 - m) m t (.agg xs) hp
  rw [show 10000 - m + m = 10000 from by omega] at this
  rw [run_neq_struct, this]; rfl
def isCmp : Op → Bool
  | .binOp .neq .. | .binOp .eql .. => true
  | _ => false
theorem gate_cmp (_hm : isCmp op.op = true) (h : wpList P ops Q (op :: rest) a w) : wpList P ops Q (op :: rest) a w := h
/-- A struct compared with itself. -/
theorem wp_kn_neq (t t2 : TypeId) (x y : Operand) (ho : op.op = .binOp .neq t x y t2) (xs : Array Value) (hx : a.eval x = .agg xs) (hy : a.eval y = .agg xs) (hg : P.eqGuardType P.depth t = false) (hp : plainV P 10 t (.agg xs) = true)
    (h : K (a.put op.dst (.bool false)) w) : op.wp P a w K Q := by
  unfold Oper.wp execOp
  simp only [ho, hx, hy, Sem.run_bind, run_eqGuard_agg w .neq t x y xs xs hg, Result.andThen_ok, run_neq_same 10 (by decide) t xs hp, Sem.run_pure]
  exact h
theorem wpList_kn_neq (hw : Region.wanted op (yielded ops a.tmps) = true) (t t2 : TypeId) (x y : Operand) (ho : op.op = .binOp .neq t x y t2) (xs : Array Value) (hx : a.eval x = .agg xs) (hy : a.eval y = .agg xs) (hg : P.eqGuardType P.depth t = false) (hp : plainV P 10 t (.agg xs) = true)
    (h : wpList P ops Q rest (a.put op.dst (.bool false)) w) : wpList P ops Q (op :: rest) a w :=
  wpList_want hw fun _ hK => wp_kn_neq t t2 x y ho xs hx hy hg hp (hK _ _ h)
theorem wp_kn_eql (t t2 : TypeId) (x y : Operand) (ho : op.op = .binOp .eql t x y t2) (xs : Array Value) (hx : a.eval x = .agg xs) (hy : a.eval y = .agg xs) (hg : P.eqGuardType P.depth t = false) (hp : plainV P 10 t (.agg xs) = true)
    (h : K (a.put op.dst (.bool true)) w) : op.wp P a w K Q := by
  unfold Oper.wp execOp
  simp only [ho, hx, hy, Sem.run_bind, run_eqGuard_agg w .eql t x y xs xs hg, Result.andThen_ok, run_eql_same 10 (by decide) t xs hp, Sem.run_pure]
  exact h
theorem wpList_kn_eql (hw : Region.wanted op (yielded ops a.tmps) = true) (t t2 : TypeId) (x y : Operand) (ho : op.op = .binOp .eql t x y t2) (xs : Array Value) (hx : a.eval x = .agg xs) (hy : a.eval y = .agg xs) (hg : P.eqGuardType P.depth t = false) (hp : plainV P 10 t (.agg xs) = true)
    (h : wpList P ops Q rest (a.put op.dst (.bool true)) w) : wpList P ops Q (op :: rest) a w :=
  wpList_want hw fun _ hK => wp_kn_eql t t2 x y ho xs hx hy hg hp (hK _ _ h)
theorem kn_yields_neq {S : World → Prop} (hw : Region.wanted op (yielded ops a.tmps) = true) (t t2 : TypeId) (x y : Operand) (ho : op.op = .binOp .neq t x y t2) (xs : Array Value) (hx : a.eval x = .agg xs) (hy : a.eval y = .agg xs) (hg : P.eqGuardType P.depth t = false) (hp : plainV P 10 t (.agg xs) = true) : YieldsIf P ops S op (.bool false) a :=
  .inl ⟨hw, fun w _ => by
    unfold execOp
    simp only [ho, hx, hy, Sem.run_bind, run_eqGuard_agg w .neq t x y xs xs hg, Result.andThen_ok, run_neq_same 10 (by decide) t xs hp, Sem.run_pure]⟩
end
end Go.Proofs.YtmeicjndfblglaaDoor
