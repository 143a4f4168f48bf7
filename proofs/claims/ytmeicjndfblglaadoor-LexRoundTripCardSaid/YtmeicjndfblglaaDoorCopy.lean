/- append([]T(nil), xs...) as an operation of a list. Nothing of the program is imported. -/
import Derived.Test.YtmeicjndfblglaaDoorKn2
set_option linter.unusedVariables false
set_option linter.unusedSimpArgs false
set_option linter.unusedSectionVars false
namespace Go.Proofs.YtmeicjndfblglaaDoor
open Go Go.RowKit Go.BigFrame
theorem info_of {P : Program} {e : TypeId} {sz bytes : Nat} (hinfo : (P.info? e).map (fun i => (i.size, i.bytes, i.zero.map (·.cells.size))) = some (sz, bytes, some sz)) : ∃ i z, P.info? e = some i ∧ i.zero = some z ∧ i.size = sz ∧ i.bytes = bytes ∧ z.cells.size = sz := by
  cases hq : P.info? e with
  | none => simp [hq] at hinfo
  | some i =>
    simp only [hq, Option.map_some, Option.some.injEq, Prod.mk.injEq] at hinfo
    obtain ⟨h1, h2, h3⟩ := hinfo
    cases hzz : i.zero with
    | none => simp [hzz] at h3
    | some z => exact ⟨i, z, rfl, hzz, h1, h2, by simpa [hzz] using h3⟩
section
variable {P : Program} {ops : Array Oper} {rest : List Oper} {op : Oper} {a : Act} {w W : World} {K : Act → World → Prop} {Q : Exit → Act → World → Prop} {M : List Nat} {l : Ents}
theorem wpList_kn_copy (KN : Kn M W w l) (hw : Region.wanted op (yielded ops a.tmps) = true) (s x : Operand) (t : TypeId) (ho : op.op = .call { callee := .builtin .append, args := #[s, x], argTypes := #[t, t] }) (e : TypeId) (sz bytes : Nat)
    (ht : P.underlying t = some (.slice e)) (hinfo : (P.info? e).map (fun i => (i.size, i.bytes, i.zero.map (·.cells.size))) = some (sz, bytes, some sz)) (hsz : 0 < sz)
    (hs : a.eval s = .slice none 0 0) (v : Value) (hx : a.eval x = v) (L : List (List Value)) (hr : Row w v sz L) (hl : ∀ c ∈ L, c.length = sz) (h1 : ∀ c ∈ L, ∀ u ∈ c, u.oneCell' = true) (hb : L.length * bytes ≤ 140737488355328)
    (h : ∀ v' w', Kn M W w' l → Row w' v' sz L → wpList P ops Q rest (a.put op.dst v') w') : wpList P ops Q (op :: rest) a w := by
  obtain ⟨i, z, hi, hz, hsize, hby, hzs⟩ := info_of hinfo
  exact wpList_want hw fun _ hK => wp_kn_copy KN s x t ho e i z sz bytes ht hi hz hsize hby hzs hsz hs v hx L hr hl h1 hb fun v' w' a b => hK _ _ (h v' w' a b)
end
end Go.Proofs.YtmeicjndfblglaaDoor
