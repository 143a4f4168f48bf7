/- Results that lie in blocks; builds whose cells are given. Nothing of the program is imported. -/
import Derived.Test.YtmeicjndfblglaaDoorBlock
import Derived.Laws.Tables
import Derived.Deep.MidRow
set_option linter.unusedVariables false
set_option linter.unusedSimpArgs false
set_option linter.unusedSectionVars false
namespace Go.Proofs.YtmeicjndfblglaaDoor
open Go Go.RowKit

theorem blk_new2 {w : World} {cs : Array Value} {T : TypeId} {g : Nat} (h : g = w.heap.size) : BlkT (w.alloc (.cells cs T)) g cs T := by subst h; exact blk_new w cs T
/-- A build whose cells are given. -/
theorem wpList_built {P : Program} {ops : Array Oper} {rest : List Oper} {o : Oper} {a : Act} {w : World} {Q : Exit → Act → World → Prop} (hg : o.guard = none) (t : TypeId) (parts : Array (Nat × Operand)) (ho : o.op = .build t parts)
    (cells : Array Value) (hf : P.built t (parts.map fun (i, x) => (i, a.eval x)).toList = some cells) (h : wpList P ops Q rest (a.put o.dst (.agg cells)) w) : wpList P ops Q (o :: rest) a w :=
  wpList_build hg t parts ho (by rw [hf]; rfl) (by rw [hf]; exact h)
/-- A whole store, as one operation. -/
theorem wpOp_store_row {P : Program} {op : Oper} {a : Act} {w : World} {K : Act → World → Prop} {Q : Exit → Act → World → Prop} (ty : TypeId) (x y : Operand) (ho : op.op = .store ty x y)
    (g : Nat) (hx : a.eval x = .pointer (some ⟨g, 0, none⟩)) (cs cs0 : Array Value) (t : TypeId) (hy : a.eval y = .agg cs) (hg : BlkT w g cs0 t) (hs : cs.size = cs0.size)
    (hi : (P.info? ty).map (·.size) = some cs.size) (h1 : cs.all (·.oneCell') = true)
    (h : ∀ w1, BlkT w1 g cs t → Only g w w1 → K (a.put op.dst undef) w1) : op.wp P a w K Q := by
  refine wp_store_mid ty x y ho g 0 cs hx hy (fun j hj => ?_) hi h1 (h _ ?_ (only_setCells g _ 0 w))
  · rw [Nat.zero_add, blk_cell hg, blk_free hg, Array.getElem?_eq_getElem (by omega)]; exact ⟨rfl, rfl⟩
  · have := heap_setCells g t cs.toList 0 w cs0 hg
    rwa [putL_all _ _ hs] at this
theorem results_ct {P : Program} {fn : Func} {p s : Tmp} {ty : TypeId} (h : fn.results = #[.cell p ty, .tmp s]) (tmps : Array Value) (w : World) (g : Nat) (cs : Array Value) (v : Value)
    (hp : tmps.getD p undef = .pointer (some ⟨g, 0, none⟩)) (hg : (loadVar ty ⟨g, 0, none⟩).run P w = .ok (.agg cs) w) (hs : tmps.getD s undef = v) :
    (results fn tmps).run P w = .ok (.tuple #[.agg cs, v]) w := by
  have hp' : tmps[p]?.getD undef = .pointer (some ⟨g, 0, none⟩) := by simpa using hp
  have hs' : tmps[s]?.getD undef = v := by simpa using hs
  simp [results, h, hp', hs', asAddr, hg]
theorem results_cc {P : Program} {fn : Func} {p q : Tmp} {ty ty2 : TypeId} (h : fn.results = #[.cell p ty, .cell q ty2]) (tmps : Array Value) (w : World) (g g2 : Nat) (cs cs2 : Array Value)
    (hp : tmps.getD p undef = .pointer (some ⟨g, 0, none⟩)) (hg : (loadVar ty ⟨g, 0, none⟩).run P w = .ok (.agg cs) w) (hp2 : tmps.getD q undef = .pointer (some ⟨g2, 0, none⟩)) (hg2 : (loadVar ty2 ⟨g2, 0, none⟩).run P w = .ok (.agg cs2) w) :
    (results fn tmps).run P w = .ok (.tuple #[.agg cs, .agg cs2]) w := by
  have hp' : tmps[p]?.getD undef = .pointer (some ⟨g, 0, none⟩) := by simpa using hp
  have hq' : tmps[q]?.getD undef = .pointer (some ⟨g2, 0, none⟩) := by simpa using hp2
  simp [results, h, hp', hq', asAddr, hg, hg2]
theorem results_cct {P : Program} {fn : Func} {p q s : Tmp} {ty ty2 : TypeId} (h : fn.results = #[.cell p ty, .cell q ty2, .tmp s]) (tmps : Array Value) (w : World) (g g2 : Nat) (cs cs2 : Array Value) (v : Value)
    (hp : tmps.getD p undef = .pointer (some ⟨g, 0, none⟩)) (hg : (loadVar ty ⟨g, 0, none⟩).run P w = .ok (.agg cs) w) (hp2 : tmps.getD q undef = .pointer (some ⟨g2, 0, none⟩)) (hg2 : (loadVar ty2 ⟨g2, 0, none⟩).run P w = .ok (.agg cs2) w) (hs : tmps.getD s undef = v) :
    (results fn tmps).run P w = .ok (.tuple #[.agg cs, .agg cs2, v]) w := by
  have hp' : tmps[p]?.getD undef = .pointer (some ⟨g, 0, none⟩) := by simpa using hp
  have hq' : tmps[q]?.getD undef = .pointer (some ⟨g2, 0, none⟩) := by simpa using hp2
  have hs' : tmps[s]?.getD undef = v := by simpa using hs
  simp [results, h, hp', hq', hs', asAddr, hg, hg2]
theorem results_ctct {P : Program} {fn : Func} {p q s r : Tmp} {ty ty2 : TypeId} (h : fn.results = #[.cell p ty, .tmp r, .cell q ty2, .tmp s]) (tmps : Array Value) (w : World) (g g2 : Nat) (cs cs2 : Array Value) (v x : Value)
    (hp : tmps.getD p undef = .pointer (some ⟨g, 0, none⟩)) (hg : (loadVar ty ⟨g, 0, none⟩).run P w = .ok (.agg cs) w) (hx : tmps.getD r undef = x) (hp2 : tmps.getD q undef = .pointer (some ⟨g2, 0, none⟩)) (hg2 : (loadVar ty2 ⟨g2, 0, none⟩).run P w = .ok (.agg cs2) w) (hs : tmps.getD s undef = v) :
    (results fn tmps).run P w = .ok (.tuple #[.agg cs, x, .agg cs2, v]) w := by
  have hp' : tmps[p]?.getD undef = .pointer (some ⟨g, 0, none⟩) := by simpa using hp
  have hq' : tmps[q]?.getD undef = .pointer (some ⟨g2, 0, none⟩) := by simpa using hp2
  have hs' : tmps[s]?.getD undef = v := by simpa using hs
  have hx' : tmps[r]?.getD undef = x := by simpa using hx
  simp [results, h, hp', hq', hs', hx', asAddr, hg, hg2]
/-- In a region that draws its order: a whole load of known cells may be taken first. -/
theorem yields_load {P : Program} {ops : Array Oper} {S : World → Prop} {op : Oper} {a : Act} (hw : Region.wanted op (yielded ops a.tmps) = true) (ty : TypeId) (x : Operand) (ho : op.op = .load ty x)
    (b o : Nat) (hx : a.eval x = .pointer (some ⟨b, o, none⟩)) (cs : Array Value) (d : TypeDesc) (hS : ∀ w, S w → w.rangeAt b o cs.toList)
    (hu : P.underlying ty = some d) (hd : d.isRow = true) (hi : (P.info? ty).map (·.size) = some cs.size) : YieldsIf P ops S op (.agg cs) a := by
  have := yieldsIf_load_mid (P := P) (ops := ops) (S := S) hw ty x ho b o hx cs.toList d hS hu hd (by simpa using hi)
  simpa using this
end Go.Proofs.YtmeicjndfblglaaDoor
