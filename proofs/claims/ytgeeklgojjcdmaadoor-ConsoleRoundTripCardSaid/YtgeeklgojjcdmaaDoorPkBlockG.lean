/- Merged: Block, Results. -/
import Derived.Below
import Derived.WalkSmall
import Derived.Deep.MidRow
import Derived.Laws.Rows
import Derived.Deep.Draws
import Derived.Laws.Tables
set_option linter.unusedVariables false
set_option linter.unusedSimpArgs false
set_option linter.unusedSectionVars false
namespace Go.Proofs.YtgeeklgojjcdmaaDoor
section
open Go Go.RowKit

/-- Block b alone was written; new blocks there may be. -/
structure Only (b : Nat) (w w' : World) : Prop where
  os : w'.os = w.os
  tape : w'.tape = w.tape
  output : w'.output = w.output
  size : w.heap.size ≤ w'.heap.size
  block : ∀ k, k < w.heap.size → k ≠ b → w'.heap[k]? = w.heap[k]?
theorem Only.refl (b : Nat) (w : World) : Only b w w := ⟨rfl, rfl, rfl, Nat.le_refl _, fun _ _ _ => rfl⟩
theorem Only.trans {b : Nat} {w w' w'' : World} (h : Only b w w') (g : Only b w' w'') : Only b w w'' :=
  ⟨g.os.trans h.os, g.tape.trans h.tape, g.output.trans h.output, Nat.le_trans h.size g.size, fun k hk hb => (g.block k (Nat.lt_of_lt_of_le hk h.size) hb).trans (h.block k hk hb)⟩
theorem Only.drewN {b : Nat} {w w' : World} (h : Only b w w') (n : Nat) : Only b w (w'.drewN n) := ⟨h.os, h.tape, h.output, h.size, h.block⟩
theorem Only.drew {b : Nat} {w w' : World} (h : Only b w w') : Only b w w'.drew := ⟨h.os, h.tape, h.output, h.size, h.block⟩
theorem Only.setCell {b : Nat} {w w' : World} (h : Only b w w') (o : Nat) (x : Value) : Only b w (w'.setCell ⟨b, o, none⟩ x) :=
  h.trans ⟨rfl, rfl, rfl, by simp [World.setCell], fun k _ hk => Below.heap_setCell _ _ _ _ hk⟩
theorem Only.alloc (b : Nat) (w : World) (o : Obj) : Only b w (w.alloc o) := ⟨rfl, rfl, rfl, by simp, fun k hk _ => Below.heap_alloc _ _ _ hk⟩
theorem Only.below {b : Nat} {w w' : World} (h : Only b w w') : Below (min b w.heap.size) w w' := ⟨h.os, h.tape, h.output, h.size, fun k hk => h.block k (by omega) (by omega)⟩
theorem Only.cell {b : Nat} {w w' : World} (h : Only b w w') {g o : Nat} (hg : g < w.heap.size) (hb : g ≠ b) : w'.cell? ⟨g, o, none⟩ = w.cell? ⟨g, o, none⟩ := by
  unfold World.cell?; rw [show w'.heap[g]? = w.heap[g]? from h.block g hg hb]

def updO (o : Nat) (x : Value) : Obj → Obj
  | .cells c t f => .cells (c.setIfInBounds o x) t f
  | y => y
theorem heap_set (w : World) (b o : Nat) (x : Value) : (w.setCell ⟨b, o, none⟩ x).heap[b]? = (w.heap[b]?).map (updO o x) := by
  simp only [World.setCell, Array.getElem?_modify, if_pos]
  cases w.heap[b]? with
  | none => rfl
  | some ob => cases ob <;> rfl
/-- The block's cells, its bounds' mark not set. -/
abbrev BlkT (w : World) (g : Nat) (cs : Array Value) (T : TypeId) : Prop := w.heap[g]? = some (.cells cs T)
theorem blk_cell {w : World} {g : Nat} {cs : Array Value} {T : TypeId} (h : BlkT w g cs T) (o : Nat) : w.cell? ⟨g, o, none⟩ = cs[o]? := by simp [World.cell?, h]
theorem blk_free {w : World} {g : Nat} {cs : Array Value} {T : TypeId} (h : BlkT w g cs T) (o : Nat) : w.frozen? ⟨g, o, none⟩ = false := by simp [World.frozen?, h]
theorem blk_set {w : World} {g : Nat} {cs : Array Value} {T : TypeId} (h : BlkT w g cs T) (o : Nat) (x : Value) : BlkT (w.setCell ⟨g, o, none⟩ x) g (cs.setIfInBounds o x) T := by
  unfold BlkT; rw [heap_set, h]; rfl
def putL (c : Array Value) : Nat → List Value → Array Value
  | _, [] => c
  | o, v :: r => putL (c.setIfInBounds o v) (o + 1) r
theorem putL_size : ∀ (vs : List Value) (c : Array Value) (o : Nat), (putL c o vs).size = c.size
  | [], _, _ => rfl
  | v :: r, c, o => by rw [putL, putL_size r]; simp
theorem putL_get : ∀ (vs : List Value) (c : Array Value) (o j : Nat), o + vs.length ≤ c.size → (putL c o vs)[j]? = if o ≤ j ∧ j < o + vs.length then vs[j - o]? else c[j]?
  | [], c, o, j, _ => by rw [putL, if_neg (by simp only [List.length_nil]; omega)]
  | v :: r, c, o, j, h => by
    simp only [List.length_cons] at h
    rw [putL, putL_get r _ _ _ (by simp; omega)]
    by_cases h1 : o + 1 ≤ j ∧ j < o + 1 + r.length
    · rw [if_pos h1, if_pos (by simp only [List.length_cons]; omega), show j - o = (j - (o + 1)) + 1 from by omega, List.getElem?_cons_succ]
    · rw [if_neg h1]
      by_cases hj : j = o
      · subst hj
        rw [if_pos (by simp only [List.length_cons]; omega), Array.getElem?_setIfInBounds, if_pos rfl, if_pos (by omega)]
        simp
      · rw [if_neg (by simp only [List.length_cons]; omega), Array.getElem?_setIfInBounds, if_neg (by omega)]
theorem putL_all (c cs : Array Value) (h : cs.size = c.size) : putL c 0 cs.toList = cs := by
  apply Array.ext_getElem?
  intro j
  rw [putL_get _ _ _ _ (by simp; omega)]
  by_cases hj : j < cs.size
  · rw [if_pos (by simp; omega)]; simp
  · rw [if_neg (by simp; omega), Array.getElem?_eq_none (by omega), Array.getElem?_eq_none (by omega)]
theorem heap_setCells (b : Nat) (t : TypeId) : ∀ (vs : List Value) (o : Nat) (w : World) (c : Array Value), BlkT w b c t → BlkT (w.setCells b o vs) b (putL c o vs) t
  | [], _, _, _, h => h
  | v :: r, o, w, c, h => by
    rw [World.setCells, putL]
    exact heap_setCells b t r (o + 1) _ _ (blk_set h o v)
theorem only_setCells (b : Nat) : ∀ (vs : List Value) (o : Nat) (w : World), Only b w (w.setCells b o vs)
  | [], _, w => Only.refl b w
  | v :: r, o, w => by rw [World.setCells]; exact ((Only.refl b w).setCell o v).trans (only_setCells b r (o + 1) _)

end
section
open Go Go.RowKit

/-- A build whose cells are given. -/
theorem wpList_built {P : Program} {ops : Array Oper} {rest : List Oper} {o : Oper} {a : Act} {w : World} {Q : Exit → Act → World → Prop} (hg : o.guard = none) (t : TypeId) (parts : Array (Nat × Operand)) (ho : o.op = .build t parts)
    (cells : Array Value) (hf : P.built t (parts.map fun (i, x) => (i, a.eval x)).toList = some cells) (h : wpList P ops Q rest (a.put o.dst (.agg cells)) w) : wpList P ops Q (o :: rest) a w :=
  wpList_build hg t parts ho (by rw [hf]; rfl) (by rw [hf]; exact h)
/-- In a region that draws its order: a whole load of known cells may be taken first. -/
theorem yields_load {P : Program} {ops : Array Oper} {S : World → Prop} {op : Oper} {a : Act} (hw : Region.wanted op (yielded ops a.tmps) = true) (ty : TypeId) (x : Operand) (ho : op.op = .load ty x)
    (b o : Nat) (hx : a.eval x = .pointer (some ⟨b, o, none⟩)) (cs : Array Value) (d : TypeDesc) (hS : ∀ w, S w → w.rangeAt b o cs.toList)
    (hu : P.underlying ty = some d) (hd : d.isRow = true) (hi : (P.info? ty).map (·.size) = some cs.size) : YieldsIf P ops S op (.agg cs) a := by
  have := yieldsIf_load_mid (P := P) (ops := ops) (S := S) hw ty x ho b o hx cs.toList d hS hu hd (by simpa using hi)
  simpa using this
end
end Go.Proofs.YtgeeklgojjcdmaaDoor
