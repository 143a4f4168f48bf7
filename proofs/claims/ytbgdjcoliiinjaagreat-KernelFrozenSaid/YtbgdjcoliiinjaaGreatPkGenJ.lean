/- Merged: Block, Results, Kn, Read, Append, Equal, Kn2, Grow, Elem, KnMap, KnMv, Copy, Make, Equal2, Next, AppR, Sub. -/
import Derived.Below
import Derived.WalkSmall
import Derived.Deep.MidRow
import Derived.Laws.Rows
import Derived.Deep.Draws
import Derived.Laws.Tables
import Derived.BigFrame
import Derived.Great.Walk
import Derived.Deep.RegionHeld
import Derived.OpenShut
import Derived.Deep.Slices
import Derived.ChangeSame
import Derived.SizedLaws
import Derived.Maps.AppendAt
import Derived.OwnWalk
import Derived.Laws.StructEq
import Derived.DeepKeys
import Derived.Maps.Own
import Derived.Maps.OwnSet
import Derived.Maps.OwnOps
import Derived.Great.BuildSlice
import Derived.Laws.MakeOwn
import Derived.Test.YtbgdjcoliiinjaaGreatProg
import Derived.WalkKit
import Derived.WalkLawsBesides
import Derived.WalkSpells
import Derived.Outline
import Derived.Lib.Hide
import Derived.KernelRfl
import Derived.Deep.QuietTactic
import Derived.BigQuiet
import Derived.Deep.RegionHeld3
import Derived.Deep.DrawnRows
import Derived.Laws.Slices
set_option linter.unusedVariables false
set_option linter.unusedSimpArgs false
set_option linter.unusedSectionVars false
namespace Go.Proofs.YtbgdjcoliiinjaaGreat
section
open Go Go.RowKit

/-- Block b alone was written; new blocks there may be. -/
structure Only (b : Nat) (w w' : World) : Prop where
  os : w'.os = w.os
  tape : w'.tape = w.tape
  output : w'.output = w.output
  size : w.heap.size ≤ w'.heap.size
  block : ∀ k, k < w.heap.size → k ≠ b → w'.heap[k]? = w.heap[k]?
theorem Only.refl (b : Nat) (w : World) : Only b w w := ⟨rfl, rfl, rfl, Nat.le_refl _, fun _ _ _ => rfl⟩
theorem Only.trans {b : Nat} {w w' w'' : World} (h : Only b w w') (g : Only b w' w'') : Only b w w'' :=
  ⟨g.os.trans h.os, g.tape.trans h.tape, g.output.trans h.output, Nat.le_trans h.size g.size, fun k hk hb => (g.block k (Nat.lt_of_lt_of_le hk h.size) hb).trans (h.block k hk hb)⟩
theorem Only.drewN {b : Nat} {w w' : World} (h : Only b w w') (n : Nat) : Only b w (w'.drewN n) := ⟨h.os, h.tape, h.output, h.size, h.block⟩
theorem Only.drew {b : Nat} {w w' : World} (h : Only b w w') : Only b w w'.drew := ⟨h.os, h.tape, h.output, h.size, h.block⟩
theorem Only.setCell {b : Nat} {w w' : World} (h : Only b w w') (o : Nat) (x : Value) : Only b w (w'.setCell ⟨b, o, none⟩ x) :=
  h.trans ⟨rfl, rfl, rfl, by simp [World.setCell], fun k _ hk => Below.heap_setCell _ _ _ _ hk⟩
theorem Only.alloc (b : Nat) (w : World) (o : Obj) : Only b w (w.alloc o) := ⟨rfl, rfl, rfl, by simp, fun k hk _ => Below.heap_alloc _ _ _ hk⟩
theorem Only.below {b : Nat} {w w' : World} (h : Only b w w') : Below (min b w.heap.size) w w' := ⟨h.os, h.tape, h.output, h.size, fun k hk => h.block k (by omega) (by omega)⟩
theorem Only.cell {b : Nat} {w w' : World} (h : Only b w w') {g o : Nat} (hg : g < w.heap.size) (hb : g ≠ b) : w'.cell? ⟨g, o, none⟩ = w.cell? ⟨g, o, none⟩ := by
  unfold World.cell?; rw [show w'.heap[g]? = w.heap[g]? from h.block g hg hb]

def updO (o : Nat) (x : Value) : Obj → Obj
  | .cells c t f => .cells (c.setIfInBounds o x) t f
  | y => y
theorem heap_set (w : World) (b o : Nat) (x : Value) : (w.setCell ⟨b, o, none⟩ x).heap[b]? = (w.heap[b]?).map (updO o x) := by
  simp only [World.setCell, Array.getElem?_modify, if_pos]
  cases w.heap[b]? with
  | none => rfl
  | some ob => cases ob <;> rfl
/-- The block's cells, its bounds' mark not set. -/
abbrev BlkT (w : World) (g : Nat) (cs : Array Value) (T : TypeId) : Prop := w.heap[g]? = some (.cells cs T)
theorem blk_cell {w : World} {g : Nat} {cs : Array Value} {T : TypeId} (h : BlkT w g cs T) (o : Nat) : w.cell? ⟨g, o, none⟩ = cs[o]? := by simp [World.cell?, h]
theorem blk_free {w : World} {g : Nat} {cs : Array Value} {T : TypeId} (h : BlkT w g cs T) (o : Nat) : w.frozen? ⟨g, o, none⟩ = false := by simp [World.frozen?, h]
theorem blk_set {w : World} {g : Nat} {cs : Array Value} {T : TypeId} (h : BlkT w g cs T) (o : Nat) (x : Value) : BlkT (w.setCell ⟨g, o, none⟩ x) g (cs.setIfInBounds o x) T := by
  unfold BlkT; rw [heap_set, h]; rfl
def putL (c : Array Value) : Nat → List Value → Array Value
  | _, [] => c
  | o, v :: r => putL (c.setIfInBounds o v) (o + 1) r
theorem putL_size : ∀ (vs : List Value) (c : Array Value) (o : Nat), (putL c o vs).size = c.size
  | [], _, _ => rfl
  | v :: r, c, o => by rw [putL, putL_size r]; simp
theorem putL_get : ∀ (vs : List Value) (c : Array Value) (o j : Nat), o + vs.length ≤ c.size → (putL c o vs)[j]? = if o ≤ j ∧ j < o + vs.length then vs[j - o]? else c[j]?
  | [], c, o, j, _ => by rw [putL, if_neg (by simp only [List.length_nil]; omega)]
  | v :: r, c, o, j, h => by
    simp only [List.length_cons] at h
    rw [putL, putL_get r _ _ _ (by simp; omega)]
    by_cases h1 : o + 1 ≤ j ∧ j < o + 1 + r.length
    · rw [if_pos h1, if_pos (by simp only [List.length_cons]; omega), show j - o = (j - (o + 1)) + 1 from by omega, List.getElem?_cons_succ]
    · rw [if_neg h1]
      by_cases hj : j = o
      · subst hj
        rw [if_pos (by simp only [List.length_cons]; omega), Array.getElem?_setIfInBounds, if_pos rfl, if_pos (by omega)]
        simp
      · rw [if_neg (by simp only [List.length_cons]; omega), Array.getElem?_setIfInBounds, if_neg (by omega)]
theorem putL_all (c cs : Array Value) (h : cs.size = c.size) : putL c 0 cs.toList = cs := by
  apply Array.ext_getElem?
  intro j
  rw [putL_get _ _ _ _ (by simp; omega)]
  by_cases hj : j < cs.size
  · rw [if_pos (by simp; omega)]; simp
  · rw [if_neg (by simp; omega), Array.getElem?_eq_none (by omega), Array.getElem?_eq_none (by omega)]
theorem heap_setCells (b : Nat) (t : TypeId) : ∀ (vs : List Value) (o : Nat) (w : World) (c : Array Value), BlkT w b c t → BlkT (w.setCells b o vs) b (putL c o vs) t
  | [], _, _, _, h => h
  | v :: r, o, w, c, h => by
    rw [World.setCells, putL]
    exact heap_setCells b t r (o + 1) _ _ (blk_set h o v)
theorem only_setCells (b : Nat) : ∀ (vs : List Value) (o : Nat) (w : World), Only b w (w.setCells b o vs)
  | [], _, w => Only.refl b w
  | v :: r, o, w => by rw [World.setCells]; exact ((Only.refl b w).setCell o v).trans (only_setCells b r (o + 1) _)

end
section
open Go Go.RowKit

/-- In a region that draws its order: a whole load of known cells may be taken first. -/
theorem yields_load {P : Program} {ops : Array Oper} {S : World → Prop} {op : Oper} {a : Act} (hw : Region.wanted op (yielded ops a.tmps) = true) (ty : TypeId) (x : Operand) (ho : op.op = .load ty x)
    (b o : Nat) (hx : a.eval x = .pointer (some ⟨b, o, none⟩)) (cs : Array Value) (d : TypeDesc) (hS : ∀ w, S w → w.rangeAt b o cs.toList)
    (hu : P.underlying ty = some d) (hd : d.isRow = true) (hi : (P.info? ty).map (·.size) = some cs.size) : YieldsIf P ops S op (.agg cs) a := by
  have := yieldsIf_load_mid (P := P) (ops := ops) (S := S) hw ty x ho b o hx cs.toList d hS hu hd (by simpa using hi)
  simpa using this
end
section
open Go Go.RowKit Go.BigFrame

abbrev Ents := List (Nat × (Obj → Prop))
/-- The block holds just these cells. -/
def At (cs : Array Value) (T : TypeId) : Obj → Prop := fun o => o = .cells cs T
inductive Has : Ents → Nat → (Obj → Prop) → Prop
  | here {l : Ents} {g : Nat} {Φ : Obj → Prop} : Has ((g, Φ) :: l) g Φ
  | there {l : Ents} {g : Nat} {Φ : Obj → Prop} {x : Nat × (Obj → Prop)} : Has l g Φ → Has (x :: l) g Φ
inductive Repl : Ents → Nat → (Obj → Prop) → (Obj → Prop) → Ents → Prop
  | here {l : Ents} {g : Nat} {Φ Φ' : Obj → Prop} : Repl ((g, Φ) :: l) g Φ Φ' ((g, Φ') :: l)
  | there {l l' : Ents} {g : Nat} {Φ Φ' : Obj → Prop} {x : Nat × (Obj → Prop)} : Repl l g Φ Φ' l' → Repl (x :: l) g Φ Φ' (x :: l')
inductive Del : Ents → Nat → (Obj → Prop) → Ents → Prop
  | here {l : Ents} {g : Nat} {Φ : Obj → Prop} : Del ((g, Φ) :: l) g Φ l
  | there {l l' : Ents} {g : Nat} {Φ : Obj → Prop} {x : Nat × (Obj → Prop)} : Del l g Φ l' → Del (x :: l) g Φ (x :: l')
theorem Has.mem {l : Ents} {g : Nat} {Φ : Obj → Prop} (h : Has l g Φ) : (g, Φ) ∈ l := by
  induction h with
  | here => simp
  | there _ ih => exact List.mem_cons_of_mem _ ih
theorem Has.of_mem {g : Nat} {Φ : Obj → Prop} : ∀ {l : Ents}, (g, Φ) ∈ l → Has l g Φ
  | x :: l, h => by
    rcases List.mem_cons.1 h with rfl | h
    · exact .here
    · exact .there (Has.of_mem h)
theorem Repl.keys {l l' : Ents} {g : Nat} {Φ Φ' : Obj → Prop} (h : Repl l g Φ Φ' l') : l'.map (·.1) = l.map (·.1) := by
  induction h with
  | here => rfl
  | there _ ih => simp [ih]
theorem Repl.has {l l' : Ents} {g : Nat} {Φ Φ' : Obj → Prop} (h : Repl l g Φ Φ' l') : Has l g Φ := by
  induction h with
  | here => exact .here
  | there _ ih => exact .there ih
theorem Has.key {l : Ents} {g : Nat} {Φ : Obj → Prop} (h : Has l g Φ) : g ∈ l.map (·.1) := List.mem_map.2 ⟨_, h.mem, rfl⟩
theorem Repl.back {l l' : Ents} {g : Nat} {Φ Φ' : Obj → Prop} (h : Repl l g Φ Φ' l') (hn : (l.map (·.1)).Nodup) {k : Nat} {Ψ : Obj → Prop} (hk : Has l' k Ψ) : (k = g ∧ Ψ = Φ') ∨ (k ≠ g ∧ Has l k Ψ) := by
  induction h generalizing k Ψ with
  | @here l g Φ Φ' =>
    simp only [List.map_cons, List.nodup_cons] at hn
    cases hk with
    | here => exact .inl ⟨rfl, rfl⟩
    | there h => exact .inr ⟨fun e => hn.1 (e ▸ h.key), .there h⟩
  | @there l l' g Φ Φ' x hr ih =>
    simp only [List.map_cons, List.nodup_cons] at hn
    cases hk with
    | here => exact .inr ⟨fun e => hn.1 (e ▸ hr.has.key), .here⟩
    | there h =>
      rcases ih hn.2 h with h | h
      · exact .inl h
      · exact .inr ⟨h.1, .there h.2⟩
theorem Del.back {l l' : Ents} {g : Nat} {Φ : Obj → Prop} (h : Del l g Φ l') {k : Nat} {Ψ : Obj → Prop} (hk : Has l' k Ψ) : Has l k Ψ := by
  induction h generalizing k Ψ with
  | here => exact .there hk
  | there _ ih =>
    cases hk with
    | here => exact .here
    | there h => exact .there (ih h)
theorem Del.sub {l l' : Ents} {g : Nat} {Φ : Obj → Prop} (h : Del l g Φ l') : (l'.map (·.1)).Sublist (l.map (·.1)) := by
  induction h with
  | here => exact List.sublist_cons_self _ _
  | there _ ih => exact ih.cons_cons _

/-- From the world W to w only the blocks M of the old ones have turned; the blocks of l are known. -/
structure Kn (M : List Nat) (W w : World) (l : Ents) : Prop where
  os : w.os = W.os
  tape : w.tape = W.tape
  output : w.output = W.output
  size : W.heap.size ≤ w.heap.size
  frame : ∀ k, k < W.heap.size → k ∉ M → w.heap[k]? = W.heap[k]?
  own : ∀ g Φ, Has l g Φ → ∃ o, w.heap[g]? = some o ∧ Φ o
  fresh : ∀ g Φ, Has l g Φ → g ∈ M ∨ W.heap.size ≤ g
  apart : (l.map (·.1)).Nodup
section
variable {M : List Nat} {W w w' : World} {l l' l2 : Ents} {g : Nat} {Φ Φ' : Obj → Prop} {cs : Array Value} {T : TypeId}
theorem Kn.start (W : World) : Kn [] W W [] := ⟨rfl, rfl, rfl, Nat.le_refl _, fun _ _ _ => rfl, fun _ _ h => by (cases h), fun _ _ h => by (cases h), List.nodup_nil⟩
theorem Kn.lt (h : Kn M W w l) (m : Has l g Φ) : g < w.heap.size := by
  obtain ⟨o, ho, _⟩ := h.own g Φ m
  exact (Array.getElem?_eq_some_iff.1 ho).1
theorem Kn.at_ (h : Kn M W w l) (m : Has l g (At cs T)) : BlkT w g cs T := by
  obtain ⟨o, ho, rfl⟩ := h.own g _ m
  exact ho
theorem Kn.cell (h : Kn M W w l) (m : Has l g (At cs T)) {o : Nat} {v : Value} (hv : cs[o]? = some v) : w.cell? ⟨g, o, none⟩ = some v := (blk_cell (h.at_ m) o).trans hv
theorem Kn.old (h : Kn M W w l) {k : Nat} (hk : k < W.heap.size) (hM : k ∉ M) {o : Nat} : w.cell? ⟨k, o, none⟩ = W.cell? ⟨k, o, none⟩ := by
  unfold World.cell?; rw [show w.heap[k]? = W.heap[k]? from h.frame k hk hM]
theorem Kn.upd (h : Kn M W w l) (os : w'.os = w.os) (tape : w'.tape = w.tape) (output : w'.output = w.output) (size : w.heap.size ≤ w'.heap.size)
    (block : ∀ k, k < w.heap.size → k ≠ g → w'.heap[k]? = w.heap[k]?) (r : Repl l g Φ Φ' l') (hg : ∃ o, w'.heap[g]? = some o ∧ Φ' o) : Kn M W w' l' := by
  refine ⟨os.trans h.os, tape.trans h.tape, output.trans h.output, Nat.le_trans h.size size, fun k hk hM => ?_, fun k Ψ hk => ?_, fun k Ψ hk => ?_, by rw [r.keys]; exact h.apart⟩
  · rw [block k (Nat.lt_of_lt_of_le hk h.size) ?_, h.frame k hk hM]
    rintro rfl
    rcases h.fresh _ _ r.has with hf | hf
    · exact hM hf
    · omega
  · rcases r.back h.apart hk with ⟨rfl, rfl⟩ | ⟨hne, hk⟩
    · exact hg
    · obtain ⟨o, ho, hΨ⟩ := h.own _ _ hk
      exact ⟨o, (block k (Array.getElem?_eq_some_iff.1 ho).1 hne).trans ho, hΨ⟩
  · rcases r.back h.apart hk with ⟨rfl, _⟩ | ⟨_, hk⟩
    · exact h.fresh _ _ r.has
    · exact h.fresh _ _ hk
theorem Kn.drew (h : Kn M W w l) : Kn M W w.drew l := ⟨h.os, h.tape, h.output, h.size, h.frame, h.own, h.fresh, h.apart⟩
theorem Kn.drewN (h : Kn M W w l) (n : Nat) : Kn M W (w.drewN n) l := ⟨h.os, h.tape, h.output, h.size, h.frame, h.own, h.fresh, h.apart⟩
theorem Kn.alloc (h : Kn M W w l) (o : Obj) (hΦ : Φ o) : Kn M W (w.alloc o) ((w.heap.size, Φ) :: l) := by
  refine ⟨h.os, h.tape, h.output, by have := h.size; simp; omega, fun k hk hM => ?_, fun k Ψ hk => ?_, fun k Ψ hk => ?_, ?_⟩
  · rw [Below.heap_alloc _ _ _ (Nat.lt_of_lt_of_le hk h.size)]; exact h.frame k hk hM
  · cases hk with
    | here => exact ⟨o, heap_alloc_new w o, hΦ⟩
    | there hk =>
      obtain ⟨q, hq, hΨ⟩ := h.own _ _ hk
      exact ⟨q, (Below.heap_alloc _ _ _ (Array.getElem?_eq_some_iff.1 hq).1).trans hq, hΨ⟩
  · cases hk with
    | here => exact .inr h.size
    | there hk => exact h.fresh _ _ hk
  · simp only [List.map_cons, List.nodup_cons]
    refine ⟨fun hm => ?_, h.apart⟩
    obtain ⟨x, hx, he⟩ := List.mem_map.1 hm
    have := h.lt (Has.of_mem (g := x.1) (Φ := x.2) hx)
    omega
/-- Several cells of a block are written. -/
theorem Kn.setCells (h : Kn M W w l) (o : Nat) (vs : List Value) (r : Repl l g (At cs T) (At (putL cs o vs) T) l') : Kn M W (w.setCells g o vs) l' := by
  have hb := h.at_ r.has
  have ho := only_setCells g vs o w
  exact h.upd ho.os ho.tape ho.output ho.size ho.block r ⟨_, heap_setCells g T vs o w cs hb, rfl⟩
theorem Kn.call0 (h : Kn M W w l) (h2 : Kn [] w w' l2) : Kn M W w' (l2 ++ l) := by
  have split : ∀ {l2 : Ents} {k : Nat} {Ψ : Obj → Prop}, Has (l2 ++ l) k Ψ → Has l2 k Ψ ∨ Has l k Ψ := by
    intro l2 k Ψ hk
    rcases List.mem_append.1 hk.mem with hk | hk
    · exact .inl (Has.of_mem hk)
    · exact .inr (Has.of_mem hk)
  refine ⟨h2.os.trans h.os, h2.tape.trans h.tape, h2.output.trans h.output, Nat.le_trans h.size h2.size, fun k hk hM => ?_, fun k Ψ hk => ?_, fun k Ψ hk => ?_, ?_⟩
  · rw [h2.frame k (Nat.lt_of_lt_of_le hk h.size) (by simp), h.frame k hk hM]
  · rcases split hk with hk | hk
    · exact h2.own _ _ hk
    · obtain ⟨o, ho, hΨ⟩ := h.own _ _ hk
      exact ⟨o, (h2.frame k (h.lt hk) (by simp)).trans ho, hΨ⟩
  · rcases split hk with hk | hk
    · rcases h2.fresh _ _ hk with hf | hf
      · cases hf
      · exact .inr (Nat.le_trans h.size hf)
    · exact h.fresh _ _ hk
  · rw [List.map_append, List.nodup_append]
    refine ⟨h2.apart, h.apart, fun a ha b hb e => ?_⟩
    subst e
    obtain ⟨x, hx, he⟩ := List.mem_map.1 ha
    obtain ⟨y, hy, hf⟩ := List.mem_map.1 hb
    have h1 := h.lt (Has.of_mem (g := y.1) (Φ := y.2) hy)
    rcases h2.fresh _ _ (Has.of_mem (g := x.1) (Φ := x.2) hx) with hf' | hf'
    · cases hf'
    · omega
theorem Kn.below (h : Kn M W w l) (hb : Below w.heap.size w w') : Kn M W w' l :=
  h.call0 (l2 := []) ⟨hb.os, hb.tape, hb.output, hb.size, fun k hk _ => hb.block k hk, fun _ _ h => by (cases h), fun _ _ h => by (cases h), List.nodup_nil⟩
theorem Kn.only (h : Kn M W w l) (ho : Only g w w') (r : Repl l g Φ Φ' l') (hg : ∃ o, w'.heap[g]? = some o ∧ Φ' o) : Kn M W w' l' :=
  h.upd ho.os ho.tape ho.output ho.size ho.block r hg
theorem Kn.drop (h : Kn M W w l) (d : Del l g Φ l') : Kn M W w l' :=
  ⟨h.os, h.tape, h.output, h.size, h.frame, fun k Ψ hk => h.own _ _ (d.back hk), fun k Ψ hk => h.fresh _ _ (d.back hk), h.apart.sublist d.sub⟩
theorem Kn.toBelow (h : Kn [] W w l) : Below W.heap.size W w := ⟨h.os, h.tape, h.output, h.size, fun k hk => h.frame k hk (by simp)⟩
/-- An old block that is not among those that may turn becomes one of them. -/
theorem Kn.ne (h : Kn M W w l) {k : Nat} {Ψ : Obj → Prop} (hk : k < W.heap.size) (hM : k ∉ M) (m : Has l g Ψ) : k ≠ g := by
  rintro rfl
  rcases h.fresh _ _ m with hf | hf
  · exact hM hf
  · omega
end

/-! ### The operations -/
section
variable {P : Program} {ops : Array Oper} {rest : List Oper} {op : Oper} {a : Act} {w W : World} {K : Act → World → Prop} {Q : Exit → Act → World → Prop} {M : List Nat} {l l' : Ents}

/-- The goal is a list of operations: nothing else is let by. -/
theorem wpList_gate (h : wpList P ops Q (op :: rest) a w) : wpList P ops Q (op :: rest) a w := h
def isLoad : Op → Bool
  | .load .. => true
  | _ => false
def isStore : Op → Bool
  | .store .. => true
  | _ => false
def isNew : Op → Bool
  | .alloc .. | .box .. | .build .. | .buildSlice .. => true
  | _ => false
theorem gate_load (_hm : isLoad op.op = true) (h : wpList P ops Q (op :: rest) a w) : wpList P ops Q (op :: rest) a w := h
theorem gate_store (_hm : isStore op.op = true) (h : wpList P ops Q (op :: rest) a w) : wpList P ops Q (op :: rest) a w := h
theorem gate_new (_hm : isNew op.op = true) (h : wpList P ops Q (op :: rest) a w) : wpList P ops Q (op :: rest) a w := h
theorem run_loadAt_one (g o : Nat) (ty : TypeId) (v : Value) (hc : w.cell? ⟨g, o, none⟩ = some v) (d : TypeDesc) (hu : P.underlying ty = some d) (hd : d.isRow = false) :
    (Instr.loadAt ty (.pointer (some ⟨g, o, none⟩))).run P w = .ok v w := by
  have hagg : (isAgg ty).run P w = .ok false w := by
    unfold isAgg
    rw [Sem.run_bind, run_underlying hu w]
    cases d <;> simp_all
  simp [Instr.loadAt, Instr.sureAddr, Sem.run_bind, loadVar, hagg, hc]
theorem run_storeAt_any (g o : Nat) (ty : TypeId) (v : Value) (ht : w.there g o v.cells.size) (hi : (P.info? ty).map (·.size) = some v.cells.size) (h1 : v.cells.all (·.oneCell') = true) :
    (Instr.storeAt ty (.pointer (some ⟨g, o, none⟩)) v).run P w = .ok () (w.setCells g o v.cells.toList) := by
  have := run_storeCells_cells (P := P) g o v.cells.toList 0 w (fun j hj => by simpa using (ht j (by simpa using hj)).1) (fun j hj => by simpa using (ht j (by simpa using hj)).2)
    (fun v hv => (Array.all_eq_true_iff_forall_mem.1 h1) v (by simpa using hv))
  cases hq : P.info? ty with
  | none => simp [hq] at hi
  | some i =>
    have hs : v.cells.size = i.size := by simp [hq] at hi; omega
    simp only [Nat.add_zero] at this
    simp [Instr.storeAt, Instr.sureAddr, Sem.run_bind, storeVar, sizeOf, typeInfo, hq, hs, this]

theorem wp_kn_load1 (KN : Kn M W w l) (ty : TypeId) (x : Operand) (ho : op.op = .load ty x) (g o : Nat) (hx : a.eval x = .pointer (some ⟨g, o, none⟩)) (cs : Array Value) (T : TypeId) (m : Has l g (At cs T))
    (v : Value) (hv : cs[o]? = some v) (d : TypeDesc) (hu : P.underlying ty = some d) (hd : d.isRow = false) (h : K (a.put op.dst v) w) : op.wp P a w K Q := by
  unfold Oper.wp execOp
  simp only [ho, hx, Sem.run_bind, run_loadAt_one g o ty v (KN.cell m hv) d hu hd]
  exact h
theorem wpList_kn_load1 (KN : Kn M W w l) (hw : Region.wanted op (yielded ops a.tmps) = true) (ty : TypeId) (x : Operand) (ho : op.op = .load ty x) (g o : Nat) (hx : a.eval x = .pointer (some ⟨g, o, none⟩)) (cs : Array Value) (T : TypeId) (m : Has l g (At cs T))
    (v : Value) (hv : cs[o]? = some v) (d : TypeDesc) (hu : P.underlying ty = some d) (hd : d.isRow = false) (h : wpList P ops Q rest (a.put op.dst v) w) : wpList P ops Q (op :: rest) a w :=
  wpList_want hw fun _ hK => wp_kn_load1 KN ty x ho g o hx cs T m v hv d hu hd (hK _ _ h)
theorem kn_range (KN : Kn M W w l) {g : Nat} {cs : Array Value} {T : TypeId} (m : Has l g (At cs T)) {o : Nat} {part : Array Value} (hp : cs.extract o (o + part.size) = part) : w.rangeAt g o part.toList := fun j v hj => by
  refine KN.cell m ?_
  have hj' : part[j]? = some v := by simpa using hj
  have hl : j < part.size := (Array.getElem?_eq_some_iff.1 hj').1
  rw [← hp, Array.getElem?_extract] at hj'
  split at hj'
  · exact hj'
  · cases hj'
theorem wp_kn_loadN (KN : Kn M W w l) (ty : TypeId) (x : Operand) (ho : op.op = .load ty x) (g o : Nat) (hx : a.eval x = .pointer (some ⟨g, o, none⟩)) (cs : Array Value) (T : TypeId) (m : Has l g (At cs T))
    (part : Array Value) (hp : cs.extract o (o + part.size) = part) (d : TypeDesc) (hu : P.underlying ty = some d) (hd : d.isRow = true) (hi : (P.info? ty).map (·.size) = some part.size) (h : K (a.put op.dst (.agg part)) w) : op.wp P a w K Q := by
  have := wp_load_mid (P := P) (op := op) (a := a) (w := w) (K := K) (Q := Q) ty x ho g o hx part.toList d (kn_range KN m hp) hu hd (by simpa using hi)
  simp only [Array.toArray_toList] at this
  exact this h
theorem wpList_kn_loadN (KN : Kn M W w l) (hw : Region.wanted op (yielded ops a.tmps) = true) (ty : TypeId) (x : Operand) (ho : op.op = .load ty x) (g o : Nat) (hx : a.eval x = .pointer (some ⟨g, o, none⟩)) (cs : Array Value) (T : TypeId) (m : Has l g (At cs T))
    (part : Array Value) (hp : cs.extract o (o + part.size) = part) (d : TypeDesc) (hu : P.underlying ty = some d) (hd : d.isRow = true) (hi : (P.info? ty).map (·.size) = some part.size) (h : wpList P ops Q rest (a.put op.dst (.agg part)) w) : wpList P ops Q (op :: rest) a w :=
  wpList_want hw fun _ hK => wp_kn_loadN KN ty x ho g o hx cs T m part hp d hu hd hi (hK _ _ h)
theorem extract_whole (cs : Array Value) : cs.extract 0 (0 + cs.size) = cs := by simp
/-- The whole block. -/
theorem wpList_kn_loadW (KN : Kn M W w l) (hw : Region.wanted op (yielded ops a.tmps) = true) (ty : TypeId) (x : Operand) (ho : op.op = .load ty x) (g : Nat) (hx : a.eval x = .pointer (some ⟨g, 0, none⟩)) (cs : Array Value) (T : TypeId) (m : Has l g (At cs T))
    (d : TypeDesc) (hu : P.underlying ty = some d) (hd : d.isRow = true) (hi : (P.info? ty).map (·.size) = some cs.size) (h : wpList P ops Q rest (a.put op.dst (.agg cs)) w) : wpList P ops Q (op :: rest) a w :=
  wpList_kn_loadN KN hw ty x ho g 0 hx cs T m cs (extract_whole cs) d hu hd hi h
theorem wp_kn_store (KN : Kn M W w l) (ty : TypeId) (x y : Operand) (ho : op.op = .store ty x y) (g o : Nat) (hx : a.eval x = .pointer (some ⟨g, o, none⟩)) (v : Value) (hy : a.eval y = v) (cs : Array Value) (T : TypeId)
    (cs' : Array Value) (r : Repl l g (At cs T) (At cs' T) l') (hcs : putL cs o v.cells.toList = cs') (hle : o + v.cells.size ≤ cs.size) (hi : (P.info? ty).map (·.size) = some v.cells.size) (h1 : v.cells.all (·.oneCell') = true)
    (h : ∀ w', Kn M W w' l' → K (a.put op.dst undef) w') : op.wp P a w K Q := by
  subst hcs
  have hb := KN.at_ r.has
  unfold Oper.wp execOp
  simp only [ho, hx, hy, Sem.run_bind, run_storeAt_any g o ty v (fun j hj => by
    rw [blk_cell hb, blk_free hb, Array.getElem?_eq_getElem (by omega)]; exact ⟨rfl, rfl⟩) hi h1]
  exact h _ (KN.setCells o _ r)
theorem wpList_kn_store (KN : Kn M W w l) (hw : Region.wanted op (yielded ops a.tmps) = true) (ty : TypeId) (x y : Operand) (ho : op.op = .store ty x y) (g o : Nat) (hx : a.eval x = .pointer (some ⟨g, o, none⟩)) (v : Value) (hy : a.eval y = v) (cs : Array Value) (T : TypeId)
    (cs' : Array Value) (r : Repl l g (At cs T) (At cs' T) l') (hcs : putL cs o v.cells.toList = cs') (hle : o + v.cells.size ≤ cs.size) (hi : (P.info? ty).map (·.size) = some v.cells.size) (h1 : v.cells.all (·.oneCell') = true)
    (h : ∀ w', Kn M W w' l' → wpList P ops Q rest (a.put op.dst undef) w') : wpList P ops Q (op :: rest) a w :=
  wpList_want hw fun _ hK => wp_kn_store KN ty x y ho g o hx v hy cs T cs' r hcs hle hi h1 fun w' hw' => hK _ _ (h w' hw')
theorem get_miss {cs : Array Value} {o j : Nat} {x : Value} (h : Nat.beq o j = false) : (cs.setIfInBounds o x)[j]? = cs[j]? := Array.getElem?_setIfInBounds_ne (Nat.ne_of_beq_eq_false h)
theorem get_hit {cs : Array Value} {o : Nat} {x : Value} (h : o + 1 ≤ cs.size) : (cs.setIfInBounds o x)[o]? = some x := by rw [Array.getElem?_setIfInBounds, if_pos rfl, if_pos (by omega)]
theorem get_pmiss {j : Nat} : ∀ {vs : List Value} {cs : Array Value} {o : Nat}, (Nat.ble (j + 1) o || Nat.ble (o + vs.length) j) = true → (putL cs o vs)[j]? = cs[j]?
  | [], _, _, _ => rfl
  | v :: r, cs, o, h => by
    have h' : j + 1 ≤ o ∨ o + (r.length + 1) ≤ j := by
      rcases Bool.or_eq_true_iff.1 h with h | h
      · exact .inl (Nat.le_of_ble_eq_true h)
      · exact .inr (Nat.le_of_ble_eq_true h)
    rw [putL, get_pmiss (vs := r) (by
      rw [Bool.or_eq_true]
      rcases h' with h' | h'
      · exact .inl (Nat.ble_eq_true_of_le (by omega))
      · exact .inr (Nat.ble_eq_true_of_le (by omega))), Array.getElem?_setIfInBounds_ne (by omega)]
/-- A struct or an array that lay in memory when the call began. -/
theorem wpList_kn_oldN (KN : Kn M W w l) (hw : Region.wanted op (yielded ops a.tmps) = true) (ty : TypeId) (x : Operand) (ho : op.op = .load ty x) (g o : Nat) (hx : a.eval x = .pointer (some ⟨g, o, none⟩))
    (part : Array Value) (hr : W.rangeAt g o part.toList) (hb : g < W.heap.size) (hM : g ∉ M) (d : TypeDesc) (hu : P.underlying ty = some d) (hd : d.isRow = true) (hi : (P.info? ty).map (·.size) = some part.size) (h : wpList P ops Q rest (a.put op.dst (.agg part)) w) : wpList P ops Q (op :: rest) a w :=
  wpList_want hw fun K hK => by
    have := wp_load_mid (P := P) (op := op) (a := a) (w := w) (K := K) (Q := Q) ty x ho g o hx part.toList d (fun j v hj => (KN.old hb hM).trans (hr j v hj)) hu hd (by simpa using hi)
    simp only [Array.toArray_toList] at this
    exact this (hK _ _ h)
/-- The whole block is written over. -/
theorem wpList_kn_storeW (KN : Kn M W w l) (hw : Region.wanted op (yielded ops a.tmps) = true) (ty : TypeId) (x y : Operand) (ho : op.op = .store ty x y) (g : Nat) (hx : a.eval x = .pointer (some ⟨g, 0, none⟩)) (cs' : Array Value) (hy : a.eval y = .agg cs') (cs : Array Value) (T : TypeId)
    (r : Repl l g (At cs T) (At cs' T) l') (hs : cs'.size = cs.size) (hi : (P.info? ty).map (·.size) = some cs'.size) (h1 : cs'.all (·.oneCell') = true)
    (h : ∀ w', Kn M W w' l' → wpList P ops Q rest (a.put op.dst undef) w') : wpList P ops Q (op :: rest) a w :=
  wpList_kn_store KN hw ty x y ho g 0 hx (.agg cs') hy cs T cs' r (putL_all _ _ hs) (by show 0 + cs'.size ≤ cs.size; omega) hi h1 h
theorem wp_kn_storeW (KN : Kn M W w l) (ty : TypeId) (x y : Operand) (ho : op.op = .store ty x y) (g : Nat) (hx : a.eval x = .pointer (some ⟨g, 0, none⟩)) (cs' : Array Value) (hy : a.eval y = .agg cs') (cs : Array Value) (T : TypeId)
    (r : Repl l g (At cs T) (At cs' T) l') (hs : cs'.size = cs.size) (hi : (P.info? ty).map (·.size) = some cs'.size) (h1 : cs'.all (·.oneCell') = true)
    (h : ∀ w', Kn M W w' l' → K (a.put op.dst undef) w') : op.wp P a w K Q :=
  wp_kn_store KN ty x y ho g 0 hx (.agg cs') hy cs T cs' r (putL_all _ _ hs) (by show 0 + cs'.size ≤ cs.size; omega) hi h1 h
/-- A part of the block is written over. -/
theorem wpList_kn_storeA (KN : Kn M W w l) (hw : Region.wanted op (yielded ops a.tmps) = true) (ty : TypeId) (x y : Operand) (ho : op.op = .store ty x y) (g o : Nat) (hx : a.eval x = .pointer (some ⟨g, o, none⟩)) (part : Array Value) (hy : a.eval y = .agg part) (cs : Array Value) (T : TypeId)
    (r : Repl l g (At cs T) (At (putL cs o part.toList) T) l') (hle : o + part.size ≤ cs.size) (hi : (P.info? ty).map (·.size) = some part.size) (h1 : part.all (·.oneCell') = true)
    (h : ∀ w', Kn M W w' l' → wpList P ops Q rest (a.put op.dst undef) w') : wpList P ops Q (op :: rest) a w :=
  wpList_kn_store KN hw ty x y ho g o hx (.agg part) hy cs T _ r rfl hle hi h1 h
theorem wpList_kn_alloc (KN : Kn M W w l) (hw : Region.wanted op (yielded ops a.tmps) = true) (T : TypeId) (ho : op.op = .alloc T) (d : Tmp) (hd : op.dst = some d) (cs : Array Value) (hz : ((P.info? T).bind (·.zero)).map (·.cells) = some cs)
    (h : ∀ g w', W.heap.size ≤ g → Kn M W w' ((g, At cs T) :: l) → wpList P ops Q rest (a.put (some d) (.pointer (some ⟨g, 0, none⟩))) w') : wpList P ops Q (op :: rest) a w :=
  wpList_want hw fun _ hK => by
    cases hq : P.info? T with
    | none => simp [hq] at hz
    | some i =>
      cases hzz : i.zero with
      | none => simp [hq, hzz] at hz
      | some z =>
        have hzc : z.cells = cs := by simpa [hq, hzz] using hz
        unfold Oper.wp execOp
        simp [ho, Sem.run_bind, Instr.alloc, zeroValue, typeInfo, hq, hzz, newVar, newRow, run_newObj_alloc, hzc]
        rw [Oper.upon_value, hd]
        exact hK _ _ (h _ _ KN.size (KN.alloc (.cells cs T) rfl))
theorem wpList_kn_box (KN : Kn M W w l) (hw : Region.wanted op (yielded ops a.tmps) = true) (T : TypeId) (x : Operand) (ho : op.op = .box T x) (d : Tmp) (hd : op.dst = some d) (v : Value) (hx : a.eval x = v) (cs : Array Value) (hz : v.cells = cs)
    (h : ∀ g w', W.heap.size ≤ g → Kn M W w' ((g, At cs T) :: l) → wpList P ops Q rest (a.put (some d) (.pointer (some ⟨g, 0, none⟩))) w') : wpList P ops Q (op :: rest) a w :=
  wpList_want hw fun _ hK => by
    unfold Oper.wp execOp
    simp [ho, hx, Sem.run_bind, Instr.box, newVar, newRow, run_newObj_alloc, hz]
    rw [Oper.upon_value, hd]
    exact hK _ _ (h _ _ KN.size (KN.alloc (.cells cs T) rfl))
theorem wpList_kn_boxA (KN : Kn M W w l) (hw : Region.wanted op (yielded ops a.tmps) = true) (T : TypeId) (x : Operand) (ho : op.op = .box T x) (d : Tmp) (hd : op.dst = some d) (cs : Array Value) (hx : a.eval x = .agg cs)
    (h : ∀ g w', W.heap.size ≤ g → Kn M W w' ((g, At cs T) :: l) → wpList P ops Q rest (a.put (some d) (.pointer (some ⟨g, 0, none⟩))) w') : wpList P ops Q (op :: rest) a w :=
  wpList_kn_box KN hw T x ho d hd _ hx cs rfl h
theorem kn_yields1 {S : World → Prop} (hw : Region.wanted op (yielded ops a.tmps) = true) (ty : TypeId) (x : Operand) (ho : op.op = .load ty x) (g o : Nat) (hx : a.eval x = .pointer (some ⟨g, o, none⟩)) (cs : Array Value) (T : TypeId)
    (hS : ∀ w, S w → BlkT w g cs T) (v : Value) (hv : cs[o]? = some v) (d : TypeDesc) (hu : P.underlying ty = some d) (hd : d.isRow = false) : YieldsIf P ops S op v a :=
  .inl ⟨hw, fun w hw' => by
    unfold execOp
    simp only [ho, hx, Sem.run_bind, run_loadAt_one g o ty v ((blk_cell (hS w hw') o).trans hv) d hu hd]
    rfl⟩
theorem kn_yields_cell {S : World → Prop} (hw : Region.wanted op (yielded ops a.tmps) = true) (ty : TypeId) (x : Operand) (ho : op.op = .load ty x) (g o : Nat) (hx : a.eval x = .pointer (some ⟨g, o, none⟩))
    (v : Value) (hS : ∀ w, S w → w.cell? ⟨g, o, none⟩ = some v) (d : TypeDesc) (hu : P.underlying ty = some d) (hd : d.isRow = false) : YieldsIf P ops S op v a :=
  .inl ⟨hw, fun w hw' => by
    unfold execOp
    simp only [ho, hx, Sem.run_bind, run_loadAt_one g o ty v (hS w hw') d hu hd]
    rfl⟩
theorem kn_yieldsN {S : World → Prop} (hw : Region.wanted op (yielded ops a.tmps) = true) (ty : TypeId) (x : Operand) (ho : op.op = .load ty x) (g o : Nat) (hx : a.eval x = .pointer (some ⟨g, o, none⟩)) (cs : Array Value) (T : TypeId)
    (hS : ∀ w, S w → BlkT w g cs T) (part : Array Value) (hp : cs.extract o (o + part.size) = part) (d : TypeDesc) (hu : P.underlying ty = some d) (hd : d.isRow = true) (hi : (P.info? ty).map (·.size) = some part.size) : YieldsIf P ops S op (.agg part) a :=
  yields_load hw ty x ho g o hx part d (fun w hw' j v hj => by
    have hj' : part[j]? = some v := by simpa using hj
    have hl : j < part.size := (Array.getElem?_eq_some_iff.1 hj').1
    rw [blk_cell (hS w hw')]
    rw [← hp, Array.getElem?_extract] at hj'
    split at hj'
    · exact hj'
    · cases hj') hu hd hi
end
/-! ### The same, what the walk finds by itself left out -/
section
variable {P : Program} {ops : Array Oper} {rest : List Oper} {op : Oper} {a : Act} {w W : World} {Q : Exit → Act → World → Prop} {M : List Nat} {l l' : Ents} {x y : Operand} {g o : Nat} {cs cs' part : Array Value} {T : TypeId} {v : Value} {d : TypeDesc} {q : Tmp}
theorem ks_load1 (KN : Kn M W w l) (ty : TypeId) (hu : P.underlying ty = some d) (h : wpList P ops Q rest (a.put op.dst v) w) (ho : op.op = .load ty x := by exact rfl)
    (hx : a.eval x = .pointer (some ⟨g, o, none⟩) := by exact rfl) (m : Has l g (At cs T) := by repeat (first | exact Has.here | refine Has.there ?_)) (hv : cs[o]? = some v := by (repeat (first | ((with_reducible refine get_hit ?_); exact Nat.le_of_ble_eq_true (by kernel_rfl)) | ((with_reducible refine (get_miss ?_).trans ?_); (focus kernel_rfl)) | ((with_reducible refine (get_pmiss ?_).trans ?_); (focus kernel_rfl)))); all_goals (conv => lhs; whnf; arg 1; whnf)) (hd : d.isRow = false := by exact rfl) (hw : Region.wanted op (yielded ops a.tmps) = true := by rfl) : wpList P ops Q (op :: rest) a w :=
  wpList_kn_load1 KN hw ty x ho g o hx cs T m v hv d hu hd h
theorem ks_loadW (KN : Kn M W w l) (ty : TypeId) (hu : P.underlying ty = some d) (h : wpList P ops Q rest (a.put op.dst (.agg cs)) w) (ho : op.op = .load ty x := by exact rfl)
    (hx : a.eval x = .pointer (some ⟨g, 0, none⟩) := by exact rfl) (m : Has l g (At cs T) := by repeat (first | exact Has.here | refine Has.there ?_)) (hd : d.isRow = true := by exact rfl) (hi : (P.info? ty).map (·.size) = some cs.size := by kernel_rfl) (hw : Region.wanted op (yielded ops a.tmps) = true := by rfl) : wpList P ops Q (op :: rest) a w :=
  wpList_kn_loadW KN hw ty x ho g hx cs T m d hu hd hi h
theorem ks_storeW (KN : Kn M W w l) (ty : TypeId) (h : ∀ w', Kn M W w' l' → wpList P ops Q rest (a.put op.dst undef) w') (ho : op.op = .store ty x y := by exact rfl)
    (hx : a.eval x = .pointer (some ⟨g, 0, none⟩) := by exact rfl) (hy : a.eval y = .agg cs' := by exact rfl) (r : Repl l g (At cs T) (At cs' T) l' := by repeat (first | exact Repl.here | apply Repl.there)) (hs : cs'.size = cs.size := by kernel_rfl) (hi : (P.info? ty).map (·.size) = some cs'.size := by kernel_rfl) (h1 : cs'.all (·.oneCell') = true := by kernel_rfl) (hw : Region.wanted op (yielded ops a.tmps) = true := by rfl) : wpList P ops Q (op :: rest) a w :=
  wpList_kn_storeW KN hw ty x y ho g hx cs' hy cs T r hs hi h1 h
theorem ks_storeA (KN : Kn M W w l) (ty : TypeId) (h : ∀ w', Kn M W w' l' → wpList P ops Q rest (a.put op.dst undef) w') (ho : op.op = .store ty x y := by exact rfl)
    (hx : a.eval x = .pointer (some ⟨g, o, none⟩) := by exact rfl) (hy : a.eval y = .agg part := by exact rfl) (r : Repl l g (At cs T) (At (putL cs o part.toList) T) l' := by repeat (first | exact Repl.here | apply Repl.there)) (hle : o + part.size ≤ cs.size := by (try simp only [Array.size_setIfInBounds, putL_size]); first | exact Nat.le_of_ble_eq_true rfl | (simp; omega)) (hi : (P.info? ty).map (·.size) = some part.size := by kernel_rfl) (h1 : part.all (·.oneCell') = true := by kernel_rfl) (hw : Region.wanted op (yielded ops a.tmps) = true := by rfl) : wpList P ops Q (op :: rest) a w :=
  wpList_kn_storeA KN hw ty x y ho g o hx part hy cs T r hle hi h1 h
theorem ks_alloc (KN : Kn M W w l) (ty : TypeId) (cs : Array Value) (h : ∀ g w', W.heap.size ≤ g → Kn M W w' ((g, At cs ty) :: l) → wpList P ops Q rest (a.put (some q) (.pointer (some ⟨g, 0, none⟩))) w') (ho : op.op = .alloc ty := by exact rfl) (hd : op.dst = some q := by exact rfl)
    (hz : ((P.info? ty).bind (·.zero)).map (·.cells) = some cs := by kernel_rfl) (hw : Region.wanted op (yielded ops a.tmps) = true := by rfl) : wpList P ops Q (op :: rest) a w :=
  wpList_kn_alloc KN hw ty ho q hd cs hz h
theorem ks_boxA (KN : Kn M W w l) (ty : TypeId) (h : ∀ g w', W.heap.size ≤ g → Kn M W w' ((g, At cs ty) :: l) → wpList P ops Q rest (a.put (some q) (.pointer (some ⟨g, 0, none⟩))) w') (ho : op.op = .box ty x := by exact rfl) (hd : op.dst = some q := by exact rfl)
    (hx : a.eval x = .agg cs := by exact rfl) (hw : Region.wanted op (yielded ops a.tmps) = true := by rfl) : wpList P ops Q (op :: rest) a w :=
  wpList_kn_boxA KN hw ty x ho q hd cs hx h
end
end
section
open Go Go.ChangeShapes Go.WideShapes Go.RowKit

def packed (P : Program) (r : TypeId → Option (List TypeId)) : List Field → Nat → Option (List TypeId)
  | [], _ => some []
  | f :: fs, off => if f.offset = off then
      match r f.type with
      | some l => if l.length = P.cellsOf f.type then (packed P r fs (off + l.length)).map (l ++ ·) else none
      | none => none
    else none
/-- The types of a type's cells, in their order: structs and arrays laid open. -/
def leaves (P : Program) : Nat → TypeId → Option (List TypeId)
  | 0, _ => none
  | n + 1, t => match P.underlying t with
    | some (.struct fs) => match packed P (leaves P n) fs.toList 0 with
      | some l => if l.length = P.cellsOf t then some l else none
      | none => none
    | some (.array k e) => match leaves P n e with
      | some l => if l.length = P.cellsOf e ∧ k * l.length = P.cellsOf t then some (List.replicate k l).flatten else none
      | none => none
    | _ => if P.cellsOf t = 1 then some [t] else none

section
variable {H : Type} {enc : TypeId × Value → H} {P : Program} {w : World} {base : Nat} {spare : Nat → Bool} {held : Bool}

/-- These cells read as a value of type t, every string and slice in it within the reach. -/
def Rd (enc : TypeId × Value → H) (P : Program) (w : World) (base : Nat) (spare : Nat → Bool) (held : Bool) (t : TypeId) (cs : List Value) : Prop :=
  ∃ m y, DataW.trod enc P w base spare held m t cs = some y ∧ ∀ n ∈ y.1.weights P t, n ≤ reachBytes
theorem weights_all {e : TypeId} {n : Nat} {d : DataW H} : ∀ {ds : List (DataW H)}, d ∈ ds → n ∈ d.weights P e → n ∈ DataW.weightsAll P e ds
  | [], h, _ => by cases h
  | x :: r, h, hn => by
    simp only [DataW.weightsAll, List.mem_append]
    rcases List.mem_cons.1 h with rfl | h
    · exact .inl hn
    · exact .inr (weights_all h hn)
theorem Rd.struct {t : TypeId} {cs : List Value} {fs : Array Field} (h : Rd enc P w base spare held t cs) (hu : P.underlying t = some (.struct fs)) :
    cs.length = P.cellsOf t ∧ ∀ f ∈ fs.toList, Rd enc P w base spare held f.type ((cs.drop f.offset).take (P.cellsOf f.type)) := by
  obtain ⟨m, y, ht, hw⟩ := h
  obtain ⟨xs, n', _, rfl, hlen, hxl, hf⟩ := DataW.trod_struct hu ht
  refine ⟨hlen, fun f hfm => ?_⟩
  obtain ⟨i, hi⟩ := List.getElem?_of_mem hfm
  have hi' : fs[i]? = some f := by simpa using hi
  have h1 := hf i f hi'
  have hil : i < fs.size := (Array.getElem?_eq_some_iff.1 hi').1
  rw [List.getElem?_eq_getElem (by omega)] at h1
  refine ⟨_, _, h1, fun n hn => hw n ?_⟩
  simp only [DataW.weights, hu]
  exact DataW.weights_mem_each (j := i) (t := f.type) (d := (xs[i]'(by omega)).1) (by simp [hi']) (by rw [List.getElem?_map, List.getElem?_eq_getElem (by omega)]; rfl) n hn
theorem Rd.array {t e : TypeId} {k : Nat} {cs : List Value} (h : Rd enc P w base spare held t cs) (hu : P.underlying t = some (.array k e)) :
    cs.length = P.cellsOf t ∧ ∀ i, i < k → Rd enc P w base spare held e ((cs.drop (i * P.cellsOf e)).take (P.cellsOf e)) := by
  obtain ⟨m, y, ht, hw⟩ := h
  obtain ⟨xs, n', _, rfl, hlen, hxl, hf⟩ := DataW.trod_array hu ht
  refine ⟨hlen, fun i hi => ?_⟩
  have h1 := hf i hi
  rw [List.getElem?_eq_getElem (by omega)] at h1
  refine ⟨_, _, h1, fun n hn => hw n ?_⟩
  simp only [DataW.weights, hu]
  exact weights_all (List.mem_map.2 ⟨_, List.getElem_mem _, rfl⟩) hn
theorem piece_get {α : Type} (cs : List α) (off c j : Nat) (h : j < c) : ((cs.drop off).take c)[j]? = cs[off + j]? := by
  rw [List.getElem?_take, if_pos h, List.getElem?_drop]

theorem packed_open {r : TypeId → Option (List TypeId)} {cs : List Value} {R : TypeId → Value → Prop}
    (hr : ∀ (u : TypeId) (l : List TypeId) (ds : List Value), r u = some l → Rd enc P w base spare held u ds → ds.length = l.length ∧ ∀ (j : Nat) (t' : TypeId), l[j]? = some t' → ∃ v, ds[j]? = some v ∧ R t' v) :
    ∀ (fs : List Field) (off : Nat) (ts : List TypeId), packed P r fs off = some ts →
    (∀ f ∈ fs, Rd enc P w base spare held f.type ((cs.drop f.offset).take (P.cellsOf f.type))) →
    ∀ (j : Nat) (t' : TypeId), ts[j]? = some t' → ∃ v, cs[off + j]? = some v ∧ R t' v
  | [], off, ts, h, _, j, t', hj => by
    simp only [packed, Option.some.injEq] at h
    subst h; simp at hj
  | f :: fs, off, ts, h, hf, j, t', hj => by
    simp only [packed] at h
    split at h
    case isFalse => cases h
    rename_i ho
    split at h
    case h_2 => cases h
    rename_i l hl
    split at h
    case isFalse => cases h
    rename_i hc
    simp only [Option.map_eq_some_iff] at h
    obtain ⟨ts', h', rfl⟩ := h
    by_cases hjl : j < l.length
    · rw [List.getElem?_append_left hjl] at hj
      obtain ⟨_, g⟩ := hr f.type l _ hl (hf f (by simp))
      obtain ⟨v, hv, hR⟩ := g j t' hj
      rw [piece_get _ _ _ _ (by omega), ho] at hv
      exact ⟨v, hv, hR⟩
    · rw [List.getElem?_append_right (by omega)] at hj
      have := packed_open hr fs (off + l.length) ts' h' (fun f' hf' => hf f' (by simp [hf'])) (j - l.length) t' hj
      rwa [show off + l.length + (j - l.length) = off + j from by omega] at this

/-- A leaf: a cell that reads by its type. -/
def Leaf (enc : TypeId × Value → H) (P : Program) (w : World) (base : Nat) (spare : Nat → Bool) (held : Bool) (t : TypeId) (v : Value) : Prop := Rd enc P w base spare held t [v]

theorem replicate_get {α : Type} (l : List α) : ∀ (k j : Nat) (x : α), ((List.replicate k l).flatten)[j]? = some x → ∃ i q, i < k ∧ j = i * l.length + q ∧ l[q]? = some x
  | 0, j, x, h => by simp at h
  | k + 1, j, x, h => by
    rw [List.replicate_succ, List.flatten_cons] at h
    by_cases hj : j < l.length
    · rw [List.getElem?_append_left hj] at h
      exact ⟨0, j, by omega, by omega, h⟩
    · rw [List.getElem?_append_right (by omega)] at h
      obtain ⟨i, q, hi, hq, hx⟩ := replicate_get l k _ x h
      exact ⟨i + 1, q, by omega, by rw [Nat.succ_mul]; omega, hx⟩

theorem leaves_open : ∀ (n : Nat) (t : TypeId) (ts : List TypeId) (cs : List Value), leaves P n t = some ts → Rd enc P w base spare held t cs →
    cs.length = ts.length ∧ ∀ (j : Nat) (t' : TypeId), ts[j]? = some t' → ∃ v, cs[j]? = some v ∧ Leaf enc P w base spare held t' v
  | 0, _, _, _, h, _ => by cases h
  | n + 1, t, ts, cs, h, hd => by
    have one : P.cellsOf t = 1 → cs.length = P.cellsOf t → ts = [t] → cs.length = ts.length ∧ ∀ (j : Nat) (t' : TypeId), ts[j]? = some t' → ∃ v, cs[j]? = some v ∧ Leaf enc P w base spare held t' v := by
      rintro hc hl rfl
      refine ⟨by simp; omega, fun j t' hj => ?_⟩
      match cs, hl with
      | [v], _ =>
        match j, hj with
        | 0, hj => simp at hj; subst hj; exact ⟨v, rfl, hd⟩
        | j + 1, hj => simp at hj
      | [], hl => rw [hc] at hl; simp at hl
      | _ :: _ :: _, hl => rw [hc] at hl; simp at hl
    simp only [leaves] at h
    split at h
    · rename_i fs hu
      split at h
      case h_2 => cases h
      rename_i l hp
      split at h
      case isFalse => cases h
      rename_i hc
      cases h
      obtain ⟨hlen, hf⟩ := hd.struct hu
      refine ⟨by omega, fun j t' hj => ?_⟩
      have := packed_open (w := w) (base := base) (spare := spare) (held := held) (enc := enc) (cs := cs) (R := Leaf enc P w base spare held) (fun u l' ds hl' hd => leaves_open n u l' ds hl' hd) fs.toList 0 _ hp hf j t' hj
      simpa using this
    · rename_i k e hu
      split at h
      case h_2 => cases h
      rename_i l hl
      split at h
      case isFalse => cases h
      rename_i hc
      cases h
      obtain ⟨hlen, hf⟩ := hd.array hu
      refine ⟨by rw [hlen, ← hc.2]; simp, fun j t' hj => ?_⟩
      obtain ⟨i, q, hi, hjq, hq⟩ := replicate_get l k j t' hj
      obtain ⟨_, g⟩ := leaves_open n e l _ hl (hf i hi)
      obtain ⟨v, hv, hR⟩ := g q t' hq
      have hql : q < l.length := (List.getElem?_eq_some_iff.1 hq).1
      rw [piece_get _ _ _ _ (by omega), ← hc.1, ← hjq] at hv
      exact ⟨v, hv, hR⟩
    · rename_i hns hna
      split at h
      case isFalse => cases h
      rename_i hc
      cases h
      have hl : cs.length = P.cellsOf t := by
        obtain ⟨m, y, ht, _⟩ := hd
        cases m with
        | zero => simp [DataW.trod] at ht
        | succ m =>
          rw [hc]
          unfold DataW.trod at ht
          cases hu : P.underlying t with
          | none => rw [hu] at ht; simp at ht
          | some d =>
            rw [hu] at ht
            cases cs with
            | nil => cases d <;> simp at ht <;> first | exact absurd hu (hns _) | exact absurd hu (hna _ _)
            | cons c r =>
              cases r with
              | nil => rfl
              | cons c2 r2 => cases d <;> simp at ht <;> first | exact absurd hu (hns _) | exact absurd hu (hna _ _)
      exact one hc hl rfl

theorem Leaf.int {t : TypeId} {k : IntKind} {v : Value} (h : Leaf enc P w base spare held t v) (ht : P.underlying t = some (.int k)) : ∃ n, v = .int k n ∧ (Lit.int k n).wf = true := by
  obtain ⟨m, y, h, _⟩ := h
  obtain ⟨n, hc, _, hw⟩ := DataW.trod_int ht h
  exact ⟨n, by simpa using hc, hw⟩
theorem Leaf.bool {t : TypeId} {v : Value} (h : Leaf enc P w base spare held t v) (ht : P.underlying t = some .bool) : ∃ b, v = .bool b := by
  obtain ⟨m, y, h, _⟩ := h
  obtain ⟨n, hc, _⟩ := DataW.trod_bool ht h
  exact ⟨n, by simpa using hc⟩
theorem Leaf.string {t : TypeId} {v : Value} (h : Leaf enc P w base spare held t v) (ht : P.underlying t = some .string) : ∃ s : ByteArray, v = .string s ∧ s.size ≤ 140737488351232 := by
  obtain ⟨m, y, h, hs⟩ := h
  obtain ⟨n, hc, rfl, hw⟩ := DataW.trod_string ht h
  exact ⟨n, by simpa using hc, hs n.size (by simp [DataW.weights])⟩


/-- v is a slice whose elements, of sz cells each, are these. -/
def Row (w : World) (v : Value) (sz : Nat) (L : List (List Value)) : Prop :=
  L.length ≤ maxLen ∧ ((L = [] ∧ ∃ a c, v = .slice a 0 c) ∨ ∃ b off cap, v = .slice (some ⟨b, off, none⟩) L.length cap ∧ 0 < L.length ∧ L.length ≤ cap ∧ cap ≤ maxLen ∧ b < w.heap.size ∧
    ∀ i c j x, L[i]? = some c → c[j]? = some x → w.cell? ⟨b, off + i * sz + j, none⟩ = some x)
theorem Row.below {w w' : World} {v : Value} {sz : Nat} {L : List (List Value)} (h : Row w v sz L) (hb : Below w.heap.size w w') : Row w' v sz L := by
  refine ⟨h.1, ?_⟩
  rcases h.2 with h2 | ⟨b, off, cap, hv, h0, hl, hm, hbb, hc⟩
  · exact .inl h2
  · exact .inr ⟨b, off, cap, hv, h0, hl, hm, Nat.lt_of_lt_of_le hbb hb.size, fun i c j x hi hj => (hb.cell (by exact hbb)).trans (hc i c j x hi hj)⟩
theorem Row.form {w : World} {v : Value} {sz : Nat} {L : List (List Value)} (h : Row w v sz L) : ∃ a c, v = .slice a L.length c := by
  rcases h.2 with ⟨rfl, a, c, rfl⟩ | ⟨b, off, cap, rfl, _⟩
  · exact ⟨a, c, rfl⟩
  · exact ⟨_, _, rfl⟩
theorem cell_spot {w : World} {a : Addr} {v : Value} (h : w.cell? a = some v) : a = ⟨a.block, a.off, none⟩ ∧ a.block < w.heap.size := by
  unfold World.cell? at h
  split at h
  · rename_i c e m hb
    split at h
    · cases h
    · rename_i hs
      obtain ⟨b, o, s⟩ := a
      cases s with
      | some s => simp at hs
      | none => exact ⟨rfl, (Array.getElem?_eq_some_iff.1 hb).1⟩
  · cases h
theorem add_spot {a : Addr} (h : a = ⟨a.block, a.off, none⟩) (n : Nat) : a.add n = ⟨a.block, a.off + n, none⟩ := by
  unfold Addr.add
  split
  · rename_i h0; subst h0; exact h
  · rfl
theorem row_of {t e : TypeId} {v : Value} (hsp : ∀ b, spare b = true) (ht : P.underlying t = some (.slice e)) (hz : 0 < P.cellsOf e) (h : Rd enc P w base spare held t [v]) :
    ∃ L : List (List Value), Row w v (P.cellsOf e) L ∧ (∀ c ∈ L, Rd enc P w base spare held e c) ∧ L.length * P.bytesOf e ≤ reachBytes := by
  obtain ⟨fuel, y, hf, hw⟩ := h
  rcases Go.Deep.open_slice ht hf with ⟨hcs, _⟩ | ⟨x, len, cap, m, n, D, Pl, hcs, _, hl, hm, hmm, rfl, hi⟩
  · simp only [List.cons.injEq, and_true] at hcs
    subst hcs
    exact ⟨[], ⟨by simp, .inl ⟨rfl, _, _, rfl⟩⟩, by simp, by simp⟩
  · simp only [List.cons.injEq, and_true] at hcs
    subst hcs
    rw [hsp, if_pos rfl] at hmm
    have hall : ∀ i, i < len → ∃ cs', w.cells? base (x.add (i * P.cellsOf e)) (P.cellsOf e) = some cs' ∧ DataW.trod enc P w base spare held n e cs' = some (D i, Pl i) := fun i h => hi i (by omega)
    refine ⟨(List.range len).map fun i => (w.cells? base (x.add (i * P.cellsOf e)) (P.cellsOf e)).getD [], ⟨by simp; omega, ?_⟩, ?_, ?_⟩
    · by_cases h0 : len = 0
      · subst h0; exact .inl ⟨rfl, _, _, rfl⟩
      · have hsp : x = ⟨x.block, x.off, none⟩ ∧ x.block < w.heap.size := by
          obtain ⟨cs', h1, _⟩ := hall 0 (by omega)
          obtain ⟨_, hlen, hc⟩ := World.cells?_some h1
          have := hc 0 hz
          rw [List.getElem?_eq_getElem (by omega)] at this
          have e0 : (x.add (0 * P.cellsOf e)).add 0 = x := by simp [Addr.add]
          rw [e0] at this
          exact cell_spot this
        refine .inr ⟨x.block, x.off, cap, by simp; exact hsp.1, by simp; omega, by simpa using hl, hm, hsp.2, ?_⟩
        intro i c' j y hi' hj
        have hil : i < len := by
          have := (List.getElem?_eq_some_iff.1 hi').1
          simpa using this
        obtain ⟨cs', h1, _⟩ := hall i hil
        simp only [List.getElem?_map, List.getElem?_range hil, Option.map_some, h1, Option.getD_some, Option.some.injEq] at hi'
        subst hi'
        obtain ⟨_, hlen, hc⟩ := World.cells?_some h1
        have hjl : j < P.cellsOf e := by have := (List.getElem?_eq_some_iff.1 hj).1; omega
        have := hc j hjl
        rw [add_spot hsp.1, add_spot rfl] at this
        exact this.trans hj
    · intro c hc
      simp only [List.mem_map, List.mem_range] at hc
      obtain ⟨i, hil, rfl⟩ := hc
      obtain ⟨cs', h1, h2⟩ := hall i hil
      rw [h1]
      refine ⟨_, _, h2, fun q hq => hw q ?_⟩
      simp only [DataW.weights, ht, List.mem_cons, List.mem_append]
      exact .inr (.inl (weights_all (List.mem_map.2 ⟨i, by simpa using hil, rfl⟩) hq))
    · have := hw ((((List.range len).map D).length + ((List.range (m - len)).map fun j => D (len + j)).length) * P.bytesOf e) (by simp [DataW.weights, ht])
      simp only [List.length_map, List.length_range] at this ⊢
      exact Nat.le_trans (Nat.mul_le_mul_right _ (by omega)) this
theorem Rd.of {t : TypeId} {v : Value} {d : DataW H} {p : List MemPlace} (h : DataW.Trod enc P w base spare held t v d p) (hs : ∀ n ∈ d.weights P t, n ≤ reachBytes) : Rd enc P w base spare held t v.cells.toList := by
  obtain ⟨m, hm⟩ := h
  exact ⟨m, _, hm, hs⟩
/-- An argument that is a slice. -/
theorem open_row {t e : TypeId} {v : Value} {d : DataW H} {p : List MemPlace} {r : Reach} {b0 : Nat} (ht : P.underlying t = some (.slice e)) (hz : 0 < P.cellsOf e) (hok : Value.okWide P w r b0 t v)
    (h : DataW.Trod enc P w base (fun _ => true) held t v d p) (hs : ∀ n ∈ d.weights P t, n ≤ reachBytes) :
    ∃ L : List (List Value), Row w v (P.cellsOf e) L ∧ (∀ c ∈ L, Rd enc P w base (fun _ => true) held e c) ∧ L.length * P.bytesOf e ≤ reachBytes := by
  obtain ⟨a, len, cap, rfl⟩ := okWide_slice ht hok
  exact row_of (fun _ => rfl) ht hz (Rd.of h hs)
end
end
section
open Go Go.RowKit Go.BigFrame

theorem flat_get {α : Type} (sz : Nat) : ∀ (L : List (List α)), (∀ c ∈ L, c.length = sz) → ∀ (i j : Nat) (c : List α), L[i]? = some c → j < sz → L.flatten[i * sz + j]? = c[j]?
  | [], _, i, j, c, h, _ => by simp at h
  | d :: L, hl, i, j, c, h, hj => by
    have hd := hl d (by simp)
    rw [List.flatten_cons]
    cases i with
    | zero =>
      simp only [List.getElem?_cons_zero, Option.some.injEq] at h
      subst h
      rw [Nat.zero_mul, Nat.zero_add, List.getElem?_append_left (by omega)]
    | succ i =>
      simp only [List.getElem?_cons_succ] at h
      rw [List.getElem?_append_right (by rw [hd, Nat.succ_mul]; omega), hd, show (i + 1) * sz + j - sz = i * sz + j from by rw [Nat.succ_mul]; omega]
      exact flat_get sz L (fun c hc => hl c (by simp [hc])) i j c h hj
theorem flat_len {α : Type} (sz : Nat) : ∀ (L : List (List α)), (∀ c ∈ L, c.length = sz) → L.flatten.length = L.length * sz
  | [], _ => by simp
  | d :: L, hl => by
    rw [List.flatten_cons, List.length_append, flat_len sz L (fun c hc => hl c (by simp [hc])), hl d (by simp), List.length_cons, Nat.succ_mul]; omega
/-- What a row of the call's own reads as. -/
theorem Row.of_own {w : World} {base : Nat} {e : TypeId} {sz : Nat} {v : Value} {n : Nat} {L : List (List Value)} (hl : ∀ c ∈ L, c.length = sz) (hn : n = L.length) (h : w.ownsRow base e sz v n L.flatten) : Row w v sz L := by
  subst hn
  rcases h.2 with ⟨rfl, h0⟩ | ⟨g, cap, cur, rfl, _, hg, hnc, hcm, hcs, ht⟩
  · exact ⟨by omega, .inl ⟨List.eq_nil_of_length_eq_zero h0, _, _, rfl⟩⟩
  · refine ⟨by omega, ?_⟩
    by_cases h0 : L = []
    · subst h0; exact .inl ⟨rfl, _, _, rfl⟩
    · refine .inr ⟨g, 0, cap, rfl, ?_, hnc, hcm, (Array.getElem?_eq_some_iff.1 hg).1, fun i c j x hi hj => ?_⟩
      · cases L with
        | nil => exact absurd rfl h0
        | cons _ _ => simp
      · have hjl : j < sz := by have := (List.getElem?_eq_some_iff.1 hj).1; rw [hl c (List.mem_of_getElem? hi)] at this; exact this
        have hil : i < L.length := (List.getElem?_eq_some_iff.1 hi).1
        have hf := flat_get sz L hl i j c hi hjl
        rw [hj] at hf
        have hlt : i * sz + j < L.length * sz := by
          have : (i + 1) * sz ≤ L.length * sz := Nat.mul_le_mul_right _ hil
          rw [Nat.succ_mul] at this; omega
        rw [Nat.zero_add]
        simp only [World.cell?, hg]
        rw [← ht, List.getElem?_take, if_pos hlt] at hf
        simpa using hf
section
variable {P : Program} {ops : Array Oper} {rest : List Oper} {op : Oper} {a : Act} {w W : World} {K : Act → World → Prop} {Q : Exit → Act → World → Prop} {M : List Nat} {l : Ents}
end
end
section
open Go Go.RowKit Go.BigFrame

def partV (P : Program) (t : TypeId) (cs : Array Value) (off : Nat) : Option Value :=
  match P.underlying t with
  | some d => if d.isRow = true then (P.info? t).map fun i => .agg (cs.extract off (off + i.size)) else cs[off]?
  | none => none
theorem run_part {P : Program} {t : TypeId} {cs : Array Value} {off : Nat} {a : Value} (w : World) (h : partV P t cs off = some a) : (part t cs off).run P w = .ok a w := by
  unfold partV at h
  cases hu : P.underlying t with
  | none => simp [hu] at h
  | some d =>
    simp only [hu] at h
    by_cases hd : d.isRow = true
    · rw [if_pos hd] at h
      cases hi : P.info? t with
      | none => simp [hi] at h
      | some i =>
        simp only [hi, Option.map_some, Option.some.injEq] at h
        subst h
        have hagg : (isAgg t).run P w = .ok true w := by
          unfold isAgg
          rw [Sem.run_bind, run_underlying hu w]
          cases d <;> simp_all
        simp [part, hagg, sizeOf, typeInfo, hi]
    · rw [if_neg hd] at h
      have hagg : (isAgg t).run P w = .ok false w := by
        unfold isAgg
        rw [Sem.run_bind, run_underlying hu w]
        cases d <;> simp_all
      simp [part, hagg, h]
section
variable {P : Program} {ops : Array Oper} {rest : List Oper} {op : Oper} {a : Act} {w : World} {K : Act → World → Prop} {Q : Exit → Act → World → Prop}
end
end
section
open Go Go.RowKit Go.BigFrame
section
variable {P : Program} {ops : Array Oper} {rest : List Oper} {op : Oper} {a : Act} {w W : World} {K : Act → World → Prop} {Q : Exit → Act → World → Prop} {M : List Nat} {l l' : Ents}
theorem wp_kn_alloc (KN : Kn M W w l) (T : TypeId) (ho : op.op = .alloc T) (d : Tmp) (hd : op.dst = some d) (cs : Array Value) (hz : ((P.info? T).bind (·.zero)).map (·.cells) = some cs)
    (h : ∀ g w', W.heap.size ≤ g → Kn M W w' ((g, At cs T) :: l) → Below w.heap.size w w' → K (a.put (some d) (.pointer (some ⟨g, 0, none⟩))) w') : op.wp P a w K Q := by
  cases hq : P.info? T with
  | none => simp [hq] at hz
  | some i =>
    cases hzz : i.zero with
    | none => simp [hq, hzz] at hz
    | some z =>
      have hzc : z.cells = cs := by simpa [hq, hzz] using hz
      unfold Oper.wp execOp
      simp [ho, Sem.run_bind, Instr.alloc, zeroValue, typeInfo, hq, hzz, newVar, newRow, run_newObj_alloc, hzc]
      rw [Oper.upon_value, hd]
      exact h _ _ KN.size (KN.alloc (.cells cs T) rfl) ((Below.refl _ _).alloc (Nat.le_refl _) _)
/-- A slice literal. -/
theorem wpList_kn_lit (KN : Kn M W w l) (hg : op.guard = none) (t e : TypeId) (len : Nat) (parts : Array (Nat × Operand)) (ho : op.op = .buildSlice t len parts) (d : Tmp) (hd : op.dst = some d) (hu : P.underlying t = some (.slice e)) (cells : Array Value)
    (hf : P.builtSlice e len (parts.map fun (i, x) => (i, a.eval x)).toList = some cells)
    (h : ∀ g w', W.heap.size ≤ g → Kn M W w' ((g, At cells e) :: l) → wpList P ops Q rest (a.put (some d) (.slice (some ⟨g, 0, none⟩) len len)) w') : wpList P ops Q (op :: rest) a w :=
  Go.Great.wpList_buildSliceTo hg t e len parts ho _ rfl (some d) hd hu cells hf (h _ _ KN.size (KN.alloc (.cells cells e) rfl))
end
end
section
open Go Go.RowKit Go.BigFrame

/-- The block of a slice that grows: room for cap elements, the first ones are those of L. -/
def CapAt (e : TypeId) (sz cap : Nat) (L : List (List Value)) : Obj → Prop := fun o => ∃ cur : Array Value, o = .cells cur e ∧ cur.size = cap * sz ∧ cur.toList.take (L.length * sz) = L.flatten
/-- A slice of the call's own and its entry among the known blocks (none as long as it is nil). -/
inductive OwnT (e : TypeId) (sz : Nat) : Value → List (List Value) → Ents → Prop
  | nil : OwnT e sz (.slice none 0 0) [] []
  | blk {g cap : Nat} {L : List (List Value)} (hn : L.length ≤ cap) (hc : cap ≤ maxLen) (hl : ∀ c ∈ L, c.length = sz) : OwnT e sz (.slice (some ⟨g, 0, none⟩) L.length cap) L [(g, CapAt e sz cap L)]
/-- This function lays entries ahead of a list. -/
inductive TailF : (Ents → Ents) → Prop
  | id : TailF fun o => o
  | cons {f : Ents → Ents} (x : Nat × (Obj → Prop)) : TailF f → TailF fun o => x :: f o
section
variable {e : TypeId} {sz : Nat} {v : Value} {L : List (List Value)} {ol : Ents} {M : List Nat} {W w w' : World} {l : Ents} {f : Ents → Ents}
theorem OwnT.len (h : OwnT e sz v L ol) : ∀ c ∈ L, c.length = sz := by
  cases h with
  | nil => simp
  | blk _ _ hl => exact hl
theorem OwnT.form (h : OwnT e sz v L ol) : ∃ a c, v = .slice a L.length c := by
  cases h with
  | nil => exact ⟨_, _, rfl⟩
  | blk => exact ⟨_, _, rfl⟩
theorem OwnT.pos (h : OwnT e sz v L ol) (h0 : 1 ≤ L.length) : ∃ g cap, v = .slice (some ⟨g, 0, none⟩) L.length cap ∧ L.length ≤ cap ∧ cap ≤ maxLen ∧ ol = [(g, CapAt e sz cap L)] := by
  cases h with
  | nil => simp at h0
  | blk hn hc _ => exact ⟨_, _, rfl, hn, hc, rfl⟩
theorem OwnT.max (h : OwnT e sz v L ol) : L.length ≤ maxLen := by
  cases h with
  | nil => simp
  | blk hn hc _ => omega
theorem TailF.has (hf : TailF f) {g : Nat} {Φ : Obj → Prop} (h : Has ol g Φ) : Has (f ol) g Φ := by
  induction hf with
  | id => exact h
  | cons x _ ih => exact .there ih
theorem TailF.keys (hf : TailF f) (ol : Ents) : ∃ ks, ∀ o, (f o).map (·.1) = ks ++ o.map (·.1) := by
  induction hf with
  | id => exact ⟨[], fun _ => rfl⟩
  | @cons f x _ ih =>
    obtain ⟨ks, h⟩ := ih
    exact ⟨x.1 :: ks, fun o => by simp [h o]⟩
theorem TailF.split (hf : TailF f) {ol' : Ents} {k : Nat} {Ψ : Obj → Prop} (h : Has (f ol') k Ψ) : Has ol' k Ψ ∨ (∀ o, Has (f o) k Ψ) := by
  induction hf with
  | id => exact .inl h
  | @cons f x _ ih =>
    cases h with
    | here => exact .inr fun o => .here
    | there h =>
      rcases ih h with h | h
      · exact .inl h
      · exact .inr fun o => .there (h o)
/-- The entries' tail is that of the slice that has grown. -/
theorem Kn.grown (KN : Kn M W w (f ol)) (hf : TailF f) {v' : Value} {L' : List (List Value)} {ol' : Ents} (h' : OwnT e sz v' L' ol')
    (hg : w.grownBy w' v.ownBlock) (hv : ∀ g, v.ownBlock = some g → ∃ Φ, ol = [(g, Φ)])
    (hk : ∀ g Φ, ol' = [(g, Φ)] → (∃ o, w'.heap[g]? = some o ∧ Φ o) ∧ (v.ownBlock = some g ∨ g = w.heap.size)) : Kn M W w' (f ol') := by
  obtain ⟨ks, hks⟩ := hf.keys ol
  have ap := KN.apart
  rw [hks ol, List.nodup_append] at ap
  have own : ∀ k Ψ, (∀ o, Has (f o) k Ψ) → some k ≠ v.ownBlock := by
    intro k Ψ hh he
    obtain ⟨Φ, rfl⟩ := hv k he.symm
    have h1 : k ∈ (f []).map (·.1) := (hh []).key
    rw [hks [], List.map_nil, List.append_nil] at h1
    exact ap.2.2 k h1 k (by simp) rfl
  have old : ∀ g, v.ownBlock = some g → g ∈ M ∨ W.heap.size ≤ g := by
    intro g hvg
    obtain ⟨Φ, rfl⟩ := hv g hvg
    exact KN.fresh _ _ (hf.has .here)
  refine ⟨hg.os.trans KN.os, hg.tape.trans KN.tape, hg.output.trans KN.output, Nat.le_trans KN.size hg.size, fun k hkW hM => ?_, fun k Ψ hh => ?_, fun k Ψ hh => ?_, ?_⟩
  · rw [hg.block k (Nat.lt_of_lt_of_le hkW KN.size) ?_]
    · exact KN.frame k hkW hM
    · intro he
      rcases old k he.symm with h | h
      · exact hM h
      · omega
  · rcases hf.split hh with h | h
    · cases h' with
      | nil => cases h
      | blk =>
        cases h with
        | here => exact (hk _ _ rfl).1
        | there h => cases h
    · obtain ⟨o, ho, hΨ⟩ := KN.own k Ψ (h ol)
      exact ⟨o, (hg.block k (Array.getElem?_eq_some_iff.1 ho).1 (own k Ψ h)).trans ho, hΨ⟩
  · rcases hf.split hh with h | h
    · cases h' with
      | nil => cases h
      | blk =>
        cases h with
        | here =>
          rcases (hk _ _ rfl).2 with h | h
          · exact old _ h
          · exact .inr (h ▸ KN.size)
        | there h => cases h
    · exact KN.fresh k Ψ (h ol)
  · rw [hks ol', List.nodup_append]
    refine ⟨ap.1, ?_, ?_⟩
    · cases h' <;> simp
    · intro a ha b hb he
      subst he
      cases h' with
      | nil => simp at hb
      | blk =>
        simp at hb
        subst hb
        obtain ⟨_, hd⟩ := hk _ _ rfl
        rcases hd with hd | hd
        · obtain ⟨Φ, rfl⟩ := hv _ hd
          exact ap.2.2 _ ha _ (by simp) rfl
        · have : ∃ Ψ, Has (f ol) a Ψ := by
            have hm : a ∈ (f ol).map (·.1) := by rw [hks ol]; simp [ha]
            obtain ⟨x, hx, rfl⟩ := List.mem_map.1 hm
            exact ⟨x.2, Has.of_mem hx⟩
          obtain ⟨Ψ, hh⟩ := this
          have := KN.lt hh
          omega
theorem OwnT.owns (h : OwnT e sz v L ol) (KN : Kn M W w (f ol)) (hf : TailF f) : w.ownsRow 0 e sz v L.length L.flatten := by
  cases h with
  | nil => exact World.ownsRow_nil _ _ _ _
  | @blk g cap L hn hc hl =>
    obtain ⟨o, ho, cur, rfl, hs, ht⟩ := KN.own _ _ (hf.has .here)
    exact ⟨flat_len sz L hl, .inr ⟨g, cap, cur, rfl, Nat.zero_le _, ho, hn, hc, hs, ht⟩⟩
theorem OwnT.row (h : OwnT e sz v L ol) (KN : Kn M W w (f ol)) (hf : TailF f) : Row w v sz L := Row.of_own h.len rfl (h.owns KN hf)
theorem OwnT.block (h : OwnT e sz v L ol) : ∀ g, v.ownBlock = some g → ∃ Φ, ol = [(g, Φ)] := by
  intro g hg
  cases h with
  | nil => simp [Value.ownBlock] at hg
  | blk => simp [Value.ownBlock] at hg; subst hg; exact ⟨_, rfl⟩
theorem OwnT.of_owns {base n : Nat} (hl : ∀ c ∈ L, c.length = sz) (hn : n = L.length) (h : w.ownsRow base e sz v n L.flatten) : ∃ ol, OwnT e sz v L ol ∧ ∀ g Φ, ol = [(g, Φ)] → (∃ o, w.heap[g]? = some o ∧ Φ o) ∧ v.ownBlock = some g := by
  subst hn
  rcases h.2 with ⟨rfl, h0⟩ | ⟨g, cap, cur, rfl, _, hg, hnc, hcm, hcs, ht⟩
  · have : L = [] := List.eq_nil_of_length_eq_zero h0
    subst this
    exact ⟨[], .nil, fun _ _ h => by cases h⟩
  · refine ⟨_, .blk hnc hcm hl, fun g' Φ h => ?_⟩
    simp only [List.cons.injEq, Prod.mk.injEq, and_true] at h
    obtain ⟨rfl, rfl⟩ := h
    exact ⟨⟨_, hg, cur, rfl, hcs, ht⟩, rfl⟩
end
section
variable {P : Program} {ops : Array Oper} {rest : List Oper} {op : Oper} {a : Act} {w W : World} {K : Act → World → Prop} {Q : Exit → Act → World → Prop} {M : List Nat} {l : Ents} {f : Ents → Ents} {ol : Ents} {e E : TypeId} {sz : Nat} {v : Value} {L : List (List Value)} {gx : Nat} {cs : Array Value}
/-- append(s, x): the element lies in the block that was made last. -/
theorem wp_kn_append1 (KN : Kn M W w ((gx, At cs E) :: l)) (OW : OwnT e sz v L ol) (s x : Operand) (t : TypeId) (ho : op.op = .call { callee := .builtin .append, args := #[s, x], argTypes := #[t, t] })
    (bytes : Nat) (ht : P.underlying t = some (.slice e)) (hinfo : (P.info? e).map (fun i => (i.size, i.bytes, i.zero.map (·.cells.size))) = some (sz, bytes, some sz)) (hsz : 0 < sz)
    (hs : a.eval s = v) (c : Nat) (hx : a.eval x = .slice (some ⟨gx, 0, none⟩) 1 c) (hcs : cs.size = sz) (h1 : cs.all (·.oneCell') = true) (hm : L.length + 1 ≤ maxLen) (hb : (L.length + 1) * bytes ≤ 140737488355328)
    (hf : TailF f) (hl : f ol = l) (h : ∀ v' w' ol', OwnT e sz v' (L ++ [cs.toList]) ol' → Kn M W w' (f ol') → K (a.put op.dst v') w') : op.wp P a w K Q := by
  subst hl
  obtain ⟨i, z, hi, hz, hsize, hby, hzs⟩ : ∃ i z, P.info? e = some i ∧ i.zero = some z ∧ i.size = sz ∧ i.bytes = bytes ∧ z.cells.size = sz := by
    cases hq : P.info? e with
    | none => simp [hq] at hinfo
    | some i =>
      simp only [hq, Option.map_some, Option.some.injEq, Prod.mk.injEq] at hinfo
      obtain ⟨h1, h2, h3⟩ := hinfo
      cases hzz : i.zero with
      | none => simp [hzz] at h3
      | some z => exact ⟨i, z, rfl, hzz, h1, h2, by simpa [hzz] using h3⟩
  have KN1 : Kn M W w (f ol) := KN.drop .here
  have hrow := OW.owns KN1 hf
  have hblk := KN.at_ .here
  obtain ⟨v', w', hrun, h2, h3, _, h5⟩ := run_append_own_at (P := P) w 0 t op.type e i z sz bytes ht hi hz hsize hby hzs hsz v L.length L.flatten hrow ⟨gx, 0, none⟩ 1 c cs.toList (by simp [hcs])
    (fun j u hu => by rw [show ((⟨gx, 0, none⟩ : Addr).add j) = ⟨gx, j, none⟩ from by unfold Addr.add; split <;> simp_all, blk_cell hblk]; simpa using hu)
    (fun u hu => (Array.all_eq_true_iff_forall_mem.1 h1) u (by simpa using hu)) hm hb (Nat.zero_le _)
  have hfl : L.flatten ++ cs.toList = (L ++ [cs.toList]).flatten := by simp
  rw [hfl] at h2
  obtain ⟨ol', OW', hk⟩ := OwnT.of_owns (n := L.length + 1) (fun c' hc' => by
    rcases List.mem_append.1 hc' with h | h
    · exact OW.len c' h
    · simp at h; subst h; simpa using hcs) (by simp) h2
  unfold Oper.wp execOp
  simp only [ho, resolve, invoke, builtin, Sem.run_bind, Sem.run_pure, Result.andThen_ok, List.map_toArray, List.map_cons, List.map_nil, hs, hx, hrun]
  refine h v' w' ol' OW' (KN1.grown hf OW' h3 OW.block fun g Φ hg => ?_)
  obtain ⟨k1, k2⟩ := hk g Φ hg
  refine ⟨k1, ?_⟩
  rcases h5 with h5 | h5
  · exact .inl (h5 ▸ k2)
  · rw [h5] at k2; exact .inr (by simpa using k2.symm)
theorem wpList_kn_append1 (KN : Kn M W w ((gx, At cs E) :: l)) (OW : OwnT e sz v L ol) (hw : Region.wanted op (yielded ops a.tmps) = true) (s x : Operand) (t : TypeId) (ho : op.op = .call { callee := .builtin .append, args := #[s, x], argTypes := #[t, t] })
    (bytes : Nat) (ht : P.underlying t = some (.slice e)) (hinfo : (P.info? e).map (fun i => (i.size, i.bytes, i.zero.map (·.cells.size))) = some (sz, bytes, some sz)) (hsz : 0 < sz)
    (hs : a.eval s = v) (c : Nat) (hx : a.eval x = .slice (some ⟨gx, 0, none⟩) 1 c) (hcs : cs.size = sz) (h1 : cs.all (·.oneCell') = true) (hm : L.length + 1 ≤ maxLen) (hb : (L.length + 1) * bytes ≤ 140737488355328)
    (hf : TailF f) (hl : f ol = l) (h : ∀ v' w' ol', OwnT e sz v' (L ++ [cs.toList]) ol' → Kn M W w' (f ol') → wpList P ops Q rest (a.put op.dst v') w') : wpList P ops Q (op :: rest) a w :=
  wpList_want hw fun _ hK => wp_kn_append1 KN OW s x t ho bytes ht hinfo hsz hs c hx hcs h1 hm hb hf hl fun v' w' ol' h1 h2 => hK _ _ (h v' w' ol' h1 h2)
end
end
section
open Go Go.RowKit Go.BigFrame
theorem putL_getIf : ∀ (vs : List Value) (cs : Array Value) (o j : Nat), o + vs.length ≤ cs.size → (putL cs o vs)[j]? = if o ≤ j ∧ j < o + vs.length then vs[j - o]? else cs[j]?
  | [], cs, o, j, _ => by
    show cs[j]? = _
    rw [if_neg (by simp)]
  | v :: r, cs, o, j, h => by
    simp only [List.length_cons] at h
    rw [putL, putL_getIf r _ _ _ (by rw [Array.size_setIfInBounds]; omega)]
    by_cases h1 : o + 1 ≤ j ∧ j < o + 1 + r.length
    · rw [if_pos h1, if_pos (by simp only [List.length_cons]; omega), show j - o = (j - (o + 1)) + 1 from by omega]; rfl
    · rw [if_neg h1]
      by_cases h2 : j = o
      · subst h2
        rw [if_pos (by simp only [List.length_cons]; omega), Nat.sub_self, Array.getElem?_setIfInBounds, if_pos rfl, if_pos (by omega)]; rfl
      · rw [if_neg (by simp only [List.length_cons]; omega), Array.getElem?_setIfInBounds_ne (by omega)]
section
variable {e : TypeId} {sz cap : Nat} {L : List (List Value)} {M : List Nat} {W w w' : World} {l l' : Ents} {g : Nat}
theorem CapAt.get {o : Obj} (h : CapAt e sz cap L o) (hl : ∀ c ∈ L, c.length = sz) {i j : Nat} {c : List Value} {x : Value} (hi : L[i]? = some c) (hj : c[j]? = some x) :
    ∃ cur, o = .cells cur e ∧ cur.size = cap * sz ∧ cur[i * sz + j]? = some x := by
  obtain ⟨cur, rfl, hs, ht⟩ := h
  refine ⟨cur, rfl, hs, ?_⟩
  have hjl : j < sz := by have := (List.getElem?_eq_some_iff.1 hj).1; rw [hl c (List.mem_of_getElem? hi)] at this; exact this
  have hf := flat_get sz L hl i j c hi hjl
  rw [hj, ← ht, List.getElem?_take] at hf
  split at hf
  · simpa using hf
  · cases hf
theorem flatten_set (hl : ∀ c ∈ L, c.length = sz) (i : Nat) (c : List Value) (hc : c.length = sz) (hi : i < L.length) (k : Nat) : (L.set i c).flatten[k]? = if i * sz ≤ k ∧ k < i * sz + sz then c[k - i * sz]? else L.flatten[k]? := by
  have hl' : ∀ d ∈ L.set i c, d.length = sz := by
    intro d hd
    rcases List.mem_or_eq_of_mem_set hd with h | rfl
    · exact hl d h
    · exact hc
  rcases Nat.eq_zero_or_pos sz with hz | hz
  · subst hz
    have e1 := flat_len 0 (L.set i c) hl'
    have e2 := flat_len 0 L hl
    rw [if_neg (by omega), List.getElem?_eq_none (by omega), List.getElem?_eq_none (by omega)]
  rcases Nat.lt_or_ge k (L.length * sz) with hk | hk
  · have hq : k / sz < L.length := (Nat.div_lt_iff_lt_mul hz).2 hk
    have hm := Nat.mod_lt k hz
    have hk2 : k / sz * sz + k % sz = k := Nat.div_add_mod' k sz
    have a1 := flat_get sz (L.set i c) hl' (k / sz) (k % sz) ((L.set i c)[k / sz]'(by simpa using hq)) (List.getElem?_eq_getElem _) hm
    have a2 := flat_get sz L hl (k / sz) (k % sz) (L[k / sz]) (List.getElem?_eq_getElem _) hm
    rw [hk2] at a1 a2
    rw [a1, a2]
    by_cases hik : k / sz = i
    · have e : i * sz ≤ k ∧ k < i * sz + sz := by rw [← hik]; omega
      rw [if_pos e]
      have : (L.set i c)[k / sz]'(by simpa using hq) = c := by rw [List.getElem_set]; rw [if_pos hik.symm]
      rw [this]
      congr 1
      rw [← hik]; omega
    · have ne : ¬ (i * sz ≤ k ∧ k < i * sz + sz) := by
        rintro ⟨h1, h2⟩
        apply hik
        have h3 : i ≤ k / sz := (Nat.le_div_iff_mul_le hz).2 h1
        have h4 : k / sz < i + 1 := (Nat.div_lt_iff_lt_mul hz).2 (by rw [Nat.succ_mul]; exact h2)
        omega
      rw [if_neg ne, List.getElem_set, if_neg (fun q => hik q.symm)]
  · have e1 := flat_len sz (L.set i c) hl'
    have e2 := flat_len sz L hl
    rw [List.length_set] at e1
    have : ¬ (i * sz ≤ k ∧ k < i * sz + sz) := by
      have : (i + 1) * sz ≤ L.length * sz := Nat.mul_le_mul_right _ hi
      rw [Nat.succ_mul] at this
      omega
    rw [if_neg this, List.getElem?_eq_none (by omega), List.getElem?_eq_none (by omega)]
/-- An element is written over. -/
theorem CapAt.set {cur : Array Value} (hs : cur.size = cap * sz) (ht : cur.toList.take (L.length * sz) = L.flatten) (hl : ∀ c ∈ L, c.length = sz) (hcap : L.length ≤ cap) (i : Nat) (c : List Value) (hc : c.length = sz) (hi : i < L.length) :
    CapAt e sz cap (L.set i c) (.cells (putL cur (i * sz) c) e) := by
  have hfit : i * sz + c.length ≤ cur.size := by
    rw [hs, hc]
    have : (i + 1) * sz ≤ cap * sz := Nat.mul_le_mul_right _ (by omega)
    rw [Nat.succ_mul] at this
    exact this
  refine ⟨_, rfl, by rw [putL_size]; exact hs, ?_⟩
  rw [List.length_set]
  apply List.ext_getElem?
  intro k
  rw [flatten_set hl i c hc hi k, List.getElem?_take]
  have hg : (putL cur (i * sz) c).toList[k]? = (putL cur (i * sz) c)[k]? := by simp
  have hp := putL_getIf c cur (i * sz) k hfit
  rw [hc] at hp
  have hlt : i * sz + sz ≤ L.length * sz := by
    have : (i + 1) * sz ≤ L.length * sz := Nat.mul_le_mul_right _ hi
    rw [Nat.succ_mul] at this
    exact this
  have hfl := flat_len sz L hl
  by_cases hk : k < L.length * sz
  · rw [if_pos hk, hg, hp]
    split
    · rfl
    · rw [← ht, List.getElem?_take, if_pos hk]; simp
  · rw [if_neg hk, if_neg (by omega), List.getElem?_eq_none (by omega)]
section
variable {P : Program} {ops : Array Oper} {rest : List Oper} {op : Oper} {a : Act} {K : Act → World → Prop} {Q : Exit → Act → World → Prop}
end
end
end
section
open Go Go.RowKit Go.BigFrame
open Go.WideElems (Fit rg)
open Go.Maps (Keyed)

section
variable {M : List Nat} {W w w' : World} {l l' : Ents}
theorem Kn.perm (h : Kn M W w l) (p : l.Perm l') : Kn M W w l' :=
  ⟨h.os, h.tape, h.output, h.size, h.frame, fun g Φ hh => h.own g Φ (Has.of_mem (p.mem_iff.2 hh.mem)), fun g Φ hh => h.fresh g Φ (Has.of_mem (p.mem_iff.2 hh.mem)), (p.map _).nodup_iff.1 h.apart⟩
theorem TailF.app {f : Ents → Ents} (hf : TailF f) : ∀ L : Ents, TailF (fun o => L ++ f o)
  | [] => hf
  | x :: L => TailF.cons x (TailF.app hf L)
variable {H : Type}
/-- The block is a map of at most n entries that reads as D. -/
def MapAt (P : Program) (k : TypeId) (R : Value → Option (DataW H × List MemPlace)) (n : Nat) (D : DataW H) : Obj → Prop :=
  fun o => ∃ es clock, o = .map es clock ∧ Fit P k R es clock ∧ es.size ≤ n ∧ D = .map ((es.toList.map (rg P k R)).foldr DataW.insert [])
variable {P : Program} {k : TypeId} {R : Value → Option (DataW H × List MemPlace)} {n m : Nat} {D : DataW H}
theorem Kn.map (h : Kn M W w l) (hm : Has l m (MapAt P k R n D)) : w.ownsMap P k R m n D := by
  obtain ⟨o, ho, es, clock, rfl, h1, h2, h3⟩ := h.own _ _ hm
  exact ⟨es, clock, ho, h1, h2, h3⟩
theorem MapAt.of {b : Nat} (h : w.ownsMap P k R b n D) : ∃ o, w.heap[b]? = some o ∧ MapAt P k R n D o := by
  obtain ⟨es, clock, ho, h1, h2, h3⟩ := h
  exact ⟨_, ho, es, clock, rfl, h1, h2, h3⟩
variable {ops : Array Oper} {rest : List Oper} {op : Oper} {a : Act} {Q : Exit → Act → World → Prop}
end
end
section
open Go Go.RowKit Go.BigFrame

theorem Del.perm {l l' : Ents} {g : Nat} {Φ : Obj → Prop} (h : Del l g Φ l') : l.Perm ((g, Φ) :: l') := by
  induction h with
  | here => exact List.Perm.refl _
  | there _ ih => exact (ih.cons _).trans (List.Perm.swap _ _ _)
theorem Kn.pick {M : List Nat} {W w : World} {l l' : Ents} (h : Kn M W w l) (s : l'.Sublist l := by repeat (first | exact List.Sublist.refl _ | apply List.Sublist.cons_cons | apply List.Sublist.cons)) : Kn M W w l' :=
  ⟨h.os, h.tape, h.output, h.size, h.frame, fun g Φ hk => h.own g Φ (Has.of_mem (s.subset hk.mem)), fun g Φ hk => h.fresh g Φ (Has.of_mem (s.subset hk.mem)), h.apart.sublist (s.map _)⟩
theorem run_loadVar1 {P : Program} {w : World} {g o : Nat} {ty : TypeId} {v : Value} {d : TypeDesc} (hc : w.cell? ⟨g, o, none⟩ = some v) (hu : P.underlying ty = some d) (hd : d.isRow = false) : (loadVar ty ⟨g, o, none⟩).run P w = .ok v w := by
  have hagg : (isAgg ty).run P w = .ok false w := by
    unfold isAgg
    rw [Sem.run_bind, run_underlying hu w]
    cases d <;> simp_all
  simp [Sem.run_bind, loadVar, hagg, hc]
end
section
open Go Go.RowKit Go.BigFrame
section
variable {P : Program} {ops : Array Oper} {rest : List Oper} {op : Oper} {a : Act} {w W : World} {K : Act → World → Prop} {Q : Exit → Act → World → Prop} {M : List Nat} {l : Ents}
end
end
section
open Go Go.RowKit Go.BigFrame
section
variable {P : Program} {ops : Array Oper} {rest : List Oper} {op : Oper} {a : Act} {w W : World} {K : Act → World → Prop} {Q : Exit → Act → World → Prop} {M : List Nat} {l : Ents} {f : Ents → Ents} {ol : Ents} {e E : TypeId} {sz : Nat} {v : Value} {L X : List (List Value)}
end
theorem Kn.sub {M : List Nat} {W w : World} {l l' : Ents} (h : Kn M W w l) (s : l'.Sublist l) : Kn M W w l' :=
  ⟨h.os, h.tape, h.output, h.size, h.frame, fun _ _ hk => h.own _ _ (Has.of_mem (s.subset hk.mem)), fun _ _ hk => h.fresh _ _ (Has.of_mem (s.subset hk.mem)), h.apart.sublist (s.map _)⟩
end
section
open Go Go.RowKit Go.BigFrame

def eqF (P : Program) (E : TypeId → Value → Value → Option Bool) : List Field → Array Value → Array Value → Option Bool
  | [], _, _ => some true
  | f :: fs, xs, ys => if f.name = "_" then eqF P E fs xs ys else
    match partV P f.type xs f.offset, partV P f.type ys f.offset with
    | some a, some b => (E f.type a b).bind fun q => (eqF P E fs xs ys).map fun r => q && r
    | _, _ => none
def eqI (P : Program) (E : TypeId → Value → Value → Option Bool) (e : TypeId) : List Nat → Array Value → Array Value → Option Bool
  | [], _, _ => some true
  | i :: is, xs, ys =>
    match partV P e xs (i * P.cellsOf e), partV P e ys (i * P.cellsOf e) with
    | some a, some b => (E e a b).bind fun q => (eqI P E e is xs ys).map fun r => q && r
    | _, _ => none
/-- What the comparison of two plain values gives. -/
def eqV (P : Program) : Nat → TypeId → Value → Value → Option Bool
  | 0, _, _, _ => none
  | d + 1, t, x, y => match P.underlying t, x, y with
    | some .bool, .bool a, .bool b => some (a == b)
    | some (.int _), .int k a, .int k' b => if k = k' then some (a == b) else none
    | some .string, .string a, .string b => some (a.toList == b.toList)
    | some (.struct fs), .agg xs, .agg ys => if P.stoodInHeld t = false then eqF P (eqV P d) fs.toList xs ys else none
    | some (.array n e), .agg xs, .agg ys => if (P.info? e).isSome = true then eqI P (eqV P d) e (List.range n) xs ys else none
    | _, _, _ => none
theorem run_eqF {P : Program} (w : World) (D m : Nat) (ih : ∀ (t : TypeId) (x y : Value) (b : Bool), eqV P m t x y = some b → (Op.equalIn (D + m) t x y).run P w = .ok b w) :
    ∀ (fs : List Field) (xs ys : Array Value) (b : Bool), eqF P (eqV P m) fs xs ys = some b → (Op.eqFields (D + m) xs ys fs).run P w = .ok b w
  | [], xs, ys, b, h => by
    simp only [eqF, Option.some.injEq] at h
    subst h; simp [Op.eqFields]
  | f :: fs, xs, ys, b, h => by
    unfold eqF at h
    by_cases hn : f.name = "_"
    · rw [if_pos hn] at h
      simp only [Op.eqFields, hn, ne_eq, not_true_eq_false, if_false]
      exact run_eqF w D m ih fs xs ys b h
    · rw [if_neg hn] at h
      cases hx : partV P f.type xs f.offset with
      | none => simp [hx] at h
      | some x =>
        cases hy : partV P f.type ys f.offset with
        | none => simp [hx, hy] at h
        | some y =>
          simp only [hx, hy] at h
          cases hq : eqV P m f.type x y with
          | none => simp [hq] at h
          | some q =>
            rw [hq] at h
            cases hr : eqF P (eqV P m) fs xs ys with
            | none => simp [hr] at h
            | some r =>
              rw [hr] at h
              simp only [Option.bind_some, Option.map_some, Option.some.injEq] at h
              subst h
              have h1 := run_part (P := P) w hx
              have h2 := run_part (P := P) w hy
              have h3 := ih _ _ _ _ hq
              have h4 := run_eqF w D m ih fs xs ys r hr
              simp only [Op.eqFields, hn, ne_eq, not_false_eq_true, if_true, Sem.run_bind, h1, h2, h3, Result.andThen_ok]
              cases q with
              | false => simp
              | true => simp only [Bool.not_true, Bool.false_eq_true, if_false, Bool.true_and]; exact h4
theorem run_eqI {P : Program} (w : World) (D m : Nat) (ih : ∀ (t : TypeId) (x y : Value) (b : Bool), eqV P m t x y = some b → (Op.equalIn (D + m) t x y).run P w = .ok b w) (e : TypeId) :
    ∀ (is : List Nat) (xs ys : Array Value) (b : Bool), eqI P (eqV P m) e is xs ys = some b → (Op.eqItems (D + m) e (P.cellsOf e) xs ys is).run P w = .ok b w
  | [], xs, ys, b, h => by
    simp only [eqI, Option.some.injEq] at h
    subst h; simp [Op.eqItems]
  | i :: is, xs, ys, b, h => by
    unfold eqI at h
    cases hx : partV P e xs (i * P.cellsOf e) with
    | none => simp [hx] at h
    | some x =>
      cases hy : partV P e ys (i * P.cellsOf e) with
      | none => simp [hx, hy] at h
      | some y =>
        simp only [hx, hy] at h
        cases hq : eqV P m e x y with
        | none => simp [hq] at h
        | some q =>
          rw [hq] at h
          cases hr : eqI P (eqV P m) e is xs ys with
          | none => simp [hr] at h
          | some r =>
            rw [hr] at h
            simp only [Option.bind_some, Option.map_some, Option.some.injEq] at h
            subst h
            have h1 := run_part (P := P) w hx
            have h2 := run_part (P := P) w hy
            have h3 := ih _ _ _ _ hq
            have h4 := run_eqI w D m ih e is xs ys r hr
            simp only [Op.eqItems, Sem.run_bind, h1, h2, h3, Result.andThen_ok]
            cases q with
            | false => simp
            | true => simp only [Bool.not_true, Bool.false_eq_true, if_false, Bool.true_and]; exact h4
theorem run_eqV {P : Program} (w : World) (D : Nat) : ∀ (m : Nat) (t : TypeId) (x y : Value) (b : Bool), eqV P m t x y = some b → (Op.equalIn (D + m) t x y).run P w = .ok b w
  | 0, _, _, _, _, h => by simp [eqV] at h
  | m + 1, t, x, y, b, h => by
    have ih := run_eqV (P := P) w D m
    unfold eqV at h
    rw [show D + (m + 1) = (D + m) + 1 from rfl]
    cases hu : P.underlying t with
    | none => simp [hu] at h
    | some kd =>
      simp only [hu] at h
      cases kd with
      | bool =>
        cases x <;> cases y <;> simp at h
        subst h
        simp [Op.equalIn, run_underlying hu]
      | int q =>
        cases x <;> cases y <;> simp at h
        obtain ⟨hk, h⟩ := h
        subst h
        simp [Op.equalIn, run_underlying hu, hk]
      | string =>
        cases x <;> cases y <;> simp at h
        subst h
        simp [Op.equalIn, run_underlying hu, beq_toListBytes]
      | struct fs =>
        cases x with
        | agg xs =>
          cases y with
          | agg ys =>
            simp only at h
            split at h
            · rename_i hst
              have hfs : P.fieldsOf t = fs := by simp [Program.fieldsOf, hu]
              rw [run_equalIn_struct w (D + m) t xs ys (by rw [hfs]; exact hu) hst, hfs]
              exact run_eqF w D m ih _ _ _ _ h
            · cases h
          | _ => simp at h
        | _ => simp at h
      | array n e =>
        cases x with
        | agg xs =>
          cases y with
          | agg ys =>
            simp only at h
            split at h
            · rename_i hi
              obtain ⟨i, hi⟩ := Option.isSome_iff_exists.1 hi
              have hc : P.cellsOf e = i.size := by simp [Program.cellsOf, hi]
              have := run_eqI w D m ih e (List.range n) xs ys b h
              rw [run_equalIn_array w (D + m) xs ys hu hi]
              first
                | exact this
                | (rw [hc] at this; exact this)
            · cases h
          | _ => simp at h
        | _ => simp at h
      | _ => simp at h
section
variable {P : Program} {ops : Array Oper} {rest : List Oper} {op : Oper} {a : Act} {w : World} {K : Act → World → Prop} {Q : Exit → Act → World → Prop}
theorem run_eql_V {t : TypeId} {xs ys : Array Value} {b : Bool} (h : eqV P 10 t (.agg xs) (.agg ys) = some b) : (binOp .eql t (.agg xs) (.agg ys)).run P w = .ok (.bool b) w := by
  have := run_eqV (P := P) w 9990 10 t (.agg xs) (.agg ys) b h
  rw [run_eql_struct, show 10000 = 9990 + 10 from rfl, this]; rfl
theorem run_neq_V {t : TypeId} {xs ys : Array Value} {b : Bool} (h : eqV P 10 t (.agg xs) (.agg ys) = some b) : (binOp .neq t (.agg xs) (.agg ys)).run P w = .ok (.bool !b) w := by
  have := run_eqV (P := P) w 9990 10 t (.agg xs) (.agg ys) b h
  rw [run_neq_struct, show 10000 = 9990 + 10 from rfl, this]; rfl
theorem wp_eqlV (t t2 : TypeId) (x y : Operand) (ho : op.op = .binOp .eql t x y t2) (xs ys : Array Value) (hx : a.eval x = .agg xs) (hy : a.eval y = .agg ys) (hg : P.eqGuardType P.depth t = false) (b : Bool) (hp : eqV P 10 t (.agg xs) (.agg ys) = some b)
    (h : K (a.put op.dst (.bool b)) w) : op.wp P a w K Q := by
  unfold Oper.wp execOp
  simp only [ho, hx, hy, Sem.run_bind, run_eqGuard_agg w .eql t x y xs ys hg, Result.andThen_ok, run_eql_V hp, Sem.run_pure]
  exact h
theorem wp_neqV (t t2 : TypeId) (x y : Operand) (ho : op.op = .binOp .neq t x y t2) (xs ys : Array Value) (hx : a.eval x = .agg xs) (hy : a.eval y = .agg ys) (hg : P.eqGuardType P.depth t = false) (b : Bool) (hp : eqV P 10 t (.agg xs) (.agg ys) = some b)
    (h : K (a.put op.dst (.bool !b)) w) : op.wp P a w K Q := by
  unfold Oper.wp execOp
  simp only [ho, hx, hy, Sem.run_bind, run_eqGuard_agg w .neq t x y xs ys hg, Result.andThen_ok, run_neq_V hp, Sem.run_pure]
  exact h
end
end
section
open Go.RowKit

theorem tmod_place (v n : Int) (hn : 0 < n) : (if v.tmod n < 0 then v.tmod n + n else v.tmod n) = v % n := by
  have h1 := Int.emod_nonneg v (show n ≠ 0 by omega)
  have h2 := Int.emod_lt_of_pos v hn
  have e := Int.tmod_eq_emod (a := v) (b := n)
  rw [e]
  by_cases hd : 0 ≤ v ∨ n ∣ v
  · rw [if_pos hd, if_neg (by omega)]; omega
  · rw [if_neg hd]
    have : (n.natAbs : Int) = n := by omega
    rw [this, if_pos (by omega)]; omega

/-- A slice of these ints. -/
def Ints (w : World) (v : Value) (zs : List Int) : Prop := Row w v 1 (zs.map fun z => [Value.int .i64 z]) ∧ ∀ z ∈ zs, -9223372036854775808 ≤ z ∧ z ≤ 9223372036854775807
theorem Ints.below {w w' : World} {v : Value} {zs : List Int} (h : Ints w v zs) (hb : Below w.heap.size w w') : Ints w' v zs := ⟨h.1.below hb, h.2⟩
end
section
open Go Go.RowKit Go.BigFrame
section
variable {P : Program} {ops : Array Oper} {rest : List Oper} {op : Oper} {a : Act} {w W : World} {K : Act → World → Prop} {Q : Exit → Act → World → Prop} {M : List Nat} {l : Ents} {f : Ents → Ents} {ol : Ents} {e E : TypeId} {sz : Nat} {v : Value} {L : List (List Value)}
end
abbrev intRows (l : List Int) : List (List Value) := l.map fun z => [Value.int .i64 z]
theorem ints_form {w : World} {v : Value} {l : List Int} (h : Row w v 1 (intRows l)) : ∃ a c, v = .slice a l.length c ∧ l.length ≤ maxLen ∧ (∀ (k : Nat) (z : Int), l[k]? = some z → ∃ g off, a = some ⟨g, off, none⟩ ∧ g < w.heap.size ∧ l.length ≤ c ∧ c ≤ maxLen ∧
    w.cell? ⟨g, off + k, none⟩ = some (.int .i64 z)) := by
  have hm := h.1
  rw [List.length_map] at hm
  rcases h.2 with ⟨h0, a, c, rfl⟩ | ⟨b, off, cap, hv, h0, hl, hmm, hb, hc⟩
  · have : l = [] := by simpa using h0
    subst this
    exact ⟨a, c, rfl, by simp, fun k x hx => by simp at hx⟩
  · simp only [List.length_map] at hv hl
    refine ⟨_, _, hv, hm, fun k z hz => ⟨b, off, rfl, hb, hl, hmm, ?_⟩⟩
    have g := hc k [.int .i64 z] 0 (.int .i64 z) (by rw [List.getElem?_map, hz]; rfl) rfl
    simpa using g
end
section
open Go Go.RowKit
section
variable {P : Program} {ops : Array Oper} {op : Oper} {a : Act} {S : World → Prop}
end
theorem Row.sub {w : World} {ad : Option Addr} {n cap sz : Nat} {L : List (List Value)} (h : Row w (.slice ad n cap) sz L) (k m : Nat) (h1 : k ≤ m) (h2 : m ≤ L.length) : Row w (sliced ad k m cap sz) sz ((L.drop k).take (m - k)) := by
  have hlen : ((L.drop k).take (m - k)).length = m - k := by rw [List.length_take, List.length_drop]; omega
  refine ⟨by rw [hlen]; have := h.1; omega, ?_⟩
  rcases h.2 with ⟨hL, a, c, he⟩ | ⟨g, off, cap', he, h0, hc, hm, hg, hcell⟩
  · refine .inl ⟨by rw [hL]; simp, if cap = k then ad else ad.map (·.add (k * sz)), cap - k, ?_⟩
    unfold sliced
    have : m - k = 0 := by rw [hL] at h2; simp at h2; omega
    rw [this]
  · simp only [Value.slice.injEq] at he
    obtain ⟨rfl, hn, rfl⟩ := he
    subst hn
    by_cases hz : m = k
    · subst hz
      refine .inl ⟨by simp, if cap = m then some ⟨g, off, none⟩ else (some (⟨g, off, none⟩ : Addr)).map (·.add (m * sz)), cap - m, ?_⟩
      unfold sliced
      rw [Nat.sub_self]
    · refine .inr ⟨g, off + k * sz, cap - k, ?_, by rw [hlen]; omega, by rw [hlen]; omega, by omega, hg, fun i c j x hi hj => ?_⟩
      · unfold sliced
        rw [if_neg (by omega), hlen]
        simp only [Option.map_some, Value.slice.injEq, Option.some.injEq, and_true]
        unfold Addr.add
        split <;> simp_all
      · have hi' : L[k + i]? = some c := by
          rw [List.getElem?_take] at hi
          split at hi
          · rwa [List.getElem?_drop] at hi
          · cases hi
        have := hcell (k + i) c j x hi' hj
        rwa [show off + (k + i) * sz + j = off + k * sz + i * sz + j from by rw [Nat.add_mul]; omega] at this
end
end Go.Proofs.YtbgdjcoliiinjaaGreat
