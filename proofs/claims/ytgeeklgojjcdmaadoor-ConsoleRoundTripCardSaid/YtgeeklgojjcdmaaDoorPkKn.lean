/- The blocks that are known, in one fact: reading, writing and making blocks keeps it. Nothing of the program is imported. -/
import Derived.Test.YtgeeklgojjcdmaaDoorPkBlockG
import Derived.BigFrame
import Derived.Great.Walk
import Derived.Deep.RegionHeld
set_option linter.unusedVariables false
set_option linter.unusedSimpArgs false
set_option linter.unusedSectionVars false
namespace Go.Proofs.YtgeeklgojjcdmaaDoor
open Go Go.RowKit Go.BigFrame

abbrev Ents := List (Nat × (Obj → Prop))
/-- The block holds just these cells. -/
def At (cs : Array Value) (T : TypeId) : Obj → Prop := fun o => o = .cells cs T
inductive Has : Ents → Nat → (Obj → Prop) → Prop
  | here {l : Ents} {g : Nat} {Φ : Obj → Prop} : Has ((g, Φ) :: l) g Φ
  | there {l : Ents} {g : Nat} {Φ : Obj → Prop} {x : Nat × (Obj → Prop)} : Has l g Φ → Has (x :: l) g Φ
inductive Repl : Ents → Nat → (Obj → Prop) → (Obj → Prop) → Ents → Prop
  | here {l : Ents} {g : Nat} {Φ Φ' : Obj → Prop} : Repl ((g, Φ) :: l) g Φ Φ' ((g, Φ') :: l)
  | there {l l' : Ents} {g : Nat} {Φ Φ' : Obj → Prop} {x : Nat × (Obj → Prop)} : Repl l g Φ Φ' l' → Repl (x :: l) g Φ Φ' (x :: l')
inductive Del : Ents → Nat → (Obj → Prop) → Ents → Prop
  | here {l : Ents} {g : Nat} {Φ : Obj → Prop} : Del ((g, Φ) :: l) g Φ l
  | there {l l' : Ents} {g : Nat} {Φ : Obj → Prop} {x : Nat × (Obj → Prop)} : Del l g Φ l' → Del (x :: l) g Φ (x :: l')
theorem Has.mem {l : Ents} {g : Nat} {Φ : Obj → Prop} (h : Has l g Φ) : (g, Φ) ∈ l := by
  induction h with
  | here => simp
  | there _ ih => exact List.mem_cons_of_mem _ ih
theorem Has.of_mem {g : Nat} {Φ : Obj → Prop} : ∀ {l : Ents}, (g, Φ) ∈ l → Has l g Φ
  | x :: l, h => by
    rcases List.mem_cons.1 h with rfl | h
    · exact .here
    · exact .there (Has.of_mem h)
theorem Repl.keys {l l' : Ents} {g : Nat} {Φ Φ' : Obj → Prop} (h : Repl l g Φ Φ' l') : l'.map (·.1) = l.map (·.1) := by
  induction h with
  | here => rfl
  | there _ ih => simp [ih]
theorem Repl.has {l l' : Ents} {g : Nat} {Φ Φ' : Obj → Prop} (h : Repl l g Φ Φ' l') : Has l g Φ := by
  induction h with
  | here => exact .here
  | there _ ih => exact .there ih
theorem Has.key {l : Ents} {g : Nat} {Φ : Obj → Prop} (h : Has l g Φ) : g ∈ l.map (·.1) := List.mem_map.2 ⟨_, h.mem, rfl⟩
theorem Repl.back {l l' : Ents} {g : Nat} {Φ Φ' : Obj → Prop} (h : Repl l g Φ Φ' l') (hn : (l.map (·.1)).Nodup) {k : Nat} {Ψ : Obj → Prop} (hk : Has l' k Ψ) : (k = g ∧ Ψ = Φ') ∨ (k ≠ g ∧ Has l k Ψ) := by
  induction h generalizing k Ψ with
  | @here l g Φ Φ' =>
    simp only [List.map_cons, List.nodup_cons] at hn
    cases hk with
    | here => exact .inl ⟨rfl, rfl⟩
    | there h => exact .inr ⟨fun e => hn.1 (e ▸ h.key), .there h⟩
  | @there l l' g Φ Φ' x hr ih =>
    simp only [List.map_cons, List.nodup_cons] at hn
    cases hk with
    | here => exact .inr ⟨fun e => hn.1 (e ▸ hr.has.key), .here⟩
    | there h =>
      rcases ih hn.2 h with h | h
      · exact .inl h
      · exact .inr ⟨h.1, .there h.2⟩
theorem Del.back {l l' : Ents} {g : Nat} {Φ : Obj → Prop} (h : Del l g Φ l') {k : Nat} {Ψ : Obj → Prop} (hk : Has l' k Ψ) : Has l k Ψ := by
  induction h generalizing k Ψ with
  | here => exact .there hk
  | there _ ih =>
    cases hk with
    | here => exact .here
    | there h => exact .there (ih h)
theorem Del.sub {l l' : Ents} {g : Nat} {Φ : Obj → Prop} (h : Del l g Φ l') : (l'.map (·.1)).Sublist (l.map (·.1)) := by
  induction h with
  | here => exact List.sublist_cons_self _ _
  | there _ ih => exact ih.cons_cons _

/-- From the world W to w only the blocks M of the old ones have turned; the blocks of l are known. -/
structure Kn (M : List Nat) (W w : World) (l : Ents) : Prop where
  os : w.os = W.os
  tape : w.tape = W.tape
  output : w.output = W.output
  size : W.heap.size ≤ w.heap.size
  frame : ∀ k, k < W.heap.size → k ∉ M → w.heap[k]? = W.heap[k]?
  own : ∀ g Φ, Has l g Φ → ∃ o, w.heap[g]? = some o ∧ Φ o
  fresh : ∀ g Φ, Has l g Φ → g ∈ M ∨ W.heap.size ≤ g
  apart : (l.map (·.1)).Nodup
section
variable {M : List Nat} {W w w' : World} {l l' l2 : Ents} {g : Nat} {Φ Φ' : Obj → Prop} {cs : Array Value} {T : TypeId}
theorem Kn.start (W : World) : Kn [] W W [] := ⟨rfl, rfl, rfl, Nat.le_refl _, fun _ _ _ => rfl, fun _ _ h => by (cases h), fun _ _ h => by (cases h), List.nodup_nil⟩
theorem Kn.lt (h : Kn M W w l) (m : Has l g Φ) : g < w.heap.size := by
  obtain ⟨o, ho, _⟩ := h.own g Φ m
  exact (Array.getElem?_eq_some_iff.1 ho).1
theorem Kn.at_ (h : Kn M W w l) (m : Has l g (At cs T)) : BlkT w g cs T := by
  obtain ⟨o, ho, rfl⟩ := h.own g _ m
  exact ho
theorem Kn.cell (h : Kn M W w l) (m : Has l g (At cs T)) {o : Nat} {v : Value} (hv : cs[o]? = some v) : w.cell? ⟨g, o, none⟩ = some v := (blk_cell (h.at_ m) o).trans hv
theorem Kn.old (h : Kn M W w l) {k : Nat} (hk : k < W.heap.size) (hM : k ∉ M) {o : Nat} : w.cell? ⟨k, o, none⟩ = W.cell? ⟨k, o, none⟩ := by
  unfold World.cell?; rw [show w.heap[k]? = W.heap[k]? from h.frame k hk hM]
theorem Kn.upd (h : Kn M W w l) (os : w'.os = w.os) (tape : w'.tape = w.tape) (output : w'.output = w.output) (size : w.heap.size ≤ w'.heap.size)
    (block : ∀ k, k < w.heap.size → k ≠ g → w'.heap[k]? = w.heap[k]?) (r : Repl l g Φ Φ' l') (hg : ∃ o, w'.heap[g]? = some o ∧ Φ' o) : Kn M W w' l' := by
  refine ⟨os.trans h.os, tape.trans h.tape, output.trans h.output, Nat.le_trans h.size size, fun k hk hM => ?_, fun k Ψ hk => ?_, fun k Ψ hk => ?_, by rw [r.keys]; exact h.apart⟩
  · rw [block k (Nat.lt_of_lt_of_le hk h.size) ?_, h.frame k hk hM]
    rintro rfl
    rcases h.fresh _ _ r.has with hf | hf
    · exact hM hf
    · omega
  · rcases r.back h.apart hk with ⟨rfl, rfl⟩ | ⟨hne, hk⟩
    · exact hg
    · obtain ⟨o, ho, hΨ⟩ := h.own _ _ hk
      exact ⟨o, (block k (Array.getElem?_eq_some_iff.1 ho).1 hne).trans ho, hΨ⟩
  · rcases r.back h.apart hk with ⟨rfl, _⟩ | ⟨_, hk⟩
    · exact h.fresh _ _ r.has
    · exact h.fresh _ _ hk
theorem Kn.drew (h : Kn M W w l) : Kn M W w.drew l := ⟨h.os, h.tape, h.output, h.size, h.frame, h.own, h.fresh, h.apart⟩
theorem Kn.drewN (h : Kn M W w l) (n : Nat) : Kn M W (w.drewN n) l := ⟨h.os, h.tape, h.output, h.size, h.frame, h.own, h.fresh, h.apart⟩
theorem Kn.alloc (h : Kn M W w l) (o : Obj) (hΦ : Φ o) : Kn M W (w.alloc o) ((w.heap.size, Φ) :: l) := by
  refine ⟨h.os, h.tape, h.output, by have := h.size; simp; omega, fun k hk hM => ?_, fun k Ψ hk => ?_, fun k Ψ hk => ?_, ?_⟩
  · rw [Below.heap_alloc _ _ _ (Nat.lt_of_lt_of_le hk h.size)]; exact h.frame k hk hM
  · cases hk with
    | here => exact ⟨o, heap_alloc_new w o, hΦ⟩
    | there hk =>
      obtain ⟨q, hq, hΨ⟩ := h.own _ _ hk
      exact ⟨q, (Below.heap_alloc _ _ _ (Array.getElem?_eq_some_iff.1 hq).1).trans hq, hΨ⟩
  · cases hk with
    | here => exact .inr h.size
    | there hk => exact h.fresh _ _ hk
  · simp only [List.map_cons, List.nodup_cons]
    refine ⟨fun hm => ?_, h.apart⟩
    obtain ⟨x, hx, he⟩ := List.mem_map.1 hm
    have := h.lt (Has.of_mem (g := x.1) (Φ := x.2) hx)
    omega
/-- Several cells of a block are written. -/
theorem Kn.setCells (h : Kn M W w l) (o : Nat) (vs : List Value) (r : Repl l g (At cs T) (At (putL cs o vs) T) l') : Kn M W (w.setCells g o vs) l' := by
  have hb := h.at_ r.has
  have ho := only_setCells g vs o w
  exact h.upd ho.os ho.tape ho.output ho.size ho.block r ⟨_, heap_setCells g T vs o w cs hb, rfl⟩
theorem Kn.call0 (h : Kn M W w l) (h2 : Kn [] w w' l2) : Kn M W w' (l2 ++ l) := by
  have split : ∀ {l2 : Ents} {k : Nat} {Ψ : Obj → Prop}, Has (l2 ++ l) k Ψ → Has l2 k Ψ ∨ Has l k Ψ := by
    intro l2 k Ψ hk
    rcases List.mem_append.1 hk.mem with hk | hk
    · exact .inl (Has.of_mem hk)
    · exact .inr (Has.of_mem hk)
  refine ⟨h2.os.trans h.os, h2.tape.trans h.tape, h2.output.trans h.output, Nat.le_trans h.size h2.size, fun k hk hM => ?_, fun k Ψ hk => ?_, fun k Ψ hk => ?_, ?_⟩
  · rw [h2.frame k (Nat.lt_of_lt_of_le hk h.size) (by simp), h.frame k hk hM]
  · rcases split hk with hk | hk
    · exact h2.own _ _ hk
    · obtain ⟨o, ho, hΨ⟩ := h.own _ _ hk
      exact ⟨o, (h2.frame k (h.lt hk) (by simp)).trans ho, hΨ⟩
  · rcases split hk with hk | hk
    · rcases h2.fresh _ _ hk with hf | hf
      · cases hf
      · exact .inr (Nat.le_trans h.size hf)
    · exact h.fresh _ _ hk
  · rw [List.map_append, List.nodup_append]
    refine ⟨h2.apart, h.apart, fun a ha b hb e => ?_⟩
    subst e
    obtain ⟨x, hx, he⟩ := List.mem_map.1 ha
    obtain ⟨y, hy, hf⟩ := List.mem_map.1 hb
    have h1 := h.lt (Has.of_mem (g := y.1) (Φ := y.2) hy)
    rcases h2.fresh _ _ (Has.of_mem (g := x.1) (Φ := x.2) hx) with hf' | hf'
    · cases hf'
    · omega
theorem Kn.below (h : Kn M W w l) (hb : Below w.heap.size w w') : Kn M W w' l :=
  h.call0 (l2 := []) ⟨hb.os, hb.tape, hb.output, hb.size, fun k hk _ => hb.block k hk, fun _ _ h => by (cases h), fun _ _ h => by (cases h), List.nodup_nil⟩
theorem Kn.only (h : Kn M W w l) (ho : Only g w w') (r : Repl l g Φ Φ' l') (hg : ∃ o, w'.heap[g]? = some o ∧ Φ' o) : Kn M W w' l' :=
  h.upd ho.os ho.tape ho.output ho.size ho.block r hg
theorem Kn.drop (h : Kn M W w l) (d : Del l g Φ l') : Kn M W w l' :=
  ⟨h.os, h.tape, h.output, h.size, h.frame, fun k Ψ hk => h.own _ _ (d.back hk), fun k Ψ hk => h.fresh _ _ (d.back hk), h.apart.sublist d.sub⟩
theorem Kn.weak (h : Kn M W w l) (hi : ∀ o, Φ o → Φ' o) (r : Repl l g Φ Φ' l') : Kn M W w l' :=
  h.upd rfl rfl rfl (Nat.le_refl _) (fun _ _ _ => rfl) r (by obtain ⟨o, ho, hΦ⟩ := h.own _ _ r.has; exact ⟨o, ho, hi o hΦ⟩)
theorem Kn.re {cs' : Array Value} (h : Kn M W w l) (e : cs = cs') (r : Repl l g (At cs T) (At cs' T) l') : Kn M W w l' := h.weak (fun _ ho => e ▸ ho) r
theorem Kn.as_ (h : Kn M W w l) (g : Nat) {cs T} (cs' : Array Value) (r : Repl l g (At cs T) (At cs' T) l') (e : cs = cs') : Kn M W w l' := h.re e r
theorem Kn.toBelow (h : Kn [] W w l) : Below W.heap.size W w := ⟨h.os, h.tape, h.output, h.size, fun k hk => h.frame k hk (by simp)⟩
theorem Kn.frame0 (h : Kn M W w l) : Kn M W w [] := ⟨h.os, h.tape, h.output, h.size, h.frame, fun _ _ h => by (cases h), fun _ _ h => by (cases h), List.nodup_nil⟩
/-- An old block that is not among those that may turn becomes one of them. -/
theorem Kn.ne (h : Kn M W w l) {k : Nat} {Ψ : Obj → Prop} (hk : k < W.heap.size) (hM : k ∉ M) (m : Has l g Ψ) : k ≠ g := by
  rintro rfl
  rcases h.fresh _ _ m with hf | hf
  · exact hM hf
  · omega
end

/-! ### The operations -/
section
variable {P : Program} {ops : Array Oper} {rest : List Oper} {op : Oper} {a : Act} {w W : World} {K : Act → World → Prop} {Q : Exit → Act → World → Prop} {M : List Nat} {l l' : Ents}

/-- The goal is a list of operations: nothing else is let by. -/
theorem wpList_gate (h : wpList P ops Q (op :: rest) a w) : wpList P ops Q (op :: rest) a w := h
def isLoad : Op → Bool
  | .load .. => true
  | _ => false
def isStore : Op → Bool
  | .store .. => true
  | _ => false
def isNew : Op → Bool
  | .alloc .. | .box .. | .build .. | .buildSlice .. => true
  | _ => false
theorem gate_load (_hm : isLoad op.op = true) (h : wpList P ops Q (op :: rest) a w) : wpList P ops Q (op :: rest) a w := h
theorem gate_store (_hm : isStore op.op = true) (h : wpList P ops Q (op :: rest) a w) : wpList P ops Q (op :: rest) a w := h
theorem gate_new (_hm : isNew op.op = true) (h : wpList P ops Q (op :: rest) a w) : wpList P ops Q (op :: rest) a w := h
theorem run_loadAt_one (g o : Nat) (ty : TypeId) (v : Value) (hc : w.cell? ⟨g, o, none⟩ = some v) (d : TypeDesc) (hu : P.underlying ty = some d) (hd : d.isRow = false) :
    (Instr.loadAt ty (.pointer (some ⟨g, o, none⟩))).run P w = .ok v w := by
  have hagg : (isAgg ty).run P w = .ok false w := by
    unfold isAgg
    rw [Sem.run_bind, run_underlying hu w]
    cases d <;> simp_all
  simp [Instr.loadAt, Instr.sureAddr, Sem.run_bind, loadVar, hagg, hc]
theorem run_storeAt_any (g o : Nat) (ty : TypeId) (v : Value) (ht : w.there g o v.cells.size) (hi : (P.info? ty).map (·.size) = some v.cells.size) (h1 : v.cells.all (·.oneCell') = true) :
    (Instr.storeAt ty (.pointer (some ⟨g, o, none⟩)) v).run P w = .ok () (w.setCells g o v.cells.toList) := by
  have := run_storeCells_cells (P := P) g o v.cells.toList 0 w (fun j hj => by simpa using (ht j (by simpa using hj)).1) (fun j hj => by simpa using (ht j (by simpa using hj)).2)
    (fun v hv => (Array.all_eq_true_iff_forall_mem.1 h1) v (by simpa using hv))
  cases hq : P.info? ty with
  | none => simp [hq] at hi
  | some i =>
    have hs : v.cells.size = i.size := by simp [hq] at hi; omega
    simp only [Nat.add_zero] at this
    simp [Instr.storeAt, Instr.sureAddr, Sem.run_bind, storeVar, sizeOf, typeInfo, hq, hs, this]

theorem wp_kn_load1 (KN : Kn M W w l) (ty : TypeId) (x : Operand) (ho : op.op = .load ty x) (g o : Nat) (hx : a.eval x = .pointer (some ⟨g, o, none⟩)) (cs : Array Value) (T : TypeId) (m : Has l g (At cs T))
    (v : Value) (hv : cs[o]? = some v) (d : TypeDesc) (hu : P.underlying ty = some d) (hd : d.isRow = false) (h : K (a.put op.dst v) w) : op.wp P a w K Q := by
  unfold Oper.wp execOp
  simp only [ho, hx, Sem.run_bind, run_loadAt_one g o ty v (KN.cell m hv) d hu hd]
  exact h
theorem wpList_kn_load1 (KN : Kn M W w l) (hw : Region.wanted op (yielded ops a.tmps) = true) (ty : TypeId) (x : Operand) (ho : op.op = .load ty x) (g o : Nat) (hx : a.eval x = .pointer (some ⟨g, o, none⟩)) (cs : Array Value) (T : TypeId) (m : Has l g (At cs T))
    (v : Value) (hv : cs[o]? = some v) (d : TypeDesc) (hu : P.underlying ty = some d) (hd : d.isRow = false) (h : wpList P ops Q rest (a.put op.dst v) w) : wpList P ops Q (op :: rest) a w :=
  wpList_want hw fun _ hK => wp_kn_load1 KN ty x ho g o hx cs T m v hv d hu hd (hK _ _ h)
theorem kn_range (KN : Kn M W w l) {g : Nat} {cs : Array Value} {T : TypeId} (m : Has l g (At cs T)) {o : Nat} {part : Array Value} (hp : cs.extract o (o + part.size) = part) : w.rangeAt g o part.toList := fun j v hj => by
  refine KN.cell m ?_
  have hj' : part[j]? = some v := by simpa using hj
  have hl : j < part.size := (Array.getElem?_eq_some_iff.1 hj').1
  rw [← hp, Array.getElem?_extract] at hj'
  split at hj'
  · exact hj'
  · cases hj'
theorem wp_kn_loadN (KN : Kn M W w l) (ty : TypeId) (x : Operand) (ho : op.op = .load ty x) (g o : Nat) (hx : a.eval x = .pointer (some ⟨g, o, none⟩)) (cs : Array Value) (T : TypeId) (m : Has l g (At cs T))
    (part : Array Value) (hp : cs.extract o (o + part.size) = part) (d : TypeDesc) (hu : P.underlying ty = some d) (hd : d.isRow = true) (hi : (P.info? ty).map (·.size) = some part.size) (h : K (a.put op.dst (.agg part)) w) : op.wp P a w K Q := by
  have := wp_load_mid (P := P) (op := op) (a := a) (w := w) (K := K) (Q := Q) ty x ho g o hx part.toList d (kn_range KN m hp) hu hd (by simpa using hi)
  simp only [Array.toArray_toList] at this
  exact this h
theorem wpList_kn_loadN (KN : Kn M W w l) (hw : Region.wanted op (yielded ops a.tmps) = true) (ty : TypeId) (x : Operand) (ho : op.op = .load ty x) (g o : Nat) (hx : a.eval x = .pointer (some ⟨g, o, none⟩)) (cs : Array Value) (T : TypeId) (m : Has l g (At cs T))
    (part : Array Value) (hp : cs.extract o (o + part.size) = part) (d : TypeDesc) (hu : P.underlying ty = some d) (hd : d.isRow = true) (hi : (P.info? ty).map (·.size) = some part.size) (h : wpList P ops Q rest (a.put op.dst (.agg part)) w) : wpList P ops Q (op :: rest) a w :=
  wpList_want hw fun _ hK => wp_kn_loadN KN ty x ho g o hx cs T m part hp d hu hd hi (hK _ _ h)
theorem extract_whole (cs : Array Value) : cs.extract 0 (0 + cs.size) = cs := by simp
/-- The whole block. -/
theorem wpList_kn_loadW (KN : Kn M W w l) (hw : Region.wanted op (yielded ops a.tmps) = true) (ty : TypeId) (x : Operand) (ho : op.op = .load ty x) (g : Nat) (hx : a.eval x = .pointer (some ⟨g, 0, none⟩)) (cs : Array Value) (T : TypeId) (m : Has l g (At cs T))
    (d : TypeDesc) (hu : P.underlying ty = some d) (hd : d.isRow = true) (hi : (P.info? ty).map (·.size) = some cs.size) (h : wpList P ops Q rest (a.put op.dst (.agg cs)) w) : wpList P ops Q (op :: rest) a w :=
  wpList_kn_loadN KN hw ty x ho g 0 hx cs T m cs (extract_whole cs) d hu hd hi h
theorem wp_kn_store (KN : Kn M W w l) (ty : TypeId) (x y : Operand) (ho : op.op = .store ty x y) (g o : Nat) (hx : a.eval x = .pointer (some ⟨g, o, none⟩)) (v : Value) (hy : a.eval y = v) (cs : Array Value) (T : TypeId)
    (cs' : Array Value) (r : Repl l g (At cs T) (At cs' T) l') (hcs : putL cs o v.cells.toList = cs') (hle : o + v.cells.size ≤ cs.size) (hi : (P.info? ty).map (·.size) = some v.cells.size) (h1 : v.cells.all (·.oneCell') = true)
    (h : ∀ w', Kn M W w' l' → K (a.put op.dst undef) w') : op.wp P a w K Q := by
  subst hcs
  have hb := KN.at_ r.has
  unfold Oper.wp execOp
  simp only [ho, hx, hy, Sem.run_bind, run_storeAt_any g o ty v (fun j hj => by
    rw [blk_cell hb, blk_free hb, Array.getElem?_eq_getElem (by omega)]; exact ⟨rfl, rfl⟩) hi h1]
  exact h _ (KN.setCells o _ r)
theorem wpList_kn_store (KN : Kn M W w l) (hw : Region.wanted op (yielded ops a.tmps) = true) (ty : TypeId) (x y : Operand) (ho : op.op = .store ty x y) (g o : Nat) (hx : a.eval x = .pointer (some ⟨g, o, none⟩)) (v : Value) (hy : a.eval y = v) (cs : Array Value) (T : TypeId)
    (cs' : Array Value) (r : Repl l g (At cs T) (At cs' T) l') (hcs : putL cs o v.cells.toList = cs') (hle : o + v.cells.size ≤ cs.size) (hi : (P.info? ty).map (·.size) = some v.cells.size) (h1 : v.cells.all (·.oneCell') = true)
    (h : ∀ w', Kn M W w' l' → wpList P ops Q rest (a.put op.dst undef) w') : wpList P ops Q (op :: rest) a w :=
  wpList_want hw fun _ hK => wp_kn_store KN ty x y ho g o hx v hy cs T cs' r hcs hle hi h1 fun w' hw' => hK _ _ (h w' hw')
theorem wp_kn_store1 (KN : Kn M W w l) (ty : TypeId) (x y : Operand) (ho : op.op = .store ty x y) (g o : Nat) (hx : a.eval x = .pointer (some ⟨g, o, none⟩)) (v : Value) (hy : a.eval y = v) (hv : v.cells = #[v]) (cs : Array Value) (T : TypeId)
    (r : Repl l g (At cs T) (At (cs.setIfInBounds o v) T) l') (hle : o + 1 ≤ cs.size) (hi : (P.info? ty).map (·.size) = some 1) (h1 : v.oneCell' = true)
    (h : ∀ w', Kn M W w' l' → K (a.put op.dst undef) w') : op.wp P a w K Q :=
  wp_kn_store KN ty x y ho g o hx v hy cs T _ r (by rw [hv]; rfl) (by rw [hv]; exact hle) (by rw [hv]; exact hi) (by rw [hv]; simp [h1]) h
theorem wpList_kn_store1 (KN : Kn M W w l) (hw : Region.wanted op (yielded ops a.tmps) = true) (ty : TypeId) (x y : Operand) (ho : op.op = .store ty x y) (g o : Nat) (hx : a.eval x = .pointer (some ⟨g, o, none⟩)) (v : Value) (hy : a.eval y = v) (hv : v.cells = #[v]) (cs : Array Value) (T : TypeId)
    (r : Repl l g (At cs T) (At (cs.setIfInBounds o v) T) l') (hle : o + 1 ≤ cs.size) (hi : (P.info? ty).map (·.size) = some 1) (h1 : v.oneCell' = true)
    (h : ∀ w', Kn M W w' l' → wpList P ops Q rest (a.put op.dst undef) w') : wpList P ops Q (op :: rest) a w :=
  wpList_want hw fun _ hK => wp_kn_store1 KN ty x y ho g o hx v hy hv cs T r hle hi h1 fun w' hw' => hK _ _ (h w' hw')
theorem get_miss {cs : Array Value} {o j : Nat} {x : Value} (h : Nat.beq o j = false) : (cs.setIfInBounds o x)[j]? = cs[j]? := Array.getElem?_setIfInBounds_ne (Nat.ne_of_beq_eq_false h)
theorem get_hit {cs : Array Value} {o : Nat} {x : Value} (h : o + 1 ≤ cs.size) : (cs.setIfInBounds o x)[o]? = some x := by rw [Array.getElem?_setIfInBounds, if_pos rfl, if_pos (by omega)]
theorem get_pmiss {j : Nat} : ∀ {vs : List Value} {cs : Array Value} {o : Nat}, (Nat.ble (j + 1) o || Nat.ble (o + vs.length) j) = true → (putL cs o vs)[j]? = cs[j]?
  | [], _, _, _ => rfl
  | v :: r, cs, o, h => by
    have h' : j + 1 ≤ o ∨ o + (r.length + 1) ≤ j := by
      rcases Bool.or_eq_true_iff.1 h with h | h
      · exact .inl (Nat.le_of_ble_eq_true h)
      · exact .inr (Nat.le_of_ble_eq_true h)
    rw [putL, get_pmiss (vs := r) (by
      rw [Bool.or_eq_true]
      rcases h' with h' | h'
      · exact .inl (Nat.ble_eq_true_of_le (by omega))
      · exact .inr (Nat.ble_eq_true_of_le (by omega))), Array.getElem?_setIfInBounds_ne (by omega)]
/-- A struct or an array that lay in memory when the call began. -/
theorem wpList_kn_oldN (KN : Kn M W w l) (hw : Region.wanted op (yielded ops a.tmps) = true) (ty : TypeId) (x : Operand) (ho : op.op = .load ty x) (g o : Nat) (hx : a.eval x = .pointer (some ⟨g, o, none⟩))
    (part : Array Value) (hr : W.rangeAt g o part.toList) (hb : g < W.heap.size) (hM : g ∉ M) (d : TypeDesc) (hu : P.underlying ty = some d) (hd : d.isRow = true) (hi : (P.info? ty).map (·.size) = some part.size) (h : wpList P ops Q rest (a.put op.dst (.agg part)) w) : wpList P ops Q (op :: rest) a w :=
  wpList_want hw fun K hK => by
    have := wp_load_mid (P := P) (op := op) (a := a) (w := w) (K := K) (Q := Q) ty x ho g o hx part.toList d (fun j v hj => (KN.old hb hM).trans (hr j v hj)) hu hd (by simpa using hi)
    simp only [Array.toArray_toList] at this
    exact this (hK _ _ h)
/-- The whole block is written over. -/
theorem wpList_kn_storeW (KN : Kn M W w l) (hw : Region.wanted op (yielded ops a.tmps) = true) (ty : TypeId) (x y : Operand) (ho : op.op = .store ty x y) (g : Nat) (hx : a.eval x = .pointer (some ⟨g, 0, none⟩)) (cs' : Array Value) (hy : a.eval y = .agg cs') (cs : Array Value) (T : TypeId)
    (r : Repl l g (At cs T) (At cs' T) l') (hs : cs'.size = cs.size) (hi : (P.info? ty).map (·.size) = some cs'.size) (h1 : cs'.all (·.oneCell') = true)
    (h : ∀ w', Kn M W w' l' → wpList P ops Q rest (a.put op.dst undef) w') : wpList P ops Q (op :: rest) a w :=
  wpList_kn_store KN hw ty x y ho g 0 hx (.agg cs') hy cs T cs' r (putL_all _ _ hs) (by show 0 + cs'.size ≤ cs.size; omega) hi h1 h
theorem wp_kn_storeW (KN : Kn M W w l) (ty : TypeId) (x y : Operand) (ho : op.op = .store ty x y) (g : Nat) (hx : a.eval x = .pointer (some ⟨g, 0, none⟩)) (cs' : Array Value) (hy : a.eval y = .agg cs') (cs : Array Value) (T : TypeId)
    (r : Repl l g (At cs T) (At cs' T) l') (hs : cs'.size = cs.size) (hi : (P.info? ty).map (·.size) = some cs'.size) (h1 : cs'.all (·.oneCell') = true)
    (h : ∀ w', Kn M W w' l' → K (a.put op.dst undef) w') : op.wp P a w K Q :=
  wp_kn_store KN ty x y ho g 0 hx (.agg cs') hy cs T cs' r (putL_all _ _ hs) (by show 0 + cs'.size ≤ cs.size; omega) hi h1 h
/-- A part of the block is written over. -/
theorem wpList_kn_storeA (KN : Kn M W w l) (hw : Region.wanted op (yielded ops a.tmps) = true) (ty : TypeId) (x y : Operand) (ho : op.op = .store ty x y) (g o : Nat) (hx : a.eval x = .pointer (some ⟨g, o, none⟩)) (part : Array Value) (hy : a.eval y = .agg part) (cs : Array Value) (T : TypeId)
    (r : Repl l g (At cs T) (At (putL cs o part.toList) T) l') (hle : o + part.size ≤ cs.size) (hi : (P.info? ty).map (·.size) = some part.size) (h1 : part.all (·.oneCell') = true)
    (h : ∀ w', Kn M W w' l' → wpList P ops Q rest (a.put op.dst undef) w') : wpList P ops Q (op :: rest) a w :=
  wpList_kn_store KN hw ty x y ho g o hx (.agg part) hy cs T _ r rfl hle hi h1 h
theorem wpList_kn_alloc (KN : Kn M W w l) (hw : Region.wanted op (yielded ops a.tmps) = true) (T : TypeId) (ho : op.op = .alloc T) (d : Tmp) (hd : op.dst = some d) (cs : Array Value) (hz : ((P.info? T).bind (·.zero)).map (·.cells) = some cs)
    (h : ∀ g w', W.heap.size ≤ g → Kn M W w' ((g, At cs T) :: l) → wpList P ops Q rest (a.put (some d) (.pointer (some ⟨g, 0, none⟩))) w') : wpList P ops Q (op :: rest) a w :=
  wpList_want hw fun _ hK => by
    cases hq : P.info? T with
    | none => simp [hq] at hz
    | some i =>
      cases hzz : i.zero with
      | none => simp [hq, hzz] at hz
      | some z =>
        have hzc : z.cells = cs := by simpa [hq, hzz] using hz
        unfold Oper.wp execOp
        simp [ho, Sem.run_bind, Instr.alloc, zeroValue, typeInfo, hq, hzz, newVar, newRow, run_newObj_alloc, hzc]
        rw [Oper.upon_value, hd]
        exact hK _ _ (h _ _ KN.size (KN.alloc (.cells cs T) rfl))
theorem wpList_kn_box (KN : Kn M W w l) (hw : Region.wanted op (yielded ops a.tmps) = true) (T : TypeId) (x : Operand) (ho : op.op = .box T x) (d : Tmp) (hd : op.dst = some d) (v : Value) (hx : a.eval x = v) (cs : Array Value) (hz : v.cells = cs)
    (h : ∀ g w', W.heap.size ≤ g → Kn M W w' ((g, At cs T) :: l) → wpList P ops Q rest (a.put (some d) (.pointer (some ⟨g, 0, none⟩))) w') : wpList P ops Q (op :: rest) a w :=
  wpList_want hw fun _ hK => by
    unfold Oper.wp execOp
    simp [ho, hx, Sem.run_bind, Instr.box, newVar, newRow, run_newObj_alloc, hz]
    rw [Oper.upon_value, hd]
    exact hK _ _ (h _ _ KN.size (KN.alloc (.cells cs T) rfl))
theorem wpList_kn_boxA (KN : Kn M W w l) (hw : Region.wanted op (yielded ops a.tmps) = true) (T : TypeId) (x : Operand) (ho : op.op = .box T x) (d : Tmp) (hd : op.dst = some d) (cs : Array Value) (hx : a.eval x = .agg cs)
    (h : ∀ g w', W.heap.size ≤ g → Kn M W w' ((g, At cs T) :: l) → wpList P ops Q rest (a.put (some d) (.pointer (some ⟨g, 0, none⟩))) w') : wpList P ops Q (op :: rest) a w :=
  wpList_kn_box KN hw T x ho d hd _ hx cs rfl h
theorem kn_yields1 {S : World → Prop} (hw : Region.wanted op (yielded ops a.tmps) = true) (ty : TypeId) (x : Operand) (ho : op.op = .load ty x) (g o : Nat) (hx : a.eval x = .pointer (some ⟨g, o, none⟩)) (cs : Array Value) (T : TypeId)
    (hS : ∀ w, S w → BlkT w g cs T) (v : Value) (hv : cs[o]? = some v) (d : TypeDesc) (hu : P.underlying ty = some d) (hd : d.isRow = false) : YieldsIf P ops S op v a :=
  .inl ⟨hw, fun w hw' => by
    unfold execOp
    simp only [ho, hx, Sem.run_bind, run_loadAt_one g o ty v ((blk_cell (hS w hw') o).trans hv) d hu hd]
    rfl⟩
theorem kn_yieldsN {S : World → Prop} (hw : Region.wanted op (yielded ops a.tmps) = true) (ty : TypeId) (x : Operand) (ho : op.op = .load ty x) (g o : Nat) (hx : a.eval x = .pointer (some ⟨g, o, none⟩)) (cs : Array Value) (T : TypeId)
    (hS : ∀ w, S w → BlkT w g cs T) (part : Array Value) (hp : cs.extract o (o + part.size) = part) (d : TypeDesc) (hu : P.underlying ty = some d) (hd : d.isRow = true) (hi : (P.info? ty).map (·.size) = some part.size) : YieldsIf P ops S op (.agg part) a :=
  yields_load hw ty x ho g o hx part d (fun w hw' j v hj => by
    have hj' : part[j]? = some v := by simpa using hj
    have hl : j < part.size := (Array.getElem?_eq_some_iff.1 hj').1
    rw [blk_cell (hS w hw')]
    rw [← hp, Array.getElem?_extract] at hj'
    split at hj'
    · exact hj'
    · cases hj') hu hd hi
end
/-! ### The same, what the walk finds by itself left out -/
section
variable {P : Program} {ops : Array Oper} {rest : List Oper} {op : Oper} {a : Act} {w W : World} {Q : Exit → Act → World → Prop} {M : List Nat} {l l' : Ents} {x y : Operand} {g o : Nat} {cs cs' part : Array Value} {T : TypeId} {v : Value} {d : TypeDesc} {q : Tmp}
theorem ks_load1 (KN : Kn M W w l) (ty : TypeId) (hu : P.underlying ty = some d) (h : wpList P ops Q rest (a.put op.dst v) w) (ho : op.op = .load ty x := by exact rfl)
    (hx : a.eval x = .pointer (some ⟨g, o, none⟩) := by exact rfl) (m : Has l g (At cs T) := by repeat (first | exact Has.here | refine Has.there ?_)) (hv : cs[o]? = some v := by (repeat (first | ((with_reducible refine get_hit ?_); exact Nat.le_of_ble_eq_true (by kernel_rfl)) | ((with_reducible refine (get_miss ?_).trans ?_); (focus kernel_rfl)) | ((with_reducible refine (get_pmiss ?_).trans ?_); (focus kernel_rfl)))); all_goals (conv => lhs; whnf; arg 1; whnf)) (hd : d.isRow = false := by exact rfl) (hw : Region.wanted op (yielded ops a.tmps) = true := by rfl) : wpList P ops Q (op :: rest) a w :=
  wpList_kn_load1 KN hw ty x ho g o hx cs T m v hv d hu hd h
theorem ks_loadW (KN : Kn M W w l) (ty : TypeId) (hu : P.underlying ty = some d) (h : wpList P ops Q rest (a.put op.dst (.agg cs)) w) (ho : op.op = .load ty x := by exact rfl)
    (hx : a.eval x = .pointer (some ⟨g, 0, none⟩) := by exact rfl) (m : Has l g (At cs T) := by repeat (first | exact Has.here | refine Has.there ?_)) (hd : d.isRow = true := by exact rfl) (hi : (P.info? ty).map (·.size) = some cs.size := by kernel_rfl) (hw : Region.wanted op (yielded ops a.tmps) = true := by rfl) : wpList P ops Q (op :: rest) a w :=
  wpList_kn_loadW KN hw ty x ho g hx cs T m d hu hd hi h
theorem ks_storeW (KN : Kn M W w l) (ty : TypeId) (h : ∀ w', Kn M W w' l' → wpList P ops Q rest (a.put op.dst undef) w') (ho : op.op = .store ty x y := by exact rfl)
    (hx : a.eval x = .pointer (some ⟨g, 0, none⟩) := by exact rfl) (hy : a.eval y = .agg cs' := by exact rfl) (r : Repl l g (At cs T) (At cs' T) l' := by repeat (first | exact Repl.here | apply Repl.there)) (hs : cs'.size = cs.size := by kernel_rfl) (hi : (P.info? ty).map (·.size) = some cs'.size := by kernel_rfl) (h1 : cs'.all (·.oneCell') = true := by kernel_rfl) (hw : Region.wanted op (yielded ops a.tmps) = true := by rfl) : wpList P ops Q (op :: rest) a w :=
  wpList_kn_storeW KN hw ty x y ho g hx cs' hy cs T r hs hi h1 h
theorem ks_storeA (KN : Kn M W w l) (ty : TypeId) (h : ∀ w', Kn M W w' l' → wpList P ops Q rest (a.put op.dst undef) w') (ho : op.op = .store ty x y := by exact rfl)
    (hx : a.eval x = .pointer (some ⟨g, o, none⟩) := by exact rfl) (hy : a.eval y = .agg part := by exact rfl) (r : Repl l g (At cs T) (At (putL cs o part.toList) T) l' := by repeat (first | exact Repl.here | apply Repl.there)) (hle : o + part.size ≤ cs.size := by (try simp only [Array.size_setIfInBounds, putL_size]); first | exact Nat.le_of_ble_eq_true rfl | (simp; omega)) (hi : (P.info? ty).map (·.size) = some part.size := by kernel_rfl) (h1 : part.all (·.oneCell') = true := by kernel_rfl) (hw : Region.wanted op (yielded ops a.tmps) = true := by rfl) : wpList P ops Q (op :: rest) a w :=
  wpList_kn_storeA KN hw ty x y ho g o hx part hy cs T r hle hi h1 h
theorem ks_store1 (KN : Kn M W w l) (ty : TypeId) (h : ∀ w', Kn M W w' l' → wpList P ops Q rest (a.put op.dst undef) w') (ho : op.op = .store ty x y := by exact rfl)
    (hx : a.eval x = .pointer (some ⟨g, o, none⟩) := by exact rfl) (hy : a.eval y = v := by conv => lhs; whnf) (hv : v.cells = #[v] := by rfl) (r : Repl l g (At cs T) (At (cs.setIfInBounds o v) T) l' := by repeat (first | exact Repl.here | apply Repl.there)) (hle : o + 1 ≤ cs.size := by (try simp only [Array.size_setIfInBounds, putL_size]); first | exact Nat.le_of_ble_eq_true rfl | (simp; omega)) (hi : (P.info? ty).map (·.size) = some 1 := by kernel_rfl) (h1 : v.oneCell' = true := by rfl) (hw : Region.wanted op (yielded ops a.tmps) = true := by rfl) : wpList P ops Q (op :: rest) a w :=
  wpList_kn_store1 KN hw ty x y ho g o hx v hy hv cs T r hle hi h1 h
theorem ks_alloc (KN : Kn M W w l) (ty : TypeId) (cs : Array Value) (h : ∀ g w', W.heap.size ≤ g → Kn M W w' ((g, At cs ty) :: l) → wpList P ops Q rest (a.put (some q) (.pointer (some ⟨g, 0, none⟩))) w') (ho : op.op = .alloc ty := by exact rfl) (hd : op.dst = some q := by exact rfl)
    (hz : ((P.info? ty).bind (·.zero)).map (·.cells) = some cs := by kernel_rfl) (hw : Region.wanted op (yielded ops a.tmps) = true := by rfl) : wpList P ops Q (op :: rest) a w :=
  wpList_kn_alloc KN hw ty ho q hd cs hz h
theorem ks_boxA (KN : Kn M W w l) (ty : TypeId) (h : ∀ g w', W.heap.size ≤ g → Kn M W w' ((g, At cs ty) :: l) → wpList P ops Q rest (a.put (some q) (.pointer (some ⟨g, 0, none⟩))) w') (ho : op.op = .box ty x := by exact rfl) (hd : op.dst = some q := by exact rfl)
    (hx : a.eval x = .agg cs := by exact rfl) (hw : Region.wanted op (yielded ops a.tmps) = true := by rfl) : wpList P ops Q (op :: rest) a w :=
  wpList_kn_boxA KN hw ty x ho q hd cs hx h
end
end Go.Proofs.YtgeeklgojjcdmaaDoor
