/- Readings of plain arguments: structs, arrays and slices, flattened to cells and leaf types. Nothing of the program is imported. -/
import Derived.OpenShut
import Derived.Deep.Slices
import Derived.ChangeSame
import Derived.Below
import Derived.SizedLaws
set_option linter.unusedVariables false
set_option linter.unusedSimpArgs false
set_option linter.unusedSectionVars false
namespace Go.Proofs.YtemigcdieghkfaaDoor
open Go Go.ChangeShapes Go.WideShapes Go.RowKit

def packed (P : Program) (r : TypeId → Option (List TypeId)) : List Field → Nat → Option (List TypeId)
  | [], _ => some []
  | f :: fs, off => if f.offset = off then
      match r f.type with
      | some l => if l.length = P.cellsOf f.type then (packed P r fs (off + l.length)).map (l ++ ·) else none
      | none => none
    else none
/-- The types of a type's cells, in their order: structs and arrays laid open. -/
def leaves (P : Program) : Nat → TypeId → Option (List TypeId)
  | 0, _ => none
  | n + 1, t => match P.underlying t with
    | some (.struct fs) => match packed P (leaves P n) fs.toList 0 with
      | some l => if l.length = P.cellsOf t then some l else none
      | none => none
    | some (.array k e) => match leaves P n e with
      | some l => if l.length = P.cellsOf e ∧ k * l.length = P.cellsOf t then some (List.replicate k l).flatten else none
      | none => none
    | _ => if P.cellsOf t = 1 then some [t] else none

section
variable {H : Type} {enc : TypeId × Value → H} {P : Program} {w : World} {base : Nat} {spare : Nat → Bool} {held : Bool}

/-- These cells read as a value of type t, every string and slice in it within the reach. -/
def Rd (enc : TypeId × Value → H) (P : Program) (w : World) (base : Nat) (spare : Nat → Bool) (held : Bool) (t : TypeId) (cs : List Value) : Prop :=
  ∃ m y, DataW.trod enc P w base spare held m t cs = some y ∧ ∀ n ∈ y.1.weights P t, n ≤ reachBytes
theorem weights_all {e : TypeId} {n : Nat} {d : DataW H} : ∀ {ds : List (DataW H)}, d ∈ ds → n ∈ d.weights P e → n ∈ DataW.weightsAll P e ds
  | [], h, _ => by cases h
  | x :: r, h, hn => by
    simp only [DataW.weightsAll, List.mem_append]
    rcases List.mem_cons.1 h with rfl | h
    · exact .inl hn
    · exact .inr (weights_all h hn)
theorem Rd.struct {t : TypeId} {cs : List Value} {fs : Array Field} (h : Rd enc P w base spare held t cs) (hu : P.underlying t = some (.struct fs)) :
    cs.length = P.cellsOf t ∧ ∀ f ∈ fs.toList, Rd enc P w base spare held f.type ((cs.drop f.offset).take (P.cellsOf f.type)) := by
  obtain ⟨m, y, ht, hw⟩ := h
  obtain ⟨xs, n', _, rfl, hlen, hxl, hf⟩ := DataW.trod_struct hu ht
  refine ⟨hlen, fun f hfm => ?_⟩
  obtain ⟨i, hi⟩ := List.getElem?_of_mem hfm
  have hi' : fs[i]? = some f := by simpa using hi
  have h1 := hf i f hi'
  have hil : i < fs.size := (Array.getElem?_eq_some_iff.1 hi').1
  rw [List.getElem?_eq_getElem (by omega)] at h1
  refine ⟨_, _, h1, fun n hn => hw n ?_⟩
  simp only [DataW.weights, hu]
  exact DataW.weights_mem_each (j := i) (t := f.type) (d := (xs[i]'(by omega)).1) (by simp [hi']) (by rw [List.getElem?_map, List.getElem?_eq_getElem (by omega)]; rfl) n hn
theorem Rd.array {t e : TypeId} {k : Nat} {cs : List Value} (h : Rd enc P w base spare held t cs) (hu : P.underlying t = some (.array k e)) :
    cs.length = P.cellsOf t ∧ ∀ i, i < k → Rd enc P w base spare held e ((cs.drop (i * P.cellsOf e)).take (P.cellsOf e)) := by
  obtain ⟨m, y, ht, hw⟩ := h
  obtain ⟨xs, n', _, rfl, hlen, hxl, hf⟩ := DataW.trod_array hu ht
  refine ⟨hlen, fun i hi => ?_⟩
  have h1 := hf i hi
  rw [List.getElem?_eq_getElem (by omega)] at h1
  refine ⟨_, _, h1, fun n hn => hw n ?_⟩
  simp only [DataW.weights, hu]
  exact weights_all (List.mem_map.2 ⟨_, List.getElem_mem _, rfl⟩) hn
/-- A leaf: a cell that reads by its type. -/
def Leaf (enc : TypeId × Value → H) (P : Program) (w : World) (base : Nat) (spare : Nat → Bool) (held : Bool) (t : TypeId) (v : Value) : Prop := Rd enc P w base spare held t [v]

theorem Leaf.int {t : TypeId} {k : IntKind} {v : Value} (h : Leaf enc P w base spare held t v) (ht : P.underlying t = some (.int k)) : ∃ n, v = .int k n ∧ (Lit.int k n).wf = true := by
  obtain ⟨m, y, h, _⟩ := h
  obtain ⟨n, hc, _, hw⟩ := DataW.trod_int ht h
  exact ⟨n, by simpa using hc, hw⟩
theorem Leaf.bool {t : TypeId} {v : Value} (h : Leaf enc P w base spare held t v) (ht : P.underlying t = some .bool) : ∃ b, v = .bool b := by
  obtain ⟨m, y, h, _⟩ := h
  obtain ⟨n, hc, _⟩ := DataW.trod_bool ht h
  exact ⟨n, by simpa using hc⟩
theorem Leaf.string {t : TypeId} {v : Value} (h : Leaf enc P w base spare held t v) (ht : P.underlying t = some .string) : ∃ s : ByteArray, v = .string s ∧ s.size ≤ 140737488351232 := by
  obtain ⟨m, y, h, hs⟩ := h
  obtain ⟨n, hc, rfl, hw⟩ := DataW.trod_string ht h
  exact ⟨n, by simpa using hc, hs n.size (by simp [DataW.weights])⟩


/-- v is a slice whose elements, of sz cells each, are these. -/
def Row (w : World) (v : Value) (sz : Nat) (L : List (List Value)) : Prop :=
  L.length ≤ maxLen ∧ ((L = [] ∧ ∃ a c, v = .slice a 0 c) ∨ ∃ b off cap, v = .slice (some ⟨b, off, none⟩) L.length cap ∧ 0 < L.length ∧ L.length ≤ cap ∧ cap ≤ maxLen ∧ b < w.heap.size ∧
    ∀ i c j x, L[i]? = some c → c[j]? = some x → w.cell? ⟨b, off + i * sz + j, none⟩ = some x)
theorem Row.below {w w' : World} {v : Value} {sz : Nat} {L : List (List Value)} (h : Row w v sz L) (hb : Below w.heap.size w w') : Row w' v sz L := by
  refine ⟨h.1, ?_⟩
  rcases h.2 with h2 | ⟨b, off, cap, hv, h0, hl, hm, hbb, hc⟩
  · exact .inl h2
  · exact .inr ⟨b, off, cap, hv, h0, hl, hm, Nat.lt_of_lt_of_le hbb hb.size, fun i c j x hi hj => (hb.cell (by exact hbb)).trans (hc i c j x hi hj)⟩
theorem Row.form {w : World} {v : Value} {sz : Nat} {L : List (List Value)} (h : Row w v sz L) : ∃ a c, v = .slice a L.length c := by
  rcases h.2 with ⟨rfl, a, c, rfl⟩ | ⟨b, off, cap, rfl, _⟩
  · exact ⟨a, c, rfl⟩
  · exact ⟨_, _, rfl⟩
theorem Rd.of {t : TypeId} {v : Value} {d : DataW H} {p : List MemPlace} (h : DataW.Trod enc P w base spare held t v d p) (hs : ∀ n ∈ d.weights P t, n ≤ reachBytes) : Rd enc P w base spare held t v.cells.toList := by
  obtain ⟨m, hm⟩ := h
  exact ⟨m, _, hm, hs⟩
end
end Go.Proofs.YtemigcdieghkfaaDoor
