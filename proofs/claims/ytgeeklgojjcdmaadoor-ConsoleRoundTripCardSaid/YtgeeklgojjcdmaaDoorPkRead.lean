/- Readings of plain arguments: structs, arrays and slices, flattened to cells and leaf types. Nothing of the program is imported. -/
import Derived.OpenShut
import Derived.Deep.Slices
import Derived.ChangeSame
import Derived.Below
import Derived.SizedLaws
set_option linter.unusedVariables false
set_option linter.unusedSimpArgs false
set_option linter.unusedSectionVars false
namespace Go.Proofs.YtgeeklgojjcdmaaDoor
open Go Go.ChangeShapes Go.WideShapes Go.RowKit

def packed (P : Program) (r : TypeId → Option (List TypeId)) : List Field → Nat → Option (List TypeId)
  | [], _ => some []
  | f :: fs, off => if f.offset = off then
      match r f.type with
      | some l => if l.length = P.cellsOf f.type then (packed P r fs (off + l.length)).map (l ++ ·) else none
      | none => none
    else none
/-- The types of a type's cells, in their order: structs and arrays laid open. -/
def leaves (P : Program) : Nat → TypeId → Option (List TypeId)
  | 0, _ => none
  | n + 1, t => match P.underlying t with
    | some (.struct fs) => match packed P (leaves P n) fs.toList 0 with
      | some l => if l.length = P.cellsOf t then some l else none
      | none => none
    | some (.array k e) => match leaves P n e with
      | some l => if l.length = P.cellsOf e ∧ k * l.length = P.cellsOf t then some (List.replicate k l).flatten else none
      | none => none
    | _ => if P.cellsOf t = 1 then some [t] else none

section
variable {H : Type} {enc : TypeId × Value → H} {P : Program} {w : World} {base : Nat} {spare : Nat → Bool} {held : Bool}

/-- These cells read as a value of type t, every string and slice in it within the reach. -/
def Rd (enc : TypeId × Value → H) (P : Program) (w : World) (base : Nat) (spare : Nat → Bool) (held : Bool) (t : TypeId) (cs : List Value) : Prop :=
  ∃ m y, DataW.trod enc P w base spare held m t cs = some y ∧ ∀ n ∈ y.1.weights P t, n ≤ reachBytes
theorem weights_all {e : TypeId} {n : Nat} {d : DataW H} : ∀ {ds : List (DataW H)}, d ∈ ds → n ∈ d.weights P e → n ∈ DataW.weightsAll P e ds
  | [], h, _ => by cases h
  | x :: r, h, hn => by
    simp only [DataW.weightsAll, List.mem_append]
    rcases List.mem_cons.1 h with rfl | h
    · exact .inl hn
    · exact .inr (weights_all h hn)
theorem Rd.struct {t : TypeId} {cs : List Value} {fs : Array Field} (h : Rd enc P w base spare held t cs) (hu : P.underlying t = some (.struct fs)) :
    cs.length = P.cellsOf t ∧ ∀ f ∈ fs.toList, Rd enc P w base spare held f.type ((cs.drop f.offset).take (P.cellsOf f.type)) := by
  obtain ⟨m, y, ht, hw⟩ := h
  obtain ⟨xs, n', _, rfl, hlen, hxl, hf⟩ := DataW.trod_struct hu ht
  refine ⟨hlen, fun f hfm => ?_⟩
  obtain ⟨i, hi⟩ := List.getElem?_of_mem hfm
  have hi' : fs[i]? = some f := by simpa using hi
  have h1 := hf i f hi'
  have hil : i < fs.size := (Array.getElem?_eq_some_iff.1 hi').1
  rw [List.getElem?_eq_getElem (by omega)] at h1
  refine ⟨_, _, h1, fun n hn => hw n ?_⟩
  simp only [DataW.weights, hu]
  exact DataW.weights_mem_each (j := i) (t := f.type) (d := (xs[i]'(by omega)).1) (by simp [hi']) (by rw [List.getElem?_map, List.getElem?_eq_getElem (by omega)]; rfl) n hn
theorem Rd.array {t e : TypeId} {k : Nat} {cs : List Value} (h : Rd enc P w base spare held t cs) (hu : P.underlying t = some (.array k e)) :
    cs.length = P.cellsOf t ∧ ∀ i, i < k → Rd enc P w base spare held e ((cs.drop (i * P.cellsOf e)).take (P.cellsOf e)) := by
  obtain ⟨m, y, ht, hw⟩ := h
  obtain ⟨xs, n', _, rfl, hlen, hxl, hf⟩ := DataW.trod_array hu ht
  refine ⟨hlen, fun i hi => ?_⟩
  have h1 := hf i hi
  rw [List.getElem?_eq_getElem (by omega)] at h1
  refine ⟨_, _, h1, fun n hn => hw n ?_⟩
  simp only [DataW.weights, hu]
  exact weights_all (List.mem_map.2 ⟨_, List.getElem_mem _, rfl⟩) hn
/-- A leaf: a cell that reads by its type. -/
def Leaf (enc : TypeId × Value → H) (P : Program) (w : World) (base : Nat) (spare : Nat → Bool) (held : Bool) (t : TypeId) (v : Value) : Prop := Rd enc P w base spare held t [v]

theorem Leaf.int {t : TypeId} {k : IntKind} {v : Value} (h : Leaf enc P w base spare held t v) (ht : P.underlying t = some (.int k)) : ∃ n, v = .int k n ∧ (Lit.int k n).wf = true := by
  obtain ⟨m, y, h, _⟩ := h
  obtain ⟨n, hc, _, hw⟩ := DataW.trod_int ht h
  exact ⟨n, by simpa using hc, hw⟩
theorem Leaf.bool {t : TypeId} {v : Value} (h : Leaf enc P w base spare held t v) (ht : P.underlying t = some .bool) : ∃ b, v = .bool b := by
  obtain ⟨m, y, h, _⟩ := h
  obtain ⟨n, hc, _⟩ := DataW.trod_bool ht h
  exact ⟨n, by simpa using hc⟩
theorem Leaf.string {t : TypeId} {v : Value} (h : Leaf enc P w base spare held t v) (ht : P.underlying t = some .string) : ∃ s : ByteArray, v = .string s ∧ s.size ≤ 140737488351232 := by
  obtain ⟨m, y, h, hs⟩ := h
  obtain ⟨n, hc, rfl, hw⟩ := DataW.trod_string ht h
  exact ⟨n, by simpa using hc, hs n.size (by simp [DataW.weights])⟩


/-- v is a slice whose elements, of sz cells each, are these. -/
def Row (w : World) (v : Value) (sz : Nat) (L : List (List Value)) : Prop :=
  L.length ≤ maxLen ∧ ((L = [] ∧ ∃ a c, v = .slice a 0 c) ∨ ∃ b off cap, v = .slice (some ⟨b, off, none⟩) L.length cap ∧ 0 < L.length ∧ L.length ≤ cap ∧ cap ≤ maxLen ∧ b < w.heap.size ∧
    ∀ i c j x, L[i]? = some c → c[j]? = some x → w.cell? ⟨b, off + i * sz + j, none⟩ = some x)
theorem Row.below {w w' : World} {v : Value} {sz : Nat} {L : List (List Value)} (h : Row w v sz L) (hb : Below w.heap.size w w') : Row w' v sz L := by
  refine ⟨h.1, ?_⟩
  rcases h.2 with h2 | ⟨b, off, cap, hv, h0, hl, hm, hbb, hc⟩
  · exact .inl h2
  · exact .inr ⟨b, off, cap, hv, h0, hl, hm, Nat.lt_of_lt_of_le hbb hb.size, fun i c j x hi hj => (hb.cell (by exact hbb)).trans (hc i c j x hi hj)⟩
theorem Row.form {w : World} {v : Value} {sz : Nat} {L : List (List Value)} (h : Row w v sz L) : ∃ a c, v = .slice a L.length c := by
  rcases h.2 with ⟨rfl, a, c, rfl⟩ | ⟨b, off, cap, rfl, _⟩
  · exact ⟨a, c, rfl⟩
  · exact ⟨_, _, rfl⟩
theorem cell_spot {w : World} {a : Addr} {v : Value} (h : w.cell? a = some v) : a = ⟨a.block, a.off, none⟩ ∧ a.block < w.heap.size := by
  unfold World.cell? at h
  split at h
  · rename_i c e m hb
    split at h
    · cases h
    · rename_i hs
      obtain ⟨b, o, s⟩ := a
      cases s with
      | some s => simp at hs
      | none => exact ⟨rfl, (Array.getElem?_eq_some_iff.1 hb).1⟩
  · cases h
theorem add_spot {a : Addr} (h : a = ⟨a.block, a.off, none⟩) (n : Nat) : a.add n = ⟨a.block, a.off + n, none⟩ := by
  unfold Addr.add
  split
  · rename_i h0; subst h0; exact h
  · rfl
theorem row_of {t e : TypeId} {v : Value} (hsp : ∀ b, spare b = true) (ht : P.underlying t = some (.slice e)) (hz : 0 < P.cellsOf e) (h : Rd enc P w base spare held t [v]) :
    ∃ L : List (List Value), Row w v (P.cellsOf e) L ∧ (∀ c ∈ L, Rd enc P w base spare held e c) ∧ L.length * P.bytesOf e ≤ reachBytes := by
  obtain ⟨fuel, y, hf, hw⟩ := h
  rcases Go.Deep.open_slice ht hf with ⟨hcs, _⟩ | ⟨x, len, cap, m, n, D, Pl, hcs, _, hl, hm, hmm, rfl, hi⟩
  · simp only [List.cons.injEq, and_true] at hcs
    subst hcs
    exact ⟨[], ⟨by simp, .inl ⟨rfl, _, _, rfl⟩⟩, by simp, by simp⟩
  · simp only [List.cons.injEq, and_true] at hcs
    subst hcs
    rw [hsp, if_pos rfl] at hmm
    have hall : ∀ i, i < len → ∃ cs', w.cells? base (x.add (i * P.cellsOf e)) (P.cellsOf e) = some cs' ∧ DataW.trod enc P w base spare held n e cs' = some (D i, Pl i) := fun i h => hi i (by omega)
    refine ⟨(List.range len).map fun i => (w.cells? base (x.add (i * P.cellsOf e)) (P.cellsOf e)).getD [], ⟨by simp; omega, ?_⟩, ?_, ?_⟩
    · by_cases h0 : len = 0
      · subst h0; exact .inl ⟨rfl, _, _, rfl⟩
      · have hsp : x = ⟨x.block, x.off, none⟩ ∧ x.block < w.heap.size := by
          obtain ⟨cs', h1, _⟩ := hall 0 (by omega)
          obtain ⟨_, hlen, hc⟩ := World.cells?_some h1
          have := hc 0 hz
          rw [List.getElem?_eq_getElem (by omega)] at this
          have e0 : (x.add (0 * P.cellsOf e)).add 0 = x := by simp [Addr.add]
          rw [e0] at this
          exact cell_spot this
        refine .inr ⟨x.block, x.off, cap, by simp; exact hsp.1, by simp; omega, by simpa using hl, hm, hsp.2, ?_⟩
        intro i c' j y hi' hj
        have hil : i < len := by
          have := (List.getElem?_eq_some_iff.1 hi').1
          simpa using this
        obtain ⟨cs', h1, _⟩ := hall i hil
        simp only [List.getElem?_map, List.getElem?_range hil, Option.map_some, h1, Option.getD_some, Option.some.injEq] at hi'
        subst hi'
        obtain ⟨_, hlen, hc⟩ := World.cells?_some h1
        have hjl : j < P.cellsOf e := by have := (List.getElem?_eq_some_iff.1 hj).1; omega
        have := hc j hjl
        rw [add_spot hsp.1, add_spot rfl] at this
        exact this.trans hj
    · intro c hc
      simp only [List.mem_map, List.mem_range] at hc
      obtain ⟨i, hil, rfl⟩ := hc
      obtain ⟨cs', h1, h2⟩ := hall i hil
      rw [h1]
      refine ⟨_, _, h2, fun q hq => hw q ?_⟩
      simp only [DataW.weights, ht, List.mem_cons, List.mem_append]
      exact .inr (.inl (weights_all (List.mem_map.2 ⟨i, by simpa using hil, rfl⟩) hq))
    · have := hw ((((List.range len).map D).length + ((List.range (m - len)).map fun j => D (len + j)).length) * P.bytesOf e) (by simp [DataW.weights, ht])
      simp only [List.length_map, List.length_range] at this ⊢
      exact Nat.le_trans (Nat.mul_le_mul_right _ (by omega)) this
theorem Rd.of {t : TypeId} {v : Value} {d : DataW H} {p : List MemPlace} (h : DataW.Trod enc P w base spare held t v d p) (hs : ∀ n ∈ d.weights P t, n ≤ reachBytes) : Rd enc P w base spare held t v.cells.toList := by
  obtain ⟨m, hm⟩ := h
  exact ⟨m, _, hm, hs⟩
/-- An argument that is a slice. -/
theorem open_row {t e : TypeId} {v : Value} {d : DataW H} {p : List MemPlace} {r : Reach} {b0 : Nat} (ht : P.underlying t = some (.slice e)) (hz : 0 < P.cellsOf e) (hok : Value.okWide P w r b0 t v)
    (h : DataW.Trod enc P w base (fun _ => true) held t v d p) (hs : ∀ n ∈ d.weights P t, n ≤ reachBytes) :
    ∃ L : List (List Value), Row w v (P.cellsOf e) L ∧ (∀ c ∈ L, Rd enc P w base (fun _ => true) held e c) ∧ L.length * P.bytesOf e ≤ reachBytes := by
  obtain ⟨a, len, cap, rfl⟩ := okWide_slice ht hok
  exact row_of (fun _ => rfl) ht hz (Rd.of h hs)
end
end Go.Proofs.YtgeeklgojjcdmaaDoor
