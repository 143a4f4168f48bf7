/- LexSpacing: what the law returns. -/
import Derived.Test.YtmeicjndfblglaaDoorRight
import Derived.Test.YtmeicjndfblglaaDoorSpacePlain
set_option linter.unusedVariables false
set_option linter.unusedSimpArgs false
set_option linter.unusedSectionVars false
namespace Go.Proofs.YtmeicjndfblglaaDoor
open Go.RowKit

theorem same_nil (a b : Option Addr) (ca cb : Nat) (bf : Bool) (w : World) :
    Calls Tryd.prog 10 #[.slice a 0 ca, .slice b 0 cb, .bool bf] w fun e w' => e = .returned (.bool true) ∧ Below w.heap.size w w' := by
  go_enter Tryd.func10, Tryd.ntmps10
  go_wp2
  go_loop [7] (fun i => i = .int .i64 0) (fun _ => 0)
  case atStart => rfl
  case round =>
    obtain rfl := hrel
    go_wp2
    go_ret
    exact ⟨rfl, Below.refl _ _⟩

theorem same_toks (va vb : Value) (d dd : List Tok) (w : World) (h : Toks w va d) (hb : TokSlice w vb dd.length dd) (he : dd.map (·.raw) = d.map (·.raw)) (hd : d.length ≤ 100) :
    Calls Tryd.prog 10 #[va, vb, .bool true] w fun e w' => e = .returned (.bool true) ∧ Below w.heap.size w w' := by
  have hl : dd.length = d.length := by have := congrArg List.length he; simpa using this
  rcases h.slice (by omega) with ⟨rfl, a, c, rfl⟩ | hs
  · simp only [List.length_nil] at hl
    rcases hb.2 with ⟨_, rfl⟩ | ⟨b, off, cap, rfl, _⟩
    · exact same_nil a none c 0 true w
    · rw [hl]; exact same_nil a _ c cap true w
  · refine same_any va vb d.length d dd true w hs (by rw [hl] at hb; exact hb) ?_
    intro i t1 t2 h1 h2
    refine ⟨?_, fun h => by cases h⟩
    have e1 : (d.map (·.raw))[i]? = some t1.raw := by rw [List.getElem?_map, h1]; rfl
    have e2 : (dd.map (·.raw))[i]? = some t2.raw := by rw [List.getElem?_map, h2]; rfl
    rw [he, e1] at e2
    exact Option.some.inj e2

def gapsA : Array Value := #[.string ⟨#[32]⟩, .string ⟨#[10]⟩, .string ⟨#[9, 13, 10]⟩, .string ⟨#[32, 35, 32, 97, 32, 99, 111, 109, 109, 101, 110, 116, 32, 34, 32, 123, 32, 10]⟩, .string ⟨#[35, 10, 35, 10]⟩, .string ⟨#[32, 32, 9]⟩]
theorem gap_cell {w : World} {b i : Nat} {T : TypeId} (h : w.heap[b]? = some (.cells gapsA T)) (hi : i < 6) : w.cell? ⟨b, i, none⟩ = some (.string (str (gapN i))) := by
  unfold World.cell?
  simp only [h]
  obtain rfl | rfl | rfl | rfl | rfl | rfl : i = 0 ∨ i = 1 ∨ i = 2 ∨ i = 3 ∨ i = 4 ∨ i = 5 := by omega
  all_goals rfl
def gI (zs : List Int) (i : Nat) : Nat := (nextV zs i % 6).toNat
theorem spaced_step (rs : List Raw) (g : Nat → Nat) (k : Nat) (r : Raw) (h : rs[k]? = some r) :
    Value.string (str (spaced rs g k) ++ str (textOf r).1 ++ str (gapN (g (k + 1)))) = .string (str (spaced rs g (k + 1))) := by
  congr 1
  apply bytes_ext
  have e : rs.getD k ⟨0, [], 0⟩ = r := by rw [List.getD_eq_getElem?_getD, h]; rfl
  simp only [str, spaced, e]
  simp
theorem gI_lt (zs : List Int) (i : Nat) : gI zs i < 6 := by
  have h1 := Int.emod_nonneg (nextV zs i) (show (6 : Int) ≠ 0 by decide)
  have h2 := Int.emod_lt_of_pos (nextV zs i) (show (0 : Int) < 6 by decide)
  unfold gI; omega

/-- What stands in memory while the text is made: the numbers (K told), the gaps; what was there is as it was. -/
def SpW (T U : TypeId) (vg : Value) (k : Nat) (w1 w : World) : Prop :=
  Below w1.heap.size w1 w ∧ w.heap[w1.heap.size]? = some (.cells #[vg, .int .i64 (k : Int)] T) ∧ w.heap[w1.heap.size + 1]? = some (.cells gapsA U)
theorem SpW.cell {T U : TypeId} {vg : Value} {k i : Nat} {w1 w : World} (h : SpW T U vg k w1 w) (hi : i < 6) : w.cell? ⟨w1.heap.size + 1, i, none⟩ = some (.string (str (gapN i))) := gap_cell h.2.2 hi
theorem SpW.cells {T U : TypeId} {vg : Value} {k : Nat} {w1 w : World} (h : SpW T U vg k w1 w) :
    w.cell? ⟨w1.heap.size, 0, none⟩ = some vg ∧ w.cell? ⟨w1.heap.size, 1, none⟩ = some (.int .i64 (k : Int)) ∧ w.frozen? ⟨w1.heap.size, 1, none⟩ = false ∧ w1.heap.size + 1 < w.heap.size :=
  ⟨by simp [World.cell?, h.2.1], by simp [World.cell?, h.2.1], by simp [World.frozen?, h.2.1], (Array.getElem?_eq_some_iff.1 h.2.2).1⟩
theorem SpW.below {T U : TypeId} {vg : Value} {k : Nat} {w1 w w' : World} (h : SpW T U vg k w1 w) (hb : Below w.heap.size w w') : SpW T U vg k w1 w' := by
  have hz := h.cells.2.2.2
  exact ⟨h.1.trans (hb.mono (by omega)), (hb.block _ (by omega)).trans h.2.1, (hb.block _ hz).trans h.2.2⟩
theorem sp_start (w1 : World) (vg : Value) {T U : TypeId} : SpW T U vg 0 w1 ((w1.alloc (.cells #[vg, .int .i64 0] T)).alloc (.cells gapsA U)) := by
  refine ⟨((Below.refl _ _).alloc (Nat.le_refl _) _).alloc (by simp) _, ?_, ?_⟩
  · rw [Below.heap_alloc _ _ _ (by simp)]; exact heap_alloc_new w1 _
  · have h := heap_alloc_new (w1.alloc (.cells #[vg, .int .i64 0] T)) (.cells gapsA U)
    rw [show (w1.alloc (.cells #[vg, .int .i64 0] T)).heap.size = w1.heap.size + 1 from by simp] at h
    exact h
theorem sp_next {T U : TypeId} {vg : Value} {k : Nat} {w1 w w' : World} (h : SpW T U vg k w1 w) (hn : ∃ nq, w' = (w.setCell ⟨w1.heap.size, 1, none⟩ (.int .i64 ((k + 1 : Nat) : Int))).drewN nq) : SpW T U vg (k + 1) w1 w' := by
  obtain ⟨nq, rfl⟩ := hn
  refine ⟨below_drewN (h.1.setCell (Nat.le_refl _) _) _, ?_, ?_⟩
  · show (w.setCell _ _).heap[w1.heap.size]? = _
    simp only [World.setCell, Array.getElem?_modify, if_pos, h.2.1]
    rfl
  · show (w.setCell _ _).heap[w1.heap.size + 1]? = _
    rw [Below.heap_setCell _ _ _ _ (by simp)]; exact h.2.2

theorem Toks.get {w : World} {a : Option Addr} {n c : Nat} {d : List Tok} (h : Toks w (.slice a n c) d) {k : Nat} {t : Tok} (ht : d[k]? = some t) : ∃ b off, a = some ⟨b, off, none⟩ ∧ b < w.heap.size ∧
    w.cell? ⟨b, off + k * 5, none⟩ = some (.int .i64 t.raw.kind) ∧ w.cell? ⟨b, off + k * 5 + 1, none⟩ = some (.string (str t.raw.text)) ∧ w.cell? ⟨b, off + k * 5 + 2, none⟩ = some (.int .u64 t.raw.value) ∧ w.cell? ⟨b, off + k * 5 + 3, none⟩ = some (.int .i64 t.line) ∧ w.cell? ⟨b, off + k * 5 + 4, none⟩ = some (.int .i64 t.col) := by
  rcases h.1.2 with ⟨h, _⟩ | ⟨b, off, cap, hv, h0, hl, hm, hb, hc⟩
  · have : d = [] := by simpa using h
    subst this; simp at ht
  · simp only [Value.slice.injEq] at hv
    have g := hc k t.cells.toList
    have hi : (d.map fun t => t.cells.toList)[k]? = some t.cells.toList := by rw [List.getElem?_map, ht]; rfl
    exact ⟨b, off, hv.1, hb, g 0 _ hi rfl, g 1 _ hi rfl, g 2 _ hi rfl, g 3 _ hi rfl, g 4 _ hi rfl⟩

end Go.Proofs.YtmeicjndfblglaaDoor
