/- viewsync.Next, no move being asked for: the walk. -/
import Derived.Test.YtpjejaoobbancaaPkNextP
import Derived.Test.YtpjejaoobbancaaPkInc
import Derived.Test.YtpjejaoobbancaaPkSyn0
import Derived.Deep.CutBlock
import Derived.StillTailTactics
set_option linter.unusedVariables false
set_option linter.unusedSimpArgs false
set_option linter.unusedSectionVars false
namespace Go.Proofs.Ytpjejaoobbancaa
open Go.RowKit Go.BigFrame

theorem isCore_yes (x : Int) (h0 : 0 ≤ x) (h1 : x < 32) (w : World) : Calls Try.prog 27 #[.int .i64 x] w fun e w' => e = .returned (.bool true) ∧ w = w' := by
  have q1 : decide (0 ≤ x) = true := decide_eq_true h0
  have q2 : decide (x < 32) = true := decide_eq_true h1
  go_enter Try.func27, Try.ntmps27
  go_wp2
  go_ret
  exact ⟨rfl, rfl⟩
theorem row_at {w : World} {a : Option Addr} {n c : Nat} {zs : List Int} (h : Row w (.slice a n c) 1 (intRows zs)) {k : Nat} {x : Int} (hx : zs[k]? = some x) : ∃ g off, a = some ⟨g, off, none⟩ ∧ g < w.heap.size ∧ n ≤ c ∧ c ≤ maxLen ∧ w.cell? ⟨g, off + k, none⟩ = some (.int .i64 x) := by
  obtain ⟨a', c', hv, _, hf⟩ := ints_form h
  simp only [Value.slice.injEq] at hv
  obtain ⟨rfl, rfl, rfl⟩ := hv
  obtain ⟨g, off, h1, h2, h3, h4, h5⟩ := hf k x hx
  exact ⟨g, off, h1, h2, h3, h4, h5⟩
theorem upto_lt {n : Nat} : ∀ z ∈ upto n, 0 ≤ z ∧ z < (n : Int) := by
  intro z hz
  unfold upto at hz
  obtain ⟨k, hk, rfl⟩ := List.mem_map.1 hz
  have := List.mem_range.1 hk
  omega
/-- What is asked of a list's values, sorted. -/
def SortsTo (w : World) (v : Value) (srt : List Int) : Prop := ∀ w1, Below w.heap.size w w1 → Calls Try.prog 33 #[v] w1 fun e w2 => ∃ fv, e = .returned fv ∧ Below w1.heap.size w1 w2 ∧ Calls Try.prog 32 #[fv] w2 fun e w3 => ∃ s, e = .returned s ∧ Row w3 s 1 (intRows srt) ∧ Below w2.heap.size w2 w3
def NxA (p : Int) (rs : List Rep) (g12 : Nat) (w : World) (vn vr i : Value) (wr : World) : Prop :=
  ∃ (k : Nat) (on or : Ents), i = .int .i64 (k : Int) ∧ k ≤ rs.length ∧ OwnT 3 1 vn (intRows (numsOf p (rs.take k))) on ∧ OwnT 3 1 vr (intRows (upto k)) or ∧ Kn [] w wr ((g12, At #[.int .i64 0, .slice none 0 0, .slice none 0 0] 30) :: (on ++ or))
/-- The base view's members that have reported. -/
def NxD (bm : List Int) (n : Nat) (num : Int) (or : Ents) (g12 g17 g18 : Nat) (b17 : Array Value) (w : World) (i : Value) (wr : World) : Prop :=
  ∃ (k : Nat) (vm : Value) (om : Ents), i = .int .i64 (k : Int) ∧ k ≤ bm.length ∧ OwnT 3 1 vm (intRows (inL (bm.take k) (upto n))) om ∧ Kn [] w wr ((g18, At #[.int .i64 num, vm, .slice none 0 0] 30) :: (g17, At b17 30) :: (g12, At #[.int .i64 0, .slice none 0 0, .slice none 0 0] 30) :: (or ++ om))
def NxF (m0 cs : List Int) (num : Int) (oc : Ents) (g12 g17 g18 : Nat) (b17 : Array Value) (w : World) (i : Value) (wr : World) : Prop :=
  ∃ (k : Nat) (vm : Value) (om : Ents), i = .int .i64 (k : Int) ∧ k ≤ cs.length ∧ OwnT 3 1 vm (intRows (joinU m0 (cs.take k))) om ∧ Kn [] w wr ((g18, At #[.int .i64 num, vm, .slice none 0 0] 30) :: (g17, At b17 30) :: (g12, At #[.int .i64 0, .slice none 0 0, .slice none 0 0] 30) :: (oc ++ om))
def ViewsB (rs : List Rep) : Prop := ∀ r ∈ rs, (r.view.mem.length ≤ 1000 ∧ r.view.own.length ≤ 1000) ∧ r.next.mem.length ≤ 1000 ∧ r.next.own.length ≤ 1000
theorem baseVf_len {rs : List Rep} (h : ViewsB rs) (b : Int) (ad : Bool) : (baseVf rs b ad).mem.length ≤ 1000 ∧ (baseVf rs b ad).own.length ≤ 1000 := by
  unfold baseVf
  split
  · rename_i r hr
    exact (h r (List.mem_of_find?_eq_some hr)).1
  · split
    · rename_i r hr
      exact (h r (List.mem_of_find?_eq_some hr)).2
    · exact ⟨by simp, by simp⟩
theorem joinU_len (ms cs : List Int) : (joinU ms cs).length ≤ ms.length + cs.length := by
  induction cs generalizing ms with
  | nil => exact Nat.le_refl _
  | cons c cs ih =>
    have h := ih (if c ∈ ms then ms else ms ++ [c])
    have e : joinU ms (c :: cs) = joinU (if c ∈ ms then ms else ms ++ [c]) cs := rfl
    rw [e]
    split at h <;> rename_i hc
    · rw [if_pos hc, List.length_cons]; omega
    · rw [if_neg hc, List.length_cons]; rw [List.length_append] at h; simp only [List.length_cons, List.length_nil] at h; omega
theorem perm3 {α : Type} (x y z : α) (or om oj : List α) : (oj ++ (x :: y :: z :: (or ++ om))).Perm (x :: y :: z :: ((om ++ oj) ++ or)) := by
  refine List.perm_append_comm.trans ?_
  show (x :: y :: z :: ((or ++ om) ++ oj)).Perm _
  refine List.Perm.cons _ (List.Perm.cons _ (List.Perm.cons _ ?_))
  rw [List.append_assoc]
  exact List.perm_append_comm
theorem perm4 {α : Type} (x y z : α) (om oo : List α) : (x :: y :: z :: (om ++ oo)).Perm (oo ++ (x :: y :: z :: om)) := List.perm_append_comm (l₁ := x :: y :: z :: om) (l₂ := oo)
theorem intRows_set (l : List Int) (k : Nat) (u : Int) : intRows (l.set k u) = (intRows l).set k [Value.int .i64 u] := List.map_set
def fixK (mem ow : List Int) (k : Nat) : List Int := (ow.take k).map (fix1 mem) ++ ow.drop k
theorem fixK_len (mem ow : List Int) (k : Nat) : (fixK mem ow k).length = ow.length := by unfold fixK; rw [List.length_append, List.length_map, List.length_take, List.length_drop]; omega
theorem fixK_at {mem ow : List Int} {k : Nat} {x : Int} (h : ow[k]? = some x) : (fixK mem ow k)[k]? = some x := by
  have hk := (List.getElem?_eq_some_iff.1 h).1
  unfold fixK
  rw [List.getElem?_append_right (by rw [List.length_map, List.length_take]; omega), List.length_map, List.length_take, List.getElem?_drop, show k + (k - min k ow.length) = k from by omega]
  exact h
theorem fixK_set {mem ow : List Int} {k : Nat} {x : Int} (h : ow[k]? = some x) : fixK mem ow (k + 1) = (fixK mem ow k).set k (fix1 mem x) := by
  have hk := (List.getElem?_eq_some_iff.1 h).1
  have hx : ow[k] = x := by rw [List.getElem?_eq_getElem hk] at h; simpa using h
  unfold fixK
  rw [take_snocI h, List.map_append, List.append_assoc, List.set_append, if_neg (by rw [List.length_map, List.length_take]; omega), List.length_map, List.length_take, show k - min k ow.length = 0 from by omega]
  congr 1
  rw [List.drop_eq_getElem_cons hk]
  rfl
theorem fixK_same {mem ow : List Int} {k : Nat} {x : Int} (h : ow[k]? = some x) (hf : fix1 mem x = x) : fixK mem ow (k + 1) = fixK mem ow k := by
  rw [fixK_set h, hf]
  apply List.ext_getElem?
  intro i
  rw [List.getElem?_set]
  split
  · rename_i hi
    subst hi
    rw [if_pos (by rw [fixK_len]; exact (List.getElem?_eq_some_iff.1 h).1), fixK_at h]
  · rfl
def NxI (mem ow : List Int) (vo : Value) (L : Ents) (w : World) (i : Value) (wr : World) : Prop :=
  ∃ (k : Nat) (oo : Ents), i = .int .i64 (k : Int) ∧ k ≤ ow.length ∧ OwnT 3 1 vo (intRows (fixK mem ow k)) oo ∧ Kn [] w wr (oo ++ L)
end Go.Proofs.Ytpjejaoobbancaa
