/- The view that a leader proposes: plain. -/
import Derived.Test.YtpjejaoobbancaaPkBaseV
set_option linter.unusedVariables false
set_option linter.unusedSimpArgs false
set_option linter.unusedSectionVars false
namespace Go.Proofs.Ytpjejaoobbancaa
open Go

def joinU (ms cs : List Int) : List Int := cs.foldl (fun ms c => if c ∈ ms then ms else ms ++ [c]) ms
theorem joinU_snoc (ms cs : List Int) (c : Int) : joinU ms (cs ++ [c]) = if c ∈ joinU ms cs then joinU ms cs else joinU ms cs ++ [c] := by unfold joinU; rw [List.foldl_append]; rfl
def inL (l ms : List Int) : List Int := l.filter fun c => decide (c ∈ ms)
theorem inL_yes {l ms : List Int} {k : Nat} {x : Int} (hx : l[k]? = some x) (h : x ∈ ms) : inL (l.take (k + 1)) ms = inL (l.take k) ms ++ [x] := by
  unfold inL; rw [take_snocI hx, List.filter_append]; simp [h]
theorem inL_no {l ms : List Int} {k : Nat} {x : Int} (hx : l[k]? = some x) (h : x ∉ ms) : inL (l.take (k + 1)) ms = inL (l.take k) ms := by
  unfold inL; rw [take_snocI hx, List.filter_append]; simp [h]
theorem inL_len (l ms : List Int) : (inL l ms).length ≤ l.length := List.length_filter_le _ _
def fix1 (mem : List Int) (c : Int) : Int := if c ∈ mem then c else mem.headD c
def repNums (r : Rep) : List Int := r.view.num :: (if r.ready = true then [r.next.num] else [])
def numsOf (p : Int) (rs : List Rep) : List Int := p :: (rs.map repNums).flatten
theorem numsOf_snoc {p : Int} {rs : List Rep} {k : Nat} {r : Rep} (h : rs[k]? = some r) : numsOf p (rs.take (k + 1)) = numsOf p (rs.take k) ++ repNums r := by
  unfold numsOf; rw [List.take_add_one, h]; simp
theorem numsOf_len (p : Int) (rs : List Rep) : (numsOf p rs).length ≤ 1 + 2 * rs.length := by
  unfold numsOf
  induction rs with
  | nil => simp
  | cons r rs ih =>
    simp only [List.length_cons, List.map_cons, List.flatten_cons, List.length_append] at ih ⊢
    have : (repNums r).length ≤ 2 := by
      unfold repNums
      split <;> simp
    omega
theorem numsOf_mem {p : Int} {rs : List Rep} {z : Int} (h : z ∈ numsOf p rs) : z = p ∨ ∃ r ∈ rs, z = r.view.num ∨ z = r.next.num := by
  unfold numsOf at h
  rcases List.mem_cons.1 h with h | h
  · exact .inl h
  · obtain ⟨l, hl, hz⟩ := List.mem_flatten.1 h
    obtain ⟨r, hr, rfl⟩ := List.mem_map.1 hl
    refine .inr ⟨r, hr, ?_⟩
    unfold repNums at hz
    rcases List.mem_cons.1 hz with h | h
    · exact .inl h
    · split at h
      · exact .inr (by simpa using h)
      · cases h
/-- The number that follows mx for a leader. -/
def numFor (leader mx : Int) : Int := mx + 1 + (leader - (mx + 1)) % 32
end Go.Proofs.Ytpjejaoobbancaa
