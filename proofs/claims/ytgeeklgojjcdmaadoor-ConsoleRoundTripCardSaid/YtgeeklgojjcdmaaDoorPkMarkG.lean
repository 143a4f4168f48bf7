/- Merged: Mark, End. -/
import Derived.Test.YtgeeklgojjcdmaaDoorPkScanP
import Derived.Deep.QuietTactic
import Derived.BigQuiet
import Derived.IntWalk
set_option linter.unusedVariables false
set_option linter.unusedSimpArgs false
set_option linter.unusedSectionVars false
namespace Go.Proofs.YtgeeklgojjcdmaaDoor
section
open Go.RowKit

def marksL : List (List UInt8) := [[60, 61], [62, 61], [33, 61], [46, 46], [45, 62], [123], [125], [40], [41], [91], [93], [44], [59], [58], [61], [60], [62], [33], [43], [45], [42], [63], [46], [47]]
def markOf (l : List UInt8) : List UInt8 := (marksL.find? fun m => m.isPrefixOf l).getD []

theorem isPrefixOf_two (l : List UInt8) (a b : UInt8) : ([a, b] : List UInt8).isPrefixOf l = (l.take 2 == [a, b]) := (prefix_eq l [a, b]).symm
theorem single_all0 : ∀ n < 256, (((marksL.drop 5).map fun m => m.headD 0).find? fun c => c == UInt8.ofNat n) = if 0 ≤ Lib.indexByte marks1 (UInt8.ofNat n) then some (UInt8.ofNat n) else none := by decide +kernel
theorem single_all (a : UInt8) : (((marksL.drop 5).map fun m => m.headD 0).find? fun c => c == a) = if 0 ≤ Lib.indexByte marks1 a then some a else none := by
  have := single_all0 a.toNat a.toNat_lt
  rwa [UInt8.ofNat_toNat] at this
theorem find_single (a : UInt8) (r : List UInt8) : (marksL.drop 5).find? (fun m => m.isPrefixOf (a :: r)) = if 0 ≤ Lib.indexByte marks1 a then some [a] else none := by
  have h1 : marksL.drop 5 = ((marksL.drop 5).map fun m => m.headD 0).map fun c => [c] := by decide
  rw [h1, List.find?_map]
  have h2 : ((fun m : List UInt8 => m.isPrefixOf (a :: r)) ∘ fun c => [c]) = fun c => c == a := by
    funext c; simp [List.isPrefixOf]
  rw [h2, single_all]
  split <;> rfl
theorem mark_eq (l : List UInt8) : markOf l = l.take (punctLen l) := by
  have h5 : ∀ x, marksL.find? x = ((marksL.take 5).find? x).or ((marksL.drop 5).find? x) := fun x => by rw [← List.find?_append, List.take_append_drop]
  by_cases ht : two (l.take 2) = true
  · have e2 : l.take 2 = (l.take 2) := rfl
    rcases two_of _ ht with h | h | h | h | h
    all_goals
      have hl : 2 ≤ l.length := by have := congrArg List.length h; rw [List.length_take] at this; simp at this; omega
      have hp : punctLen l = 2 := by unfold punctLen; rw [if_pos ⟨hl, ht⟩]
      rw [hp, h]
      unfold markOf
      rw [h5]
      simp only [marksL, List.take, List.find?_cons, isPrefixOf_two, h]
      rfl
  · have hf : two (l.take 2) = false := by simpa using ht
    obtain ⟨a1, a2, a3, a4, a5⟩ := not_two _ hf
    have hn : (marksL.take 5).find? (fun m => m.isPrefixOf l) = none := by
      simp only [marksL, List.take, List.find?_cons, isPrefixOf_two, a1, a2, a3, a4, a5, List.find?_nil]
    unfold markOf
    rw [h5, hn, Option.none_or]
    unfold punctLen
    rw [if_neg (by rw [hf]; simp)]
    cases l with
    | nil => rfl
    | cons a r =>
      rw [find_single]
      simp only
      split <;> rfl
end
section
open Go.RowKit

def endLen (l : List UInt8) : Nat :=
  match l with
  | [] => 0
  | c :: r => if alnumB c.toNat = true then runLen l else if c.toNat = 34 then (if (r.drop (strLen r)).head? = some 34 then strLen r + 2 else 0) else punctLen l
theorem endLen_run {c : UInt8} {r : List UInt8} (h : alnumB c.toNat = true) : endLen (c :: r) = runLen (c :: r) := by simp only [endLen]; rw [if_pos h]
theorem endLen_str {c : UInt8} {r : List UInt8} (h : alnumB c.toNat = false) (h1 : c.toNat = 34) (h2 : (r.drop (strLen r)).head? = some 34) : endLen (c :: r) = strLen r + 2 := by
  simp only [endLen]; rw [if_neg (by rw [h]; decide), if_pos h1, if_pos h2]
theorem endLen_strbad {c : UInt8} {r : List UInt8} (h : alnumB c.toNat = false) (h1 : c.toNat = 34) (h2 : ¬ (r.drop (strLen r)).head? = some 34) : endLen (c :: r) = 0 := by
  simp only [endLen]; rw [if_neg (by rw [h]; decide), if_pos h1, if_neg h2]
theorem endLen_punct {c : UInt8} {r : List UInt8} (h : alnumB c.toNat = false) (h1 : ¬ c.toNat = 34) : endLen (c :: r) = punctLen (c :: r) := by
  simp only [endLen]; rw [if_neg (by rw [h]; decide), if_neg h1]

end
end Go.Proofs.YtgeeklgojjcdmaaDoor
