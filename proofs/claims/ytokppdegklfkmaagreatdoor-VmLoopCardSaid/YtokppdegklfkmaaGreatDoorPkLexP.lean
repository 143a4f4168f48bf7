/- Merged: LawExact, LawPrefix, PosPlain, NumPlain, TextPlain, LawNumbers, SpacePlain, FormatPlain. -/
import Derived.Test.YtokppdegklfkmaaGreatDoorPkSameG
import Derived.Test.YtokppdegklfkmaaGreatDoorPkScanR
import Derived.Test.YtokppdegklfkmaaGreatDoorPkLocalG
set_option linter.unusedVariables false
set_option linter.unusedSimpArgs false
set_option linter.unusedSectionVars false
namespace Go.Proofs.YtokppdegklfkmaaGreatDoor
section
open Go.RowKit

theorem scanF_len : ∀ (n : Nat) (l : List UInt8) (a b : Int), (scanF n l a b).1.length ≤ l.length
  | 0, _, _, _ => by simp [scanF]
  | n + 1, [], _, _ => by simp [scanF]
  | n + 1, c :: r, a, b => by
    simp only [scanF, List.length_cons]
    have h := fun (k : Nat) (x y : Int) => scanF_len n (r.drop k) x y
    have h0 := fun (x y : Int) => scanF_len n r x y
    simp only [List.length_drop] at h
    split
    · exact Nat.le_succ_of_le (h0 _ _)
    · split
      · exact Nat.le_succ_of_le (h0 _ _)
      · split
        · have := h (cmtLen r) a (b + 1 + cmtLen r); omega
        · split
          · have := h ((lexOne (c :: r)).2.1 - 1) a (b + (lexOne (c :: r)).2.1)
            simp only [Res.pre, List.length_append, List.length_cons, List.length_nil]; omega
          · simp
theorem scanRes_len (l : List UInt8) : (scanRes l).1.length ≤ 65536 := by
  unfold scanRes
  split
  · simp
  · rename_i h
    have := scanF_len l.length l 1 1
    split
    · rename_i d hs; unfold scan at hs; rw [hs] at this; simp only at this ⊢; omega
    · simp
end
section
open Go.RowKit

theorem scanRes_place {l : List UInt8} (h : l.length ≤ 65536) : scanRes l = match scanK l with
    | (d, none) => ((place l (1, 1) (d, none)).1, 0, 0, 0)
    | (_, some (k, e)) => ([], (adv (l.take k) (1, 1)).1, (adv (l.take k) (1, 1)).2, e) := by
  have hs := scan_place l (1, 1)
  simp only at hs
  cases hk : scanK l with
  | mk d x =>
    rw [hk] at hs
    cases x with
    | none => exact scanRes_ok (by omega) hs
    | some x => obtain ⟨k, e⟩ := x; exact scanRes_err (by omega) hs
end
section
open Go

end
section
open Go

def digC (b n : Nat) : UInt8 := if b = 10 then UInt8.ofNat (48 + n) else (([48, 49, 50, 51, 52, 53, 54, 55, 56, 57, 97, 98, 99, 68, 69, 70] : List UInt8).getD n 0)
/-- The numeral of n in base b (10 or 16). -/
def numL (b : Nat) (n : Nat) : List UInt8 := if _h : n < b ∨ b < 2 then [digC b n] else numL b (n / b) ++ [digC b (n % b)]
  termination_by n
  decreasing_by exact Nat.div_lt_self (by omega) (by omega)
theorem numL_small {b n : Nat} (h : n < b) : numL b n = [digC b n] := by rw [numL, dif_pos (.inl h)]
theorem numL_big {b n : Nat} (h : b ≤ n) (hb : 2 ≤ b) : numL b n = numL b (n / b) ++ [digC b (n % b)] := by rw [numL, dif_neg (by omega)]
end
section
open Go

/-- The text of a token and whether it is well formed. -/
def textOf (r : Raw) : List UInt8 × Bool :=
  if ¬ r.kind = 2 ∧ ¬ r.value = 0 then ([], false)
  else if r.kind = 1 then (r.text, wordB r.text)
  else if r.kind = 2 then (numL 10 r.value.toNat, decide (r.text = []))
  else if r.kind = 3 then ([34] ++ r.text ++ [34], r.text.all fun c => plainB c.toNat)
  else if r.kind = 4 then (r.text, decide (¬ r.text = []) && decide (markOf r.text = r.text))
  else ([], false)

/-- A piece of text that comes to these tokens, whatever stands behind it. -/
def Seg (t : List UInt8) (rs : List Raw) : Prop := ∃ D : List (Nat × Raw), D.map (·.2) = rs ∧ ∀ rest, scanK (t ++ rest) = ResK.pre D (ResK.shift t.length (scanK rest))
theorem shift_zero (r : ResK) : ResK.shift 0 r = r := by
  obtain ⟨a, b⟩ := r
  simp only [ResK.shift, Nat.add_zero, Prod.mk.injEq]
  exact ⟨List.map_id' a, by cases b <;> rfl⟩
theorem Seg.nil : Seg [] [] := ⟨[], rfl, fun rest => by simp [shift_zero, ResK.pre]⟩
theorem Seg.append {a b : List UInt8} {ra rb : List Raw} (ha : Seg a ra) (hb : Seg b rb) : Seg (a ++ b) (ra ++ rb) := by
  obtain ⟨Da, e1, h1⟩ := ha
  obtain ⟨Db, e2, h2⟩ := hb
  refine ⟨Da ++ Db.map (fun x => (x.1 + a.length, x.2)), by simp [e1, ← e2], fun rest => ?_⟩
  rw [List.append_assoc, h1, h2, pre_shift, shift_shift]
  simp only [ResK.pre, List.append_assoc, Prod.mk.injEq, List.length_append]
  rw [Nat.add_comm a.length]
  exact ⟨rfl, rfl⟩
theorem Seg.ws {c : UInt8} (h : wsB c = true) : Seg [c] [] := ⟨[], rfl, fun rest => by
  show scanK (c :: rest) = _
  rw [scanK_cons, if_pos h]; rfl⟩
/-- What scanning a whole piece comes to, with something tokenless behind it. -/
theorem Seg.scan {t e : List UInt8} {rs : List Raw} (h : Seg t rs) (he : scanK e = ([], none)) (hl : (t ++ e).length ≤ 65536) : ∃ d : List Tok, scanRes (t ++ e) = (d, 0, 0, 0) ∧ d.map (·.raw) = rs := by
  obtain ⟨D, e1, h1⟩ := h
  have hs := h1 e
  rw [he] at hs
  refine ⟨_, by rw [scanRes_place hl, hs]; rfl, ?_⟩
  simp only [place, ResK.shift, List.map_nil, List.append_nil, List.map_map, ← e1]
  apply List.map_congr_left; intro y _; rfl
end
section
open Go.RowKit

end
section
open Go

end
section
open Go

/-- The text of the first k tokens, a space between each two. -/
def joinK (rs : List Raw) : Nat → List UInt8
  | 0 => []
  | k + 1 => joinK rs k ++ (if k = 0 then [] else [32]) ++ (textOf (rs.getD k ⟨0, [], 0⟩)).1
end
end Go.Proofs.YtokppdegklfkmaaGreatDoor
