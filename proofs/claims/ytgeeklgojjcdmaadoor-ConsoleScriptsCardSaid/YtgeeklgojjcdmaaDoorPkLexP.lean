/- Merged: LawExact, LawPrefix, PosPlain, NumPlain, TextPlain, LawNumbers, SpacePlain, FormatPlain. -/
import Derived.Test.YtgeeklgojjcdmaaDoorPkSameG
import Derived.Test.YtgeeklgojjcdmaaDoorPkScanR
import Derived.Test.YtgeeklgojjcdmaaDoorPkLocalG
set_option linter.unusedVariables false
set_option linter.unusedSimpArgs false
set_option linter.unusedSectionVars false
namespace Go.Proofs.YtgeeklgojjcdmaaDoor
section
open Go.RowKit

theorem scanF_len : ∀ (n : Nat) (l : List UInt8) (a b : Int), (scanF n l a b).1.length ≤ l.length
  | 0, _, _, _ => by simp [scanF]
  | n + 1, [], _, _ => by simp [scanF]
  | n + 1, c :: r, a, b => by
    simp only [scanF, List.length_cons]
    have h := fun (k : Nat) (x y : Int) => scanF_len n (r.drop k) x y
    have h0 := fun (x y : Int) => scanF_len n r x y
    simp only [List.length_drop] at h
    split
    · exact Nat.le_succ_of_le (h0 _ _)
    · split
      · exact Nat.le_succ_of_le (h0 _ _)
      · split
        · have := h (cmtLen r) a (b + 1 + cmtLen r); omega
        · split
          · have := h ((lexOne (c :: r)).2.1 - 1) a (b + (lexOne (c :: r)).2.1)
            simp only [Res.pre, List.length_append, List.length_cons, List.length_nil]; omega
          · simp
theorem scanRes_len (l : List UInt8) : (scanRes l).1.length ≤ 65536 := by
  unfold scanRes
  split
  · simp
  · rename_i h
    have := scanF_len l.length l 1 1
    split
    · rename_i d hs; unfold scan at hs; rw [hs] at this; simp only at this ⊢; omega
    · simp
end
section
open Go.RowKit

theorem scanRes_place {l : List UInt8} (h : l.length ≤ 65536) : scanRes l = match scanK l with
    | (d, none) => ((place l (1, 1) (d, none)).1, 0, 0, 0)
    | (_, some (k, e)) => ([], (adv (l.take k) (1, 1)).1, (adv (l.take k) (1, 1)).2, e) := by
  have hs := scan_place l (1, 1)
  simp only at hs
  cases hk : scanK l with
  | mk d x =>
    rw [hk] at hs
    cases x with
    | none => exact scanRes_ok (by omega) hs
    | some x => obtain ⟨k, e⟩ := x; exact scanRes_err (by omega) hs
end
section
open Go

end
section
open Go

def digC (b n : Nat) : UInt8 := if b = 10 then UInt8.ofNat (48 + n) else (([48, 49, 50, 51, 52, 53, 54, 55, 56, 57, 97, 98, 99, 68, 69, 70] : List UInt8).getD n 0)
/-- The numeral of n in base b (10 or 16). -/
def numL (b : Nat) (n : Nat) : List UInt8 := if _h : n < b ∨ b < 2 then [digC b n] else numL b (n / b) ++ [digC b (n % b)]
  termination_by n
  decreasing_by exact Nat.div_lt_self (by omega) (by omega)
theorem numL_small {b n : Nat} (h : n < b) : numL b n = [digC b n] := by rw [numL, dif_pos (.inl h)]
theorem numL_big {b n : Nat} (h : b ≤ n) (hb : 2 ≤ b) : numL b n = numL b (n / b) ++ [digC b (n % b)] := by rw [numL, dif_neg (by omega)]
theorem numL_len {b : Nat} (hb : 2 ≤ b) : ∀ (k n : Nat), n < b ^ (k + 1) → (numL b n).length ≤ k + 1
  | 0, n, h => by rw [numL_small (by simpa using h)]; simp
  | k + 1, n, h => by
    by_cases hs : n < b
    · rw [numL_small hs]; simp
    · rw [numL_big (by omega) hb, List.length_append]
      have h2 : n / b < b ^ (k + 1) := by rw [Nat.div_lt_iff_lt_mul (by omega)]; rw [Nat.pow_succ] at h; exact h
      have := numL_len hb k (n / b) h2
      simp only [List.length_cons, List.length_nil]; omega
theorem numL_len10 {n : Nat} (h : (n : Int) ≤ 18446744073709551615) : (numL 10 n).length ≤ 20 := by
  refine numL_len (by decide) 19 n ?_
  have : (10 : Nat) ^ (19 + 1) = 100000000000000000000 := by decide
  rw [this]; omega
end
section
open Go

/-- The text of a token and whether it is well formed. -/
def textOf (r : Raw) : List UInt8 × Bool :=
  if ¬ r.kind = 2 ∧ ¬ r.value = 0 then ([], false)
  else if r.kind = 1 then (r.text, wordB r.text)
  else if r.kind = 2 then (numL 10 r.value.toNat, decide (r.text = []))
  else if r.kind = 3 then ([34] ++ r.text ++ [34], r.text.all fun c => plainB c.toNat)
  else if r.kind = 4 then (r.text, decide (¬ r.text = []) && decide (markOf r.text = r.text))
  else ([], false)

/-- A piece of text that comes to these tokens, whatever stands behind it. -/
def Seg (t : List UInt8) (rs : List Raw) : Prop := ∃ D : List (Nat × Raw), D.map (·.2) = rs ∧ ∀ rest, scanK (t ++ rest) = ResK.pre D (ResK.shift t.length (scanK rest))
theorem shift_zero (r : ResK) : ResK.shift 0 r = r := by
  obtain ⟨a, b⟩ := r
  simp only [ResK.shift, Nat.add_zero, Prod.mk.injEq]
  exact ⟨List.map_id' a, by cases b <;> rfl⟩
theorem Seg.nil : Seg [] [] := ⟨[], rfl, fun rest => by simp [shift_zero, ResK.pre]⟩
theorem Seg.append {a b : List UInt8} {ra rb : List Raw} (ha : Seg a ra) (hb : Seg b rb) : Seg (a ++ b) (ra ++ rb) := by
  obtain ⟨Da, e1, h1⟩ := ha
  obtain ⟨Db, e2, h2⟩ := hb
  refine ⟨Da ++ Db.map (fun x => (x.1 + a.length, x.2)), by simp [e1, ← e2], fun rest => ?_⟩
  rw [List.append_assoc, h1, h2, pre_shift, shift_shift]
  simp only [ResK.pre, List.append_assoc, Prod.mk.injEq, List.length_append]
  rw [Nat.add_comm a.length]
  exact ⟨rfl, rfl⟩
/-- What scanning a whole piece comes to, with something tokenless behind it. -/
theorem Seg.scan {t e : List UInt8} {rs : List Raw} (h : Seg t rs) (he : scanK e = ([], none)) (hl : (t ++ e).length ≤ 65536) : ∃ d : List Tok, scanRes (t ++ e) = (d, 0, 0, 0) ∧ d.map (·.raw) = rs := by
  obtain ⟨D, e1, h1⟩ := h
  have hs := h1 e
  rw [he] at hs
  refine ⟨_, by rw [scanRes_place hl, hs]; rfl, ?_⟩
  simp only [place, ResK.shift, List.map_nil, List.append_nil, List.map_map, ← e1]
  apply List.map_congr_left; intro y _; rfl
end
section
open Go.RowKit

def dig10 : ByteArray := ⟨#[48, 49, 50, 51, 52, 53, 54, 55, 56, 57]⟩
theorem dig10_at : ∀ j < 10, (dig10.extract j (j + 1)).data.toList = [digC 10 j] := by decide

theorem Decimal_any (n : Nat) (hn : (n : Int) ≤ 18446744073709551615) (w : World) :
    Calls Tryd.prog 49 #[.int .u64 n] w fun e w' => e = .returned (.string (str (numL 10 n))) ∧ w = w' := by
  go_enter Tryd.func49, Tryd.ntmps49
  go_wp2_with fail
  go_loop [0, 3] (fun v s => ∃ (m : Nat) (t : ByteArray), m ≤ n ∧ numL 10 n = numL 10 m ++ t.data.toList ∧ v = .int .u64 m ∧ s = .string t) (fun v _ => (intOf v).toNat)
  case atStart => exact ⟨n, ⟨#[]⟩, Nat.le_refl _, by simp, rfl, rfl⟩
  case round =>
    obtain ⟨m, t, hm, heq, rfl, rfl⟩ := hrel
    have HEQ := Lib.hid heq
    have ht : t.size ≤ 20 := by
      have h5 := congrArg List.length heq
      rw [List.length_append, data_len] at h5
      have := numL_len10 hn
      omega
    clear heq
    by_cases hge : 10 ≤ m
    · have hj : m % 10 < 10 := Nat.mod_lt _ (by decide)
      have hex := dig10_at (m % 10) hj
      have HEX := Lib.hid hex
      have hsz : ((⟨#[48, 49, 50, 51, 52, 53, 54, 55, 56, 57]⟩ : ByteArray).extract (m % 10) (m % 10 + 1)).size = 1 := congrArg List.length hex
      clear hex
      go_wp2
      go_round
      case rel =>
        refine ⟨m / 10, _, by omega, ?_, by go_num, rfl⟩
        rw [HEQ.out, numL_big hge (by decide), ← HEX.out]
        simp [dig10]
      case measure => simp [intOf]; omega
    · have hex := dig10_at m (by omega)
      have HEX := Lib.hid hex
      have hsz : ((⟨#[48, 49, 50, 51, 52, 53, 54, 55, 56, 57]⟩ : ByteArray).extract m (m + 1)).size = 1 := congrArg List.length hex
      clear hex
      go_wp2
      go_ret
      refine ⟨ret_str ?_, rfl⟩
      refine bytes_ext ?_
      rw [data_str, HEQ.out, numL_small (by omega), ← HEX.out]
      simp [dig10]
end
section
open Go

end
section
open Go

/-- The text of the first k tokens, a space between each two. -/
def joinK (rs : List Raw) : Nat → List UInt8
  | 0 => []
  | k + 1 => joinK rs k ++ (if k = 0 then [] else [32]) ++ (textOf (rs.getD k ⟨0, [], 0⟩)).1
end
end Go.Proofs.YtgeeklgojjcdmaaDoor
