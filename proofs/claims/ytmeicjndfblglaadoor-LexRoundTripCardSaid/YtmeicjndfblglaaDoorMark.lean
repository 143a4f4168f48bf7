/- The reference's marks and mark. -/
import Derived.Test.YtmeicjndfblglaaDoorScanP
import Derived.Deep.QuietTactic
import Derived.BigQuiet
import Derived.IntWalk
set_option linter.unusedVariables false
set_option linter.unusedSimpArgs false
set_option linter.unusedSectionVars false
namespace Go.Proofs.YtmeicjndfblglaaDoor
open Go.RowKit

def marksL : List (List UInt8) := [[60, 61], [62, 61], [33, 61], [46, 46], [45, 62], [123], [125], [40], [41], [91], [93], [44], [59], [58], [61], [60], [62], [33], [43], [45], [42], [63], [46], [47]]
def MA : Array Value := (marksL.map fun m => Value.string (str m)).toArray
def markOf (l : List UInt8) : List UInt8 := (marksL.find? fun m => m.isPrefixOf l).getD []

theorem mark_found {l m : List UInt8} {k : Nat} (hm : marksL[k]? = some m) (ha : ∀ x ∈ marksL.take k, x.isPrefixOf l = false) (hp : m.isPrefixOf l = true) : markOf l = m := by
  unfold markOf
  have hk := (List.getElem?_eq_some_iff.1 hm).1
  have hs : marksL = marksL.take k ++ m :: marksL.drop (k + 1) := by
    have := List.drop_eq_getElem_cons hk
    rw [(List.getElem?_eq_some_iff.1 hm).2] at this
    rw [← this, List.take_append_drop]
  rw [hs, List.find?_append, List.find?_eq_none.2 (by intro x hx; rw [ha x hx]; decide)]
  simp only [List.find?_cons, hp]
  rfl
theorem mark_none {l : List UInt8} (ha : ∀ x ∈ marksL, x.isPrefixOf l = false) : markOf l = [] := by
  unfold markOf
  rw [List.find?_eq_none.2 (by intro x hx; rw [ha x hx]; decide)]; rfl
theorem all_snoc {l m : List UInt8} {k : Nat} (hm : marksL[k]? = some m) (ha : ∀ x ∈ marksL.take k, x.isPrefixOf l = false) (hp : m.isPrefixOf l = false) : ∀ x ∈ marksL.take (k + 1), x.isPrefixOf l = false := by
  intro x hx
  rw [List.take_add_one, hm] at hx
  simp only [Option.toList_some, List.mem_append, List.mem_singleton] at hx
  rcases hx with hx | rfl
  · exact ha x hx
  · exact hp
theorem ext_prefix (s : ByteArray) (i : Nat) (m : List UInt8) : ((s.extract i (i + (str m).size)).toList == (str m).toList) = m.isPrefixOf (s.data.toList.drop i) := by
  have e : (str m).size = m.length := by show m.toArray.size = _; simp
  rw [Lib.extract_toList, Lib.toList_data, data_str, e, Nat.add_sub_cancel_left, prefix_eq]
theorem isPrefixOf_two (l : List UInt8) (a b : UInt8) : ([a, b] : List UInt8).isPrefixOf l = (l.take 2 == [a, b]) := (prefix_eq l [a, b]).symm
theorem single_all0 : ∀ n < 256, (((marksL.drop 5).map fun m => m.headD 0).find? fun c => c == UInt8.ofNat n) = if 0 ≤ Lib.indexByte marks1 (UInt8.ofNat n) then some (UInt8.ofNat n) else none := by decide +kernel
theorem single_all (a : UInt8) : (((marksL.drop 5).map fun m => m.headD 0).find? fun c => c == a) = if 0 ≤ Lib.indexByte marks1 a then some a else none := by
  have := single_all0 a.toNat a.toNat_lt
  rwa [UInt8.ofNat_toNat] at this
theorem find_single (a : UInt8) (r : List UInt8) : (marksL.drop 5).find? (fun m => m.isPrefixOf (a :: r)) = if 0 ≤ Lib.indexByte marks1 a then some [a] else none := by
  have h1 : marksL.drop 5 = ((marksL.drop 5).map fun m => m.headD 0).map fun c => [c] := by decide
  rw [h1, List.find?_map]
  have h2 : ((fun m : List UInt8 => m.isPrefixOf (a :: r)) ∘ fun c => [c]) = fun c => c == a := by
    funext c; simp [List.isPrefixOf]
  rw [h2, single_all]
  split <;> rfl
theorem mark_eq (l : List UInt8) : markOf l = l.take (punctLen l) := by
  have h5 : ∀ x, marksL.find? x = ((marksL.take 5).find? x).or ((marksL.drop 5).find? x) := fun x => by rw [← List.find?_append, List.take_append_drop]
  by_cases ht : two (l.take 2) = true
  · have e2 : l.take 2 = (l.take 2) := rfl
    rcases two_of _ ht with h | h | h | h | h
    all_goals
      have hl : 2 ≤ l.length := by have := congrArg List.length h; rw [List.length_take] at this; simp at this; omega
      have hp : punctLen l = 2 := by unfold punctLen; rw [if_pos ⟨hl, ht⟩]
      rw [hp, h]
      unfold markOf
      rw [h5]
      simp only [marksL, List.take, List.find?_cons, isPrefixOf_two, h]
      rfl
  · have hf : two (l.take 2) = false := by simpa using ht
    obtain ⟨a1, a2, a3, a4, a5⟩ := not_two _ hf
    have hn : (marksL.take 5).find? (fun m => m.isPrefixOf l) = none := by
      simp only [marksL, List.take, List.find?_cons, isPrefixOf_two, a1, a2, a3, a4, a5, List.find?_nil]
    unfold markOf
    rw [h5, hn, Option.none_or]
    unfold punctLen
    rw [if_neg (by rw [hf]; simp)]
    cases l with
    | nil => rfl
    | cons a r =>
      rw [find_single]
      simp only
      split <;> rfl
theorem punct_mark (l : List UInt8) : (markOf l).length = punctLen l := by rw [mark_eq, List.length_take]; have := punctLen_le l; omega

theorem marks_any (w : World) : Calls Tryd.prog 36 #[] w fun e w' => e = .returned (.slice (some ⟨w.heap.size, 0, none⟩) 24 24) ∧ w.alloc (.cells MA 9) = w' := by
  go_enter Tryd.func36, Tryd.ntmps36
  go_wp2
  go_ret
  exact ⟨rfl, rfl⟩

set_option maxHeartbeats 2000000 in
theorem mark_any (s : ByteArray) (i : Nat) (w : World) (hs : s.size ≤ maxLen) (hi : i ≤ s.size) :
    Calls Tryd.prog 25 #[.string s, .int .i64 i] w fun e w' => e = .returned (.string (str (markOf (s.data.toList.drop i)))) ∧ Below w.heap.size w w' := by
  unfold maxLen at hs
  go_enter Tryd.func25, Tryd.ntmps25
  go_wp2_with (go_at_call 36; refine (marks_any _).mono ?_; rintro e w' ⟨rfl, rfl⟩)
  go_loopw [6] (fun c wr => ∃ k : Nat, k ≤ 24 ∧ (∀ m ∈ marksL.take k, m.isPrefixOf (s.data.toList.drop i) = false) ∧ c = .int .i64 k ∧ wr.heap[w.heap.size]? = some (.cells MA 9) ∧ Below w.heap.size w wr) (fun c _ => 24 - (intOf c).toNat)
  case atStart => exact ⟨0, by omega, by simp, rfl, heap_alloc_new w _, (Below.refl _ _).alloc (Nat.le_refl _) _⟩
  case round =>
    obtain ⟨k, hk, ha, rfl, hcell, hbel⟩ := hrel
    have HA := Lib.hid ha
    have HC := Lib.hid hcell
    have HB := Lib.hid hbel
    clear ha hcell hbel
    by_cases hlt : k < 24
    · obtain ⟨m, hm⟩ : ∃ m, marksL[k]? = some m := ⟨_, List.getElem?_eq_getElem (by simpa [marksL] using hlt)⟩
      have HM := Lib.hid hm
      have hc : wr.cell? ⟨w.heap.size, k, none⟩ = some (.string (str m)) := by
        have h := HC.out
        simp only [World.cell?, h, Option.isSome_none, Bool.false_eq_true, if_false, MA, List.getElem?_toArray, List.getElem?_map, hm, Option.map_some]
      have hml : (str m).size ≤ 2 := by
        have e : (str m).size = m.length := by show m.toArray.size = _; simp
        rw [e]
        have : ∀ x ∈ marksL, x.length ≤ 2 := by decide
        exact this m (List.mem_of_getElem? hm)
      clear hm
      obtain ⟨sm, hsm⟩ : ∃ sm, sm = str m := ⟨_, rfl⟩
      rw [← hsm] at hc hml
      have HSM := Lib.hid hsm
      clear hsm
      by_cases hfit : sm.size ≤ s.size - i
      · rcases Bool.eq_false_or_eq_true (m.isPrefixOf (s.data.toList.drop i)) with hp | hp
        · have hpe : ((s.extract i (i + sm.size)).toList == sm.toList) = true := by rw [HSM.out, ext_prefix]; exact hp
          have hf : markOf (s.data.toList.drop i) = m := mark_found HM.out HA.out hp
          have HF := Lib.hid hf
          clear hp hf
          have f1 : ((sm.size : Int)) ≤ (s.size : Int) - i := by omega
          have f2 : decide ((sm.size : Int) ≤ (s.size : Int) - i) = true := by simpa using f1
          have f3 : (i : Int) + sm.size ≤ s.size := by omega
          have e1 : IntKind.i64.wrap ((s.size : Int) - i) = (s.size : Int) - i := IntWalk.i64_in _ (by omega)
          have e2 : IntKind.i64.wrap ((i : Int) + sm.size) = (i : Int) + sm.size := IntWalk.i64_in _ (by omega)
          have e3 : ((i : Int) + sm.size).toNat = i + sm.size := by omega
          have e4 : (0 : Int) ≤ (i : Int) + sm.size := by omega
          go_wp2_with fail
          go_quiet (fail)
          clear e1 e2 e3 e4 f2
          go_wp2
          go_ret
          exact ⟨ret_str (by rw [HF.out, HSM.out]), below_drewN HB.out _⟩
        · have hpe : ((s.extract i (i + sm.size)).toList == sm.toList) = false := by rw [HSM.out, ext_prefix]; exact hp
          have HP := Lib.hid hp
          clear hp
          have f1 : ((sm.size : Int)) ≤ (s.size : Int) - i := by omega
          have f2 : decide ((sm.size : Int) ≤ (s.size : Int) - i) = true := by simpa using f1
          have f3 : (i : Int) + sm.size ≤ s.size := by omega
          have e1 : IntKind.i64.wrap ((s.size : Int) - i) = (s.size : Int) - i := IntWalk.i64_in _ (by omega)
          have e2 : IntKind.i64.wrap ((i : Int) + sm.size) = (i : Int) + sm.size := IntWalk.i64_in _ (by omega)
          have e3 : ((i : Int) + sm.size).toNat = i + sm.size := by omega
          have e4 : (0 : Int) ≤ (i : Int) + sm.size := by omega
          go_wp2_with fail
          go_quiet (fail)
          clear e1 e2 e3 e4 f2
          go_wp2
          go_roundw
          case rel => exact ⟨k + 1, by omega, all_snoc HM.out HA.out HP.out, by go_num, HC.out, below_drewN HB.out _⟩
          case measure => simp [intOf]; omega
      · have hp : m.isPrefixOf (s.data.toList.drop i) = false := by
          rw [Bool.eq_false_iff, ne_eq, List.isPrefixOf_iff_prefix]
          intro h
          have h2 := h.length_le
          rw [List.length_drop, data_len] at h2
          have h3 : sm.size = m.length := by rw [HSM.out]; show m.toArray.size = _; simp
          omega
        have HP := Lib.hid hp
        clear hp
        have f1 : ¬ ((sm.size : Int)) ≤ (s.size : Int) - i := by omega
        have f2 : decide ((sm.size : Int) ≤ (s.size : Int) - i) = false := by simpa using f1
        have e1 : IntKind.i64.wrap ((s.size : Int) - i) = (s.size : Int) - i := IntWalk.i64_in _ (by omega)
        go_wp2_with fail
        go_quiet (fail)
        clear e1 f2
        go_wp2
        go_roundw
        case rel => exact ⟨k + 1, by omega, all_snoc HM.out HA.out HP.out, by go_num, HC.out, below_drewN HB.out _⟩
        case measure => simp [intOf]; omega
    · have hf : markOf (s.data.toList.drop i) = [] := mark_none (by rw [← List.take_of_length_le (l := marksL) (i := k) (by simp [marksL]; omega)]; exact HA.out)
      have HF := Lib.hid hf
      clear hf
      go_wp2
      go_ret
      exact ⟨ret_str (by rw [HF.out]; rfl), HB.out⟩
end Go.Proofs.YtmeicjndfblglaaDoor
