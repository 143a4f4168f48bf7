/- Merged: Write, DisP, BldK, Dis. -/
import Derived.Test.YtemigcdieghkfabDoorPkAwakeI
import Derived.Test.YtemigcdieghkfabDoorPkRoundG
import Derived.Test.YtemigcdieghkfabDoorPkAsmP
import Derived.Test.YtemigcdieghkfabDoorPkBuilder
import Derived.Test.YtemigcdieghkfabDoorPkKnAll
import Derived.Deep.Cut
import Derived.Lib.Hide
import Derived.BigQuiet
import Derived.Test.YtemigcdieghkfabDoorPkLawSpoilt
set_option linter.unusedVariables false
set_option linter.unusedSimpArgs false
set_option linter.unusedSectionVars false
namespace Go.Proofs.YtemigcdieghkfabDoor
section
open Go.RowKit Go.BigFrame

theorem itoa_imm (n : Int) : Lib.itoa n = immText n := by
  unfold Lib.itoa immText
  rw [decDigits_numL, decDigits_numL]
  by_cases h : n < 0
  · rw [if_pos h, if_pos h, show n.natAbs = (-n).toNat by omega]
  · rw [if_neg h, if_neg h]
theorem Itoa_txt (n : Int) (h0 : -9223372036854775808 ≤ n) (h1 : n ≤ 9223372036854775807) (w : World) (hp : Pow w) :
    Calls Tryd.prog 30 #[.int .i64 n] w fun e w' => e = .returned (.string (str (immText n))) ∧ Below w.heap.size w w' := by
  refine (Tryd.strconv_Itoa n h0 h1 w hp).mono ?_
  rintro e w' ⟨rfl, k, os, rfl⟩
  refine ⟨?_, Lib.below_grow _ w (Nat.le_refl _) k os⟩
  rw [itoa_imm]; rfl
theorem imm_nat {n : Int} (h : 0 ≤ n) : immText n = numL 10 n.toNat := by unfold immText; rw [if_neg (by omega)]
theorem immText_len (n : Int) (h0 : -9223372036854775808 ≤ n) (h1 : n ≤ 9223372036854775807) : (immText n).length ≤ 21 := by
  have key : ∀ m : Nat, m < 10000000000000000000 → (numL 10 m).length ≤ 20 := by
    intro m hm
    rw [← decDigits_numL, Lib.decDigits_length]
    rcases Nat.eq_zero_or_pos m with h | h
    · subst h; rw [Lib.nDigits_small (by decide)]; decide
    · have := Lib.numDigits_eq m h (by omega)
      split at this <;> omega
  unfold immText
  split
  · have := key (-n).toNat (by omega)
    simp; omega
  · have := key n.toNat (by omega)
    omega
theorem str_app (a b : List UInt8) : str a ++ str b = str (a ++ b) := bytes_ext (by rw [data_str, ByteArray.data_append, Array.toList_append, data_str, data_str])
theorem op_0 (x : Ins) (h : 0 ≤ x.a) : opText 97 x = [114] ++ immText x.a := by rw [imm_nat h]; rfl
theorem op_1 (x : Ins) (h : 0 ≤ x.b) : opText 98 x = [114] ++ immText x.b := by rw [imm_nat h]; rfl
theorem op_2 (x : Ins) (h : 0 ≤ x.c) : opText 99 x = [114] ++ immText x.c := by rw [imm_nat h]; rfl
theorem op_3 (x : Ins) : opText 105 x = immText x.imm := rfl
theorem op_4 (x : Ins) : opText 116 x = [76] ++ immText x.imm := rfl
/-- The number of an operand's kind. -/
def kindL : List UInt8 := [97, 98, 99, 105, 116]
set_option maxRecDepth 100000 in
set_option maxHeartbeats 4000000 in
theorem write_any (x : Ins) (k : Nat) (hk : k < 5) (w : World) (hp : Pow w) (hx : x.fits) (ha : 0 ≤ x.a ∧ x.a < 16) (hb : 0 ≤ x.b ∧ x.b < 16) (hc : 0 ≤ x.c ∧ x.c < 16) :
    Calls Tryd.prog 31 #[.agg x.cells, .int .i64 (k : Int)] w fun e w' => e = .returned (.string (str (opText (kindL.getD k 0) x))) ∧ Below w.heap.size w w' := by
  have KN := Kn.start w
  have HP := Lib.hid hp
  have li := immText_len x.imm (by have := hx.1; omega) (by have := hx.1; omega)
  have la := immText_len x.a (by omega) (by omega)
  have lb := immText_len x.b (by omega) (by omega)
  have lc := immText_len x.c (by omega) (by omega)
  obtain ⟨ti, hti⟩ : ∃ t, t = str (immText x.imm) := ⟨_, rfl⟩
  have si : ti.size ≤ 21 := by rw [hti, str_size]; exact li
  have HTI := Lib.hid hti
  obtain ⟨i0, i1⟩ := hx.1
  obtain ⟨ta, hta⟩ : ∃ t, t = str (immText x.a) := ⟨_, rfl⟩
  obtain ⟨tb, htb⟩ : ∃ t, t = str (immText x.b) := ⟨_, rfl⟩
  obtain ⟨tc, htc⟩ : ∃ t, t = str (immText x.c) := ⟨_, rfl⟩
  have sa : ta.size ≤ 21 := by rw [hta, str_size]; exact la
  have sb : tb.size ≤ 21 := by rw [htb, str_size]; exact lb
  have sc : tc.size ≤ 21 := by rw [htc, str_size]; exact lc
  have HTA := Lib.hid hta
  have HTB := Lib.hid htb
  have HTC := Lib.hid htc
  obtain ⟨ha0, ha1⟩ := ha
  obtain ⟨hb0, hb1⟩ := hb
  obtain ⟨hc0, hc1⟩ := hc
  unfold Ins.cells
  clear hp li la lb lc hx hti hta htb htc
  obtain rfl | rfl | rfl | rfl | rfl : k = 0 ∨ k = 1 ∨ k = 2 ∨ k = 3 ∨ k = 4 := by omega
  · go_enter Tryd.func31, Tryd.ntmps31
    go_wp2_with (first | (go_at_call 30; refine (Itoa_txt _ (by omega) (by omega) _ (HP.out.below KN.toBelow)).mono ?_; rintro e w' ⟨rfl, hb⟩; replace KN := KN.below hb; clear hb; first | rw [← HTI.out] | rw [← HTA.out] | rw [← HTB.out] | rw [← HTC.out]) | ((with_reducible refine wpList_gate ?_); first | ((refine gate_load (by rfl) ?_); first | (refine wpList_kn_load1 KN (by rfl) 21 _ rfl _ _ rfl _ _ (by repeat (first | exact Has.here | refine Has.there ?_)) _ (by (repeat (first | ((with_reducible refine get_hit ?_); exact Nat.le_of_ble_eq_true (by kernel_rfl)) | ((with_reducible refine (get_miss ?_).trans ?_); (focus kernel_rfl)) | ((with_reducible refine (get_pmiss ?_).trans ?_); (focus kernel_rfl)))); all_goals (conv => lhs; whnf; arg 1; whnf)) _ Tryd.underlying21 rfl ?_) | (refine wpList_kn_load1 KN (by rfl) 3 _ rfl _ _ rfl _ _ (by repeat (first | exact Has.here | refine Has.there ?_)) _ (by (repeat (first | ((with_reducible refine get_hit ?_); exact Nat.le_of_ble_eq_true (by kernel_rfl)) | ((with_reducible refine (get_miss ?_).trans ?_); (focus kernel_rfl)) | ((with_reducible refine (get_pmiss ?_).trans ?_); (focus kernel_rfl)))); all_goals (conv => lhs; whnf; arg 1; whnf)) _ Tryd.underlying3 rfl ?_)) | ((refine gate_new (by rfl) ?_); first | (refine wpList_kn_boxA KN (by rfl) 48 _ rfl 2 rfl _ rfl ?_; clear KN; intro g2 wx hg2 KN))))
    go_ret
    refine ⟨?_, KN.toBelow⟩
    rw [show kindL.getD 0 0 = 97 from rfl]; rw [op_0 x ha0]; rw [ ← str_app]; rw [← HTA.out]; rfl
  · go_enter Tryd.func31, Tryd.ntmps31
    go_wp2_with (first | (go_at_call 30; refine (Itoa_txt _ (by omega) (by omega) _ (HP.out.below KN.toBelow)).mono ?_; rintro e w' ⟨rfl, hb⟩; replace KN := KN.below hb; clear hb; first | rw [← HTI.out] | rw [← HTA.out] | rw [← HTB.out] | rw [← HTC.out]) | ((with_reducible refine wpList_gate ?_); first | ((refine gate_load (by rfl) ?_); first | (refine wpList_kn_load1 KN (by rfl) 21 _ rfl _ _ rfl _ _ (by repeat (first | exact Has.here | refine Has.there ?_)) _ (by (repeat (first | ((with_reducible refine get_hit ?_); exact Nat.le_of_ble_eq_true (by kernel_rfl)) | ((with_reducible refine (get_miss ?_).trans ?_); (focus kernel_rfl)) | ((with_reducible refine (get_pmiss ?_).trans ?_); (focus kernel_rfl)))); all_goals (conv => lhs; whnf; arg 1; whnf)) _ Tryd.underlying21 rfl ?_) | (refine wpList_kn_load1 KN (by rfl) 3 _ rfl _ _ rfl _ _ (by repeat (first | exact Has.here | refine Has.there ?_)) _ (by (repeat (first | ((with_reducible refine get_hit ?_); exact Nat.le_of_ble_eq_true (by kernel_rfl)) | ((with_reducible refine (get_miss ?_).trans ?_); (focus kernel_rfl)) | ((with_reducible refine (get_pmiss ?_).trans ?_); (focus kernel_rfl)))); all_goals (conv => lhs; whnf; arg 1; whnf)) _ Tryd.underlying3 rfl ?_)) | ((refine gate_new (by rfl) ?_); first | (refine wpList_kn_boxA KN (by rfl) 48 _ rfl 2 rfl _ rfl ?_; clear KN; intro g2 wx hg2 KN))))
    go_ret
    refine ⟨?_, KN.toBelow⟩
    rw [show kindL.getD 1 0 = 98 from rfl]; rw [op_1 x hb0]; rw [ ← str_app]; rw [← HTB.out]; rfl
  · go_enter Tryd.func31, Tryd.ntmps31
    go_wp2_with (first | (go_at_call 30; refine (Itoa_txt _ (by omega) (by omega) _ (HP.out.below KN.toBelow)).mono ?_; rintro e w' ⟨rfl, hb⟩; replace KN := KN.below hb; clear hb; first | rw [← HTI.out] | rw [← HTA.out] | rw [← HTB.out] | rw [← HTC.out]) | ((with_reducible refine wpList_gate ?_); first | ((refine gate_load (by rfl) ?_); first | (refine wpList_kn_load1 KN (by rfl) 21 _ rfl _ _ rfl _ _ (by repeat (first | exact Has.here | refine Has.there ?_)) _ (by (repeat (first | ((with_reducible refine get_hit ?_); exact Nat.le_of_ble_eq_true (by kernel_rfl)) | ((with_reducible refine (get_miss ?_).trans ?_); (focus kernel_rfl)) | ((with_reducible refine (get_pmiss ?_).trans ?_); (focus kernel_rfl)))); all_goals (conv => lhs; whnf; arg 1; whnf)) _ Tryd.underlying21 rfl ?_) | (refine wpList_kn_load1 KN (by rfl) 3 _ rfl _ _ rfl _ _ (by repeat (first | exact Has.here | refine Has.there ?_)) _ (by (repeat (first | ((with_reducible refine get_hit ?_); exact Nat.le_of_ble_eq_true (by kernel_rfl)) | ((with_reducible refine (get_miss ?_).trans ?_); (focus kernel_rfl)) | ((with_reducible refine (get_pmiss ?_).trans ?_); (focus kernel_rfl)))); all_goals (conv => lhs; whnf; arg 1; whnf)) _ Tryd.underlying3 rfl ?_)) | ((refine gate_new (by rfl) ?_); first | (refine wpList_kn_boxA KN (by rfl) 48 _ rfl 2 rfl _ rfl ?_; clear KN; intro g2 wx hg2 KN))))
    go_ret
    refine ⟨?_, KN.toBelow⟩
    rw [show kindL.getD 2 0 = 99 from rfl]; rw [op_2 x hc0]; rw [ ← str_app]; rw [← HTC.out]; rfl
  · go_enter Tryd.func31, Tryd.ntmps31
    go_wp2_with (first | (go_at_call 30; refine (Itoa_txt _ (by omega) (by omega) _ (HP.out.below KN.toBelow)).mono ?_; rintro e w' ⟨rfl, hb⟩; replace KN := KN.below hb; clear hb; first | rw [← HTI.out] | rw [← HTA.out] | rw [← HTB.out] | rw [← HTC.out]) | ((with_reducible refine wpList_gate ?_); first | ((refine gate_load (by rfl) ?_); first | (refine wpList_kn_load1 KN (by rfl) 21 _ rfl _ _ rfl _ _ (by repeat (first | exact Has.here | refine Has.there ?_)) _ (by (repeat (first | ((with_reducible refine get_hit ?_); exact Nat.le_of_ble_eq_true (by kernel_rfl)) | ((with_reducible refine (get_miss ?_).trans ?_); (focus kernel_rfl)) | ((with_reducible refine (get_pmiss ?_).trans ?_); (focus kernel_rfl)))); all_goals (conv => lhs; whnf; arg 1; whnf)) _ Tryd.underlying21 rfl ?_) | (refine wpList_kn_load1 KN (by rfl) 3 _ rfl _ _ rfl _ _ (by repeat (first | exact Has.here | refine Has.there ?_)) _ (by (repeat (first | ((with_reducible refine get_hit ?_); exact Nat.le_of_ble_eq_true (by kernel_rfl)) | ((with_reducible refine (get_miss ?_).trans ?_); (focus kernel_rfl)) | ((with_reducible refine (get_pmiss ?_).trans ?_); (focus kernel_rfl)))); all_goals (conv => lhs; whnf; arg 1; whnf)) _ Tryd.underlying3 rfl ?_)) | ((refine gate_new (by rfl) ?_); first | (refine wpList_kn_boxA KN (by rfl) 48 _ rfl 2 rfl _ rfl ?_; clear KN; intro g2 wx hg2 KN))))
    go_ret
    refine ⟨?_, KN.toBelow⟩
    rw [show kindL.getD 3 0 = 105 from rfl]; rw [op_3]; rw [← HTI.out]; rfl
  · go_enter Tryd.func31, Tryd.ntmps31
    go_wp2_with (first | (go_at_call 30; refine (Itoa_txt _ (by omega) (by omega) _ (HP.out.below KN.toBelow)).mono ?_; rintro e w' ⟨rfl, hb⟩; replace KN := KN.below hb; clear hb; first | rw [← HTI.out] | rw [← HTA.out] | rw [← HTB.out] | rw [← HTC.out]) | ((with_reducible refine wpList_gate ?_); first | ((refine gate_load (by rfl) ?_); first | (refine wpList_kn_load1 KN (by rfl) 21 _ rfl _ _ rfl _ _ (by repeat (first | exact Has.here | refine Has.there ?_)) _ (by (repeat (first | ((with_reducible refine get_hit ?_); exact Nat.le_of_ble_eq_true (by kernel_rfl)) | ((with_reducible refine (get_miss ?_).trans ?_); (focus kernel_rfl)) | ((with_reducible refine (get_pmiss ?_).trans ?_); (focus kernel_rfl)))); all_goals (conv => lhs; whnf; arg 1; whnf)) _ Tryd.underlying21 rfl ?_) | (refine wpList_kn_load1 KN (by rfl) 3 _ rfl _ _ rfl _ _ (by repeat (first | exact Has.here | refine Has.there ?_)) _ (by (repeat (first | ((with_reducible refine get_hit ?_); exact Nat.le_of_ble_eq_true (by kernel_rfl)) | ((with_reducible refine (get_miss ?_).trans ?_); (focus kernel_rfl)) | ((with_reducible refine (get_pmiss ?_).trans ?_); (focus kernel_rfl)))); all_goals (conv => lhs; whnf; arg 1; whnf)) _ Tryd.underlying3 rfl ?_)) | ((refine gate_new (by rfl) ?_); first | (refine wpList_kn_boxA KN (by rfl) 48 _ rfl 2 rfl _ rfl ?_; clear KN; intro g2 wx hg2 KN))))
    go_ret
    refine ⟨?_, KN.toBelow⟩
    rw [show kindL.getD 4 0 = 116 from rfl]; rw [op_4]; rw [ ← str_app]; rw [← HTI.out]; rfl
end
section
open Go

theorem InsOk.of {x : Ins} {n : Int} (h : insErr x n = 0) (hi : -2147483648 ≤ x.imm ∧ x.imm ≤ 2147483647) : InsOk x := by
  unfold insErr at h
  by_cases h1 : x.op < 0 ∨ 27 < x.op
  · rw [if_pos h1] at h; omega
  rw [if_neg h1] at h
  by_cases h2 : (regOk x.a (uses x.op 97) && regOk x.b (uses x.op 98) && regOk x.c (uses x.op 99) && (x.imm == 0 || uses x.op 105 || uses x.op 116)) = false
  · rw [if_pos h2] at h; omega
  rw [if_neg h2] at h
  simp only [Bool.not_eq_false, Bool.and_eq_true] at h2
  obtain ⟨⟨⟨ha, hb⟩, hc⟩, _⟩ := h2
  have rg : ∀ v u, regOk v u = true → 0 ≤ v ∧ v < 16 := by
    intro v u hv
    simp only [regOk, Bool.or_eq_true, beq_iff_eq, Bool.and_eq_true, decide_eq_true_eq] at hv
    omega
  refine ⟨⟨by omega, by omega⟩, rg _ _ ha, rg _ _ hb, rg _ _ hc, hi, fun hu => ?_⟩
  by_cases h3 : uses x.op 116 = true ∧ (x.imm < 0 ∨ n ≤ x.imm)
  · rw [if_pos h3] at h; omega
  · have : ¬ (x.imm < 0 ∨ n ≤ x.imm) := fun q => h3 ⟨hu, q⟩
    omega
/-- The text of the first j operands. -/
def opsK (x : Ins) : Nat → List UInt8
  | 0 => []
  | j + 1 => opsK x j ++ ((if j = 0 then [32] else [44, 32]) ++ opText ((operandsOf x.op).getD j 0) x)
theorem opsK_all (x : Ins) (h0 : 0 ≤ x.op) (h1 : x.op ≤ 27) : opsK x (operandsOf x.op).length = opsText x true (operandsOf x.op) := by
  obtain ⟨q, hq⟩ := Int.eq_ofNat_of_zero_le h0
  have hl := (opsOf_nat q (by omega)).1
  rw [← hq] at hl
  have key : ∀ l : List UInt8, l.length ≤ 3 → (∀ j, (operandsOf x.op).getD j 0 = l.getD j 0) → opsK x l.length = opsText x true l := by
    intro l hl hg
    match l, hl, hg with
    | [], _, _ => rfl
    | [a], _, hg =>
      show ([] : List UInt8) ++ ((if 0 = 0 then [32] else [44, 32]) ++ opText ((operandsOf x.op).getD 0 0) x) = _
      rw [hg 0]
      show [] ++ ([32] ++ opText a x) = 32 :: (opText a x ++ [])
      simp
    | [a, b], _, hg =>
      show (([] : List UInt8) ++ ([32] ++ opText ((operandsOf x.op).getD 0 0) x)) ++ ([44, 32] ++ opText ((operandsOf x.op).getD 1 0) x) = _
      rw [hg 0, hg 1]
      show ([] ++ ([32] ++ opText a x)) ++ ([44, 32] ++ opText b x) = 32 :: (opText a x ++ (44 :: 32 :: (opText b x ++ [])))
      simp
    | [a, b, c], _, hg =>
      show ((([] : List UInt8) ++ ([32] ++ opText ((operandsOf x.op).getD 0 0) x)) ++ ([44, 32] ++ opText ((operandsOf x.op).getD 1 0) x)) ++ ([44, 32] ++ opText ((operandsOf x.op).getD 2 0) x) = _
      rw [hg 0, hg 1, hg 2]
      show (([] ++ ([32] ++ opText a x)) ++ ([44, 32] ++ opText b x)) ++ ([44, 32] ++ opText c x) = 32 :: (opText a x ++ (44 :: 32 :: (opText b x ++ (44 :: 32 :: (opText c x ++ [])))))
      simp
    | _ :: _ :: _ :: _ :: _, hl, _ => (simp only [List.length_cons] at hl; omega)
  exact key _ hl (fun _ => rfl)
/-- The text of the first k instructions. -/
def txtK (p : List Ins) (k : Nat) : List UInt8 := linesT p 0 (p.take k)
theorem linesT_snoc (p : List Ins) : ∀ (r : List Ins) (i : Nat) (x : Ins), linesT p i (r ++ [x]) = linesT p i r ++ (labText p (i + r.length) ++ insText x)
  | [], i, x => by
    show labText p i ++ (insText x ++ []) = [] ++ (labText p (i + 0) ++ insText x)
    simp
  | y :: r, i, x => by
    show labText p i ++ (insText y ++ linesT p (i + 1) (r ++ [x])) = labText p i ++ (insText y ++ linesT p (i + 1) r) ++ _
    rw [linesT_snoc p r (i + 1) x, show i + 1 + r.length = i + (y :: r).length by rw [List.length_cons]; omega]
    simp
theorem txtK_succ {p : List Ins} {k : Nat} {x : Ins} (h : p[k]? = some x) : txtK p (k + 1) = txtK p k ++ (labText p k ++ insText x) := by
  have hk := (List.getElem?_eq_some_iff.1 h).1
  unfold txtK
  rw [List.take_add_one, h]
  show linesT p 0 (p.take k ++ [x]) = _
  rw [linesT_snoc, List.length_take, Nat.zero_add, Nat.min_eq_left (by omega)]
theorem txtK_all (p : List Ins) : txtK p p.length = linesT p 0 p := by unfold txtK; rw [List.take_of_length_le (Nat.le_refl _)]
theorem mnem_len : ∀ k, k < 28 → (mnemL.getD k []).length ≤ 5 := by decide
theorem mnemOf_len {op : Int} (h0 : 0 ≤ op) (h1 : op ≤ 27) : (mnemOf op).length ≤ 5 := mnem_len op.toNat (by omega)
theorem opText_len (c : UInt8) (x : Ins) (h : InsOk x) : (opText c x).length ≤ 22 := by
  have ha := immText_len x.a (by have := h.a; omega) (by have := h.a; omega)
  have hb := immText_len x.b (by have := h.b; omega) (by have := h.b; omega)
  have hc := immText_len x.c (by have := h.c; omega) (by have := h.c; omega)
  have hi := immText_len x.imm (by have := h.imm; omega) (by have := h.imm; omega)
  rw [imm_nat h.a.1] at ha
  rw [imm_nat h.b.1] at hb
  rw [imm_nat h.c.1] at hc
  unfold opText
  split
  · simp; omega
  · split
    · simp; omega
    · split
      · simp; omega
      · split
        · simp; omega
        · omega
theorem opsK_len (x : Ins) (h : InsOk x) : ∀ j, (opsK x j).length ≤ 24 * j
  | 0 => Nat.le_refl _
  | j + 1 => by
    have h1 := opsK_len x h j
    have h2 := opText_len ((operandsOf x.op).getD j 0) x h
    unfold opsK
    split <;> (simp only [List.length_append, List.length_cons, List.length_nil]; omega)
theorem insText_len (x : Ins) (h : InsOk x) : (insText x).length ≤ 79 := by
  have h1 := mnemOf_len h.op.1 h.op.2
  obtain ⟨q, hq⟩ := Int.eq_ofNat_of_zero_le h.op.1
  have hl := (opsOf_nat q (by have := h.op.2; omega)).1
  rw [← hq] at hl
  have h2 := opsK_len x h (operandsOf x.op).length
  unfold insText
  rw [← opsK_all x h.op.1 h.op.2]
  simp only [List.length_append, List.length_cons, List.length_nil]
  omega
theorem labText_len (p : List Ins) (k : Nat) (hk : k ≤ 4096) : (labText p k).length ≤ 24 := by
  have := immText_len (k : Int) (by omega) (by omega)
  rw [imm_nat (by omega), Int.toNat_natCast] at this
  unfold labText
  split
  · simp; omega
  · simp
theorem txtK_len {p : List Ins} (hp : ∀ x ∈ p, InsOk x) (hn : p.length ≤ 4096) : ∀ k, k ≤ p.length → (txtK p k).length ≤ 103 * k
  | 0, _ => Nat.le_refl _
  | k + 1, h => by
    obtain ⟨x, hx⟩ : ∃ x, p[k]? = some x := ⟨_, List.getElem?_eq_getElem (by omega)⟩
    have h1 := txtK_len hp hn k (by omega)
    have h2 := insText_len x (hp x (List.mem_of_getElem? hx))
    have h3 := labText_len p k (by omega)
    rw [txtK_succ hx]
    simp only [List.length_append]
    omega
/-- The map of the targets of these instructions. -/
structure TgtD (r : List Ins) (D : DataW Unit) : Prop where
  map : Maps.IsMap D
  at_ : ∀ i : Int, D.atKey (.int .i32 i) (.lit (.bool false)) = .lit (.bool (r.any fun x => uses x.op 116 && decide (x.imm = i)))
theorem TgtD.nil : TgtD [] (.map []) := ⟨Maps.isMap_empty, fun _ => rfl⟩
theorem TgtD.skip {r : List Ins} {D : DataW Unit} {x : Ins} (h : TgtD r D) (hu : uses x.op 116 = false) : TgtD (r ++ [x]) D := ⟨h.map, fun i => by rw [h.at_, List.any_append]; simp [hu]⟩
theorem TgtD.put {r : List Ins} {D : DataW Unit} {x : Ins} (h : TgtD r D) (hu : uses x.op 116 = true) (hi : (Lit.int .i32 x.imm).wf = true) : TgtD (r ++ [x]) (D.put (.int .i32 x.imm) (.lit (.bool true))) := by
  refine ⟨h.map.put _ _, fun i => ?_⟩
  rw [List.any_append]
  by_cases e : x.imm = i
  · subst e
    rw [Maps.atKey_put_same (k := .int .i32 x.imm) h.map trivial]
    simp [hu]
  · rw [Maps.atKey_put_other (by intro q; injection q with _ q; exact e q.symm), h.at_]
    simp [e]
theorem take_snoc' {p : List Ins} {k : Nat} {x : Ins} (h : p[k]? = some x) : p.take (k + 1) = p.take k ++ [x] := by rw [List.take_add_one, h]; rfl
def bytesL (l : List UInt8) : List (List Value) := l.map fun c => [.int .u8 (c.toNat : Int)]
theorem bytesL_app (a b : List UInt8) : bytesL (a ++ b) = bytesL a ++ bytesL b := by simp [bytesL]
theorem bytesL_len (a : List UInt8) : (bytesL a).length = a.length := by simp [bytesL]
theorem bytesL_str (l : List UInt8) : ((Lib.strCells (str l)).map fun c => [c]) = bytesL l := by
  rw [Lib.strCells, data_str, List.map_map]; rfl
end
section
open Go Go.RowKit Go.BigFrame

section
variable {P : Program} {e t u ty : TypeId} {i : TypeInfo} {w : World} {v v' : Value} {w' : World} {n base : Nat} {xs : List Value}
/-- Where the bytes lie when a string has been appended: where they lay, or in a new block. -/
theorem append_str_block (ht : P.underlying t = some (.slice e)) (hu : P.underlying u = some .string) (hi : P.info? e = some i) (hz : i.zero = some (.int .u8 0)) (hsize : i.size = 1) (hby : i.bytes = 1)
    (hown : w.ownsRow base e 1 v n xs) (s : ByteArray) (h63 : n + s.size ≤ maxLen) (hbytes : n + s.size ≤ 140737488355328) (hr : (Builtin.append_ #[t, u] ty #[v, .string s]).run P w = .ok v' w') (h0 : v' = .slice none 0 0 ↔ v = .slice none 0 0 ∧ s.size = 0) :
    v'.ownBlock = v.ownBlock ∨ v'.ownBlock = some w.heap.size := by
  have hsmall : n + s.size ≤ 9223372036854775807 := by simp only [maxLen] at h63; omega
  rcases hown.2 with ⟨rfl, rfl⟩ | ⟨g, cap, cur, rfl, _, hg, hnc, hcm, hcs, _⟩
  · by_cases hm : s.size = 0
    · rw [h0.2 ⟨rfl, hm⟩]; exact .inl rfl
    · have hq := run_append_nil_string (P := P) w t u ty e i (.int .u8 0) ht hu hi hz s (by omega) (by omega) (by rw [hby]; omega)
      rw [hq] at hr
      injection hr with h1 _
      exact .inr (by rw [← h1]; rfl)
  · by_cases hroom : n + s.size ≤ cap
    · have hq := Lib.run_append_room_string (P := P) w t u ty e i ht hu hi hsize g n cap cur hg s hroom (by omega)
      rw [hq] at hr
      injection hr with h1 _
      exact .inl (by rw [← h1]; rfl)
    · have hxl : xs.length = n := by simpa using hown.1
      have holds : ∀ j u, xs[j]? = some u → w.cell? ((⟨g, 0, none⟩ : Addr).add j) = some u := hown.cells (g := g) rfl
      have hq := Lib.run_append_grow_string (P := P) w t u ty e i (.int .u8 0) ht hu hi hz ⟨g, 0, none⟩ n cap xs (by rw [hsize]; simpa using hxl) holds s (by omega) (by omega) (by rw [hby]; exact growslice_fits (by omega) (by omega))
      rw [hq] at hr
      injection hr with h1 _
      exact .inr (by rw [← h1]; rfl)
end
theorem flat1 (l : List Value) : (l.map fun c => [c]).flatten = l := by
  induction l with
  | nil => rfl
  | cons x xs ih => simp [ih]
section
variable {P : Program} {ops : Array Oper} {rest : List Oper} {op : Oper} {a : Act} {w W : World} {Q : Exit → Act → World → Prop} {M : List Nat} {l : Ents} {f : Ents → Ents} {ol : Ents} {e : TypeId} {v : Value} {L : List (List Value)}
/-- append(s, text...). -/
theorem wpList_kn_appendS (KN : Kn M W w l) (OW : OwnT e 1 v L ol) (hgd : op.guard = none) (sl x : Operand) (t u : TypeId) (ho : op.op = .call { callee := .builtin .append, args := #[sl, x], argTypes := #[t, u] })
    (ht : P.underlying t = some (.slice e)) (hu : P.underlying u = some .string) (hinfo : (P.info? e).map (fun i => (i.zero, i.size, i.bytes)) = some (some (.int .u8 0), 1, 1)) (hs : a.eval sl = v) (s : ByteArray) (hx : a.eval x = .string s)
    (h63 : L.length + s.size ≤ maxLen) (hbytes : L.length + s.size ≤ 140737488355328) (hf : TailF f) (hl : f ol = l)
    (h : ∀ v' w' ol', OwnT e 1 v' (L ++ (Lib.strCells s).map fun c => [c]) ol' → Kn M W w' (f ol') → wpList P ops Q rest (a.put op.dst v') w') : wpList P ops Q (op :: rest) a w := by
  subst hl
  obtain ⟨i, hi, hz0, hz1, hz2⟩ := info_parts hinfo
  have hrow := OW.owns KN hf
  obtain ⟨v', w', hrun, h2, h3, h4⟩ := Lib.run_append_own_string (P := P) w 0 t u op.type e i ht hu hi hz0 hz1 hz2 v L.length L.flatten hrow s h63 hbytes (Nat.zero_le _)
  have h5 := append_str_block ht hu hi hz0 hz1 hz2 hrow s h63 hbytes hrun h4
  have hfl : L.flatten ++ Lib.strCells s = (L ++ (Lib.strCells s).map fun c => [c]).flatten := by rw [List.flatten_append, flat1]
  rw [hfl] at h2
  obtain ⟨ol', OW', hk⟩ := OwnT.of_owns (n := L.length + s.size) (fun c' hc' => by
    rcases List.mem_append.1 hc' with h | h
    · exact OW.len c' h
    · obtain ⟨x, _, rfl⟩ := List.mem_map.1 h; rfl) (by rw [List.length_append, List.length_map, Lib.strCells_length]) h2
  refine wpList_plain hgd fun K hK => ?_
  unfold Oper.wp execOp
  simp only [ho, resolve, invoke, builtin, Sem.run_bind, Sem.run_pure, Result.andThen_ok, List.map_toArray, List.map_cons, List.map_nil, hs, hx, hrun]
  refine hK _ _ (h v' w' ol' OW' (KN.grown hf OW' h3 OW.block fun g Φ hg => ?_))
  obtain ⟨k1, k2⟩ := hk g Φ hg
  refine ⟨k1, ?_⟩
  rcases h5 with h5 | h5
  · exact .inl (h5 ▸ k2)
  · rw [h5] at k2; exact .inr (by simpa using k2.symm)
end

theorem copyCheck_kn {M : List Nat} {W w : World} {l : Ents} {b : Nat} {p v : Value} (KN : Kn M W w ((b, At #[p, v] 80) :: l)) (hp : p = .pointer none ∨ p = (.pointer (some ⟨b, 0, none⟩))) :
    Calls Tryd.prog 57 #[.pointer (some ⟨b, 0, none⟩)] w fun e w' => e = .returned (.tuple #[]) ∧ Kn M W w' ((b, At #[(.pointer (some ⟨b, 0, none⟩)), v] 80) :: l) := by
  have hb := KN.at_ .here
  have hb' : w.heap[b]? = some (.cells #[p, v] 80 (0, 0)) := hb
  rcases hp with rfl | rfl
  · refine (copyCheck_fresh b w ?_ ?_ ?_).mono ?_
    · simp [World.cell?, hb']
    · simp [World.shape?, hb']
    · simp [World.frozen?, hb']
    · rintro e w' ⟨rfl, rfl⟩
      refine ⟨rfl, ?_⟩
      have := KN.setCells (g := b) 0 [(.pointer (some ⟨b, 0, none⟩))] (l' := (b, At #[(.pointer (some ⟨b, 0, none⟩)), v] 80) :: l) Repl.here
      exact this
  · refine (copyCheck_used b w ?_).mono ?_
    · simp [World.cell?, hb']
    · rintro e w' ⟨rfl, rfl⟩
      exact ⟨rfl, KN⟩
set_option maxRecDepth 100000 in
set_option maxHeartbeats 4000000 in
theorem WriteString_kn {M : List Nat} {W w : World} {f : Ents → Ents} {ol : Ents} {L : List (List Value)} {b : Nat} {p v : Value} (s : ByteArray) (KN : Kn M W w ((b, At #[p, v] 80) :: f ol)) (hp : p = .pointer none ∨ p = (.pointer (some ⟨b, 0, none⟩))) (OW : OwnT 5 1 v L ol) (hf : TailF f)
    (hlen : L.length + s.size ≤ 140737488355328) :
    Calls Tryd.prog 29 #[(.pointer (some ⟨b, 0, none⟩)), .string s] w fun e w' => e = .returned (.tuple #[.int .i64 s.size, .nilIface]) ∧ ∃ v' ol', OwnT 5 1 v' (L ++ (Lib.strCells s).map fun c => [c]) ol' ∧ Kn M W w' ((b, At #[(.pointer (some ⟨b, 0, none⟩)), v'] 80) :: f ol') := by
  obtain ⟨va, vc, rfl⟩ := OW.form
  have HO := Lib.hid OW
  obtain ⟨n, hn⟩ : ∃ n, n = L.length := ⟨_, rfl⟩
  have HN := Lib.hid hn
  rw [← hn] at hlen
  have hcc := copyCheck_kn KN hp
  have HCC := Lib.hid hcc
  have HF := Lib.hid hf
  clear OW hcc hf KN hp hn
  go_enter Tryd.func29, Tryd.ntmps29
  go_wp2_with (first | (go_at_call 57; refine HCC.out.mono ?_; rintro e w1 ⟨rfl, KN⟩) | ((with_reducible refine wpList_gate ?_); first | (at_builtin; (refine wpList_kn_appendS (f := fun o => (b, At #[(.pointer (some ⟨b, 0, none⟩)), .slice va L.length vc] 80) :: f o) KN HO.out (by rfl) (.tmp 12) (.tmp 13) 23 9 rfl Tryd.underlying23 Tryd.underlying9 bld_byte rfl s rfl (by rw [← HN.out]; unfold maxLen; omega) (by rw [← HN.out]; exact hlen) (TailF.cons _ HF.out) rfl ?_); clear KN; intro v' wx ol' OW KN; obtain ⟨xa, xc, rfl⟩ := OW.form) | ((refine gate_load (by rfl) ?_); first | (refine wpList_kn_load1 KN (by rfl) 23 _ rfl _ _ rfl _ _ (by repeat (first | exact Has.here | refine Has.there ?_)) _ (by (repeat (first | ((with_reducible refine get_hit ?_); exact Nat.le_of_ble_eq_true (by kernel_rfl)) | ((with_reducible refine (get_miss ?_).trans ?_); (focus kernel_rfl)) | ((with_reducible refine (get_pmiss ?_).trans ?_); (focus kernel_rfl)))); all_goals (conv => lhs; whnf; arg 1; whnf)) _ Tryd.underlying23 rfl ?_)) | ((refine gate_store (by rfl) ?_); first | (refine wpList_kn_store1 KN (by rfl) 23 _ _ rfl _ _ rfl _ (by conv => lhs; whnf) (by rfl) _ _ (by repeat (first | exact Repl.here | apply Repl.there)) (by (try simp only [Array.size_setIfInBounds, putL_size]); first | exact Nat.le_of_ble_eq_true rfl | (simp; omega)) (by kernel_rfl) (by rfl) ?_; clear KN; intro wx KN))))
  refine bodyPost_ret (results_tmp2 rfl _ _ _) rfl ?_
  exact ⟨rfl, _, ol', OW, KN.as_ b #[.pointer (some ⟨b, 0, none⟩), .slice xa _ xc] Repl.here (by rw [List.length_append, List.length_map]; rfl)⟩
end
section
open Go.RowKit Go.BigFrame

open Go.Maps (Keyed) in
theorem wpList_kn_lookupB {H : Type} {P : Program} {k : TypeId} {n m : Nat} {D : DataW H} {M : List Nat} {W w : World} {l : Ents} {ops : Array Oper} {rest : List Oper} {op : Oper} {a : Act} {Q : Exit → Act → World → Prop} (KN : Kn M W w l) (hg : op.guard = none) (mo x : Operand) (t : TypeId) (hop : op.op = Op.lookup t mo x false) (e : TypeId) (K : Keyed P k) (ht : P.underlying t = some (.map k e)) (he : P.underlying e = some .bool)
    (hz : (zeroValue e).run P w = .ok (.bool false) w) (hm : a.eval mo = .map (some m)) (has : Has l m (MapAt P k (plainElem P e) n D)) (key : Value) (kl : Lit) (hx : a.eval x = key) (hkey : keyOf P k key = some kl) (c : Bool) (hc : D.atKey kl (.lit (.bool false)) = .lit (.bool c))
    (hK : wpList P ops Q rest (a.put op.dst (.bool c)) w) : wpList P ops Q (op :: rest) a w := by
  refine wpList_plain hg fun K' hK' => ?_
  obtain ⟨v, ps, hrun, hv⟩ := (KN.map has).lookup K ht hz (plainElem_bool he false) hkey
  have hvb : v = .bool c := by
    unfold plainElem at hv
    rw [he, hc] at hv
    cases v <;> simp at hv
    rw [hv.1]
  subst hvb
  unfold Oper.wp
  simp [execOp, hop, hm, hx, hrun, Result.andThen]
  exact hK' _ _ hK
theorem wf_32 {i : Int} (h0 : -2147483648 ≤ i) (h1 : i ≤ 2147483647) : (Lit.int .i32 i).wf = true := by
  show (decide (IntKind.i32.min ≤ i) && decide (i ≤ IntKind.i32.max)) = true
  rw [Bool.and_eq_true, decide_eq_true_eq, decide_eq_true_eq]
  have h1 : IntKind.i32.min = -2147483648 := rfl
  have h2 : IntKind.i32.max = 2147483647 := rfl
  omega
theorem key_32 {i : Int} (h : (Lit.int .i32 i).wf = true) : keyOf Tryd.prog 21 (.int .i32 i) = some (.int .i32 i) := by
  unfold keyOf
  rw [Tryd.underlying21]
  simp [mapKey, Tryd.underlying21, h]
def Dis1 (p : List Ins) (n t m : Nat) (w : World) (i : Value) (wr : World) : Prop :=
  ∃ (k c : Nat) (D : DataW Unit), i = .int .i64 (k : Int) ∧ k ≤ n ∧ c ≤ k ∧ TgtD (p.take k) D ∧ Kn [] w wr [(m, MapAt Tryd.prog 21 (plainElem Tryd.prog 4) c D), (t, At fmtA 77)]
def Dis2 (p : List Ins) (n t m b c : Nat) (D : DataW Unit) (w : World) (i : Value) (wr : World) : Prop :=
  ∃ (k : Nat) (pb vb : Value) (ol : Ents), i = .int .i64 (k : Int) ∧ k ≤ n ∧ (pb = .pointer none ∨ pb = .pointer (some ⟨b, 0, none⟩)) ∧ OwnT 5 1 vb (bytesL (txtK p k)) ol ∧ Kn [] w wr ((b, At #[pb, vb] 80) :: (m, MapAt Tryd.prog 21 (plainElem Tryd.prog 4) c D) :: (t, At fmtA 77) :: ol)
theorem zeroB (w : World) : (zeroValue 4).run Tryd.prog w = .ok (.bool false) w := by kernel_rfl
theorem formats_kn2 (w : World) : Calls Tryd.prog 24 #[] w fun e w' => ∃ t, e = .returned (asmT t) ∧ Kn [] w w' [(t, At fmtA 77)] := formats_kn w
theorem size_lab (u : ByteArray) (h : u.size ≤ 21) : (({ data := #[76] } : ByteArray) ++ u ++ ({ data := #[58, 32] } : ByteArray)).size ≤ 30 := by
  rw [ByteArray.size_append, ByteArray.size_append]
  show 1 + u.size + 2 ≤ 30
  omega
theorem p2 {α : Type _} (x y : α) (r : List α) : (x :: y :: r).Perm (y :: x :: r) := List.Perm.swap y x r
theorem p3 {α : Type _} (x y z : α) (r : List α) : (x :: y :: z :: r).Perm (z :: x :: y :: r) := ((List.Perm.swap z y r).cons x).trans (List.Perm.swap z x (y :: r))
theorem Kn.isBuilder {W w : World} {f : Ents → Ents} {ol : Ents} {b : Nat} {pb vb : Value} {l : List UInt8} (KN : Kn [] W w ((b, At #[pb, vb] 80) :: f ol)) (OW : OwnT 5 1 vb (bytesL l) ol) (hf : TailF f) (hp : pb = .pointer none ∨ pb = .pointer (some ⟨b, 0, none⟩)) :
    Lib.IsBuilder 80 5 W.heap.size b (Lib.byteCells l) w := by
  have hB : W.heap.size ≤ b := by
    rcases KN.fresh _ _ .here with h | h
    · cases h
    · exact h
  have hbk : w.heap[b]? = some (.cells #[pb, vb] 80 (0, 0)) := KN.at_ .here
  have hfl : (bytesL l).flatten = Lib.byteCells l := by
    rw [← bytesL_str l, flat1, Lib.strCells_eq, data_str]
  have key : w.ownsRow W.heap.size 5 1 vb (Lib.byteCells l).length (Lib.byteCells l) ∧ vb.ownBlock ≠ some b := by
    have h0 := OW.owns (KN.drop .here) hf
    rw [hfl, bytesL_len, show l.length = (Lib.byteCells l).length by rw [Lib.byteCells_length]] at h0
    refine ⟨⟨h0.1, ?_⟩, ?_⟩
    · rcases h0.2 with h1 | ⟨g, cap, cur, hv, _, h2⟩
      · exact .inl h1
      · refine .inr ⟨g, cap, cur, hv, ?_, h2⟩
        obtain ⟨Φ, ho⟩ := OW.block g (by rw [hv]; rfl)
        subst ho
        rcases KN.fresh _ _ (.there (hf.has (.here (Φ := Φ)))) with h | h
        · cases h
        · exact h
    · intro hq
      obtain ⟨Φ, ho⟩ := OW.block b hq
      subst ho
      have ha := KN.apart
      rw [List.map_cons, List.nodup_cons] at ha
      exact ha.1 (hf.has (.here (Φ := Φ))).key
  rcases hp with rfl | rfl
  · exact .inl ⟨hB, vb, hbk, key.1, key.2⟩
  · exact .inr ⟨hB, vb, hbk, key.1, key.2⟩
def DisB (t m b c g9 : Nat) (D : DataW Unit) (x : Ins) (w : World) (s : List UInt8) (wr : World) : Prop :=
  ∃ (pb vb : Value) (ol : Ents), (pb = .pointer none ∨ pb = .pointer (some ⟨b, 0, none⟩)) ∧ OwnT 5 1 vb (bytesL s) ol ∧ Kn [] w wr ((g9, At x.cells 48) :: (b, At #[pb, vb] 80) :: (m, MapAt Tryd.prog 21 (plainElem Tryd.prog 4) c D) :: (t, At fmtA 77) :: ol)
def DisC (t m b c g9 g10 : Nat) (D : DataW Unit) (x : Ins) (um uo : ByteArray) (w : World) (s : List UInt8) (wr : World) : Prop :=
  ∃ (vb : Value) (ol : Ents), OwnT 5 1 vb (bytesL s) ol ∧ Kn [] w wr ((g10, At #[.string um, .string uo] 77) :: (g9, At x.cells 48) :: (b, At #[.pointer (some ⟨b, 0, none⟩), vb] 80) :: (m, MapAt Tryd.prog 21 (plainElem Tryd.prog 4) c D) :: (t, At fmtA 77) :: ol)
theorem str_get {l : List UInt8} {u : ByteArray} (hu : u = str l) (j : Nat) (h : j < u.size) : u[j] = l.getD j 0 := by
  subst hu
  have hl : j < l.length := by rw [str_size] at h; exact h
  rw [List.getD_eq_getElem?_getD, List.getElem?_eq_getElem hl]
  show (str l).data[j]'_ = l[j]
  simp [str]
theorem op_kind {op : Int} (h0 : 0 ≤ op) (h1 : op ≤ 27) {j : Nat} (hj : j < (operandsOf op).length) : ∃ kk : Nat, kk < 5 ∧ opIx ((operandsOf op).getD j 0) = (kk : Int) ∧ kindL.getD kk 0 = (operandsOf op).getD j 0 := by
  obtain ⟨q, rfl⟩ := Int.eq_ofNat_of_zero_le h0
  have hm : (operandsOf (q : Int)).getD j 0 ∈ operandsOf (q : Int) := by
    rw [List.getD_eq_getElem?_getD, List.getElem?_eq_getElem hj]; exact List.getElem_mem _
  rcases (opsOf_nat q (by omega)).2 _ hm with h | h | h | h | h <;> rw [h]
  · exact ⟨0, by decide, by decide, by decide⟩
  · exact ⟨1, by decide, by decide, by decide⟩
  · exact ⟨2, by decide, by decide, by decide⟩
  · exact ⟨3, by decide, by decide, by decide⟩
  · exact ⟨4, by decide, by decide, by decide⟩
set_option maxRecDepth 100000 in
set_option maxHeartbeats 40000000 in
theorem Dis_ok (va : Value) (p : List Ins) (w : World) (h : Instrs w va p) (hp : Pow w) (he : progErr p = 0) :
    Calls Tryd.prog 11 #[va] w fun e w' => e = .returned (.string (str (linesT p 0 p))) ∧ Below w.heap.size w w' := by
  have KN := Kn.start w
  have hlen := progErr_len he
  have hall := progErr_all he
  have hok : ∀ x ∈ p, InsOk x := fun x hx => InsOk.of (hall x hx) (h.2 x hx).1
  obtain ⟨a, c, rfl, _⟩ := h.form
  obtain ⟨n, hn⟩ : ∃ n, n = p.length := ⟨_, rfl⟩
  have HN := Lib.hid hn
  have H := Lib.hid h
  have HP := Lib.hid hp
  have HE := Lib.hid he
  have HOK := Lib.hid hok
  rw [← hn] at hlen ⊢
  obtain ⟨n1, n2⟩ := hlen
  clear h hp he hok hall hn
  go_enter Tryd.func11, Tryd.ntmps11
  go_wp2_with (first | (go_at_call 17; refine (Validate_any _ p _ (by rw [HN.out]; exact H.out)).mono ?_; rintro e wx ⟨rfl, hb⟩; rw [HE.out]; replace KN := KN.below hb; clear hb) | (go_at_call 24; refine (formats_kn2 _).mono ?_; intro e wx hq; obtain ⟨t, rfl, K2⟩ := hq; replace KN := (KN.call0 K2); clear K2; simp only [List.cons_append, List.nil_append] at KN) | ((with_reducible refine wpList_gate ?_); first | (refine wpList_kn_makeMap KN rfl 74 rfl 21 (plainElem (H := Unit) Tryd.prog 4) ?_; clear KN; intro m wx hm KN) | ((refine gate_load (by rfl) ?_); first | (refine wpList_kn_loadW KN (by rfl) 48 _ rfl _ rfl _ _ (by repeat (first | exact Has.here | refine Has.there ?_)) _ Tryd.underlying48 rfl (by kernel_rfl) ?_) | (refine wpList_kn_load1 KN (by rfl) 3 _ rfl _ _ rfl _ _ (by repeat (first | exact Has.here | refine Has.there ?_)) _ (by (repeat (first | ((with_reducible refine get_hit ?_); exact Nat.le_of_ble_eq_true (by kernel_rfl)) | ((with_reducible refine (get_miss ?_).trans ?_); (focus kernel_rfl)) | ((with_reducible refine (get_pmiss ?_).trans ?_); (focus kernel_rfl)))); all_goals (conv => lhs; whnf; arg 1; whnf)) _ Tryd.underlying3 rfl ?_) | (refine wpList_kn_load1 KN (by rfl) 9 _ rfl _ _ rfl _ _ (by repeat (first | exact Has.here | refine Has.there ?_)) _ (by (repeat (first | ((with_reducible refine get_hit ?_); exact Nat.le_of_ble_eq_true (by kernel_rfl)) | ((with_reducible refine (get_miss ?_).trans ?_); (focus kernel_rfl)) | ((with_reducible refine (get_pmiss ?_).trans ?_); (focus kernel_rfl)))); all_goals (conv => lhs; whnf; arg 1; whnf)) _ Tryd.underlying9 rfl ?_) | (refine wpList_kn_load1 KN (by rfl) 21 _ rfl _ _ rfl _ _ (by repeat (first | exact Has.here | refine Has.there ?_)) _ (by (repeat (first | ((with_reducible refine get_hit ?_); exact Nat.le_of_ble_eq_true (by kernel_rfl)) | ((with_reducible refine (get_miss ?_).trans ?_); (focus kernel_rfl)) | ((with_reducible refine (get_pmiss ?_).trans ?_); (focus kernel_rfl)))); all_goals (conv => lhs; whnf; arg 1; whnf)) _ Tryd.underlying21 rfl ?_) | (refine wpList_kn_loadW KN (by rfl) 77 _ rfl _ rfl _ _ (by repeat (first | exact Has.here | refine Has.there ?_)) _ Tryd.underlying77 rfl (by kernel_rfl) ?_)) | ((refine gate_store (by rfl) ?_); first | (refine wpList_kn_storeW KN (by rfl) 48 _ _ rfl _ rfl _ rfl _ _ (by repeat (first | exact Repl.here | apply Repl.there)) (by kernel_rfl) (by kernel_rfl) (by kernel_rfl) ?_; clear KN; intro wx KN) | (refine wpList_kn_storeA KN (by rfl) 48 _ _ rfl _ _ rfl _ rfl _ _ (by repeat (first | exact Repl.here | apply Repl.there)) (by (try simp only [Array.size_setIfInBounds, putL_size]); first | exact Nat.le_of_ble_eq_true rfl | (simp; omega)) (by kernel_rfl) (by kernel_rfl) ?_; clear KN; intro wx KN) | (refine wpList_kn_storeW KN (by rfl) 77 _ _ rfl _ rfl _ rfl _ _ (by repeat (first | exact Repl.here | apply Repl.there)) (by kernel_rfl) (by kernel_rfl) (by kernel_rfl) ?_; clear KN; intro wx KN) | (refine wpList_kn_storeA KN (by rfl) 77 _ _ rfl _ _ rfl _ rfl _ _ (by repeat (first | exact Repl.here | apply Repl.there)) (by (try simp only [Array.size_setIfInBounds, putL_size]); first | exact Nat.le_of_ble_eq_true rfl | (simp; omega)) (by kernel_rfl) (by kernel_rfl) ?_; clear KN; intro wx KN)) | ((refine gate_new (by rfl) ?_); first | (refine wpList_kn_alloc KN (by rfl) 48 rfl 6 rfl #[.int .i64 0, .int .i64 0, .int .i64 0, .int .i64 0, .int .i32 0] (by kernel_rfl) ?_; clear KN; intro g6 wx hg6 KN) | (refine wpList_kn_alloc KN (by rfl) 80 rfl 7 rfl #[.pointer none, .slice none 0 0] (by kernel_rfl) ?_; clear KN; intro g7 wx hg7 KN) | (refine wpList_kn_alloc KN (by rfl) 48 rfl 9 rfl #[.int .i64 0, .int .i64 0, .int .i64 0, .int .i64 0, .int .i32 0] (by kernel_rfl) ?_; clear KN; intro g9 wx hg9 KN) | (refine wpList_kn_alloc KN (by rfl) 77 rfl 10 rfl #[.string ByteArray.empty, .string ByteArray.empty] (by kernel_rfl) ?_; clear KN; intro g10 wx hg10 KN))))
  have HREL : Hid (Dis1 p n t m w (.int .i64 0) wx) := Lib.hid ⟨0, 0, _, rfl, Nat.zero_le _, Nat.le_refl _, TgtD.nil, KN⟩
  clear KN hm
  go_loopw [19] (fun i wr => Dis1 p n t m w i wr) (fun i _ => n - (intOf i).toNat)
  case atStart => exact HREL.out
  case round =>
    obtain ⟨k, cc, D, rfl, hk, hcc, hT, KN⟩ := hrel
    have HT := Lib.hid hT
    clear hT
    by_cases hlt : k < n
    · obtain ⟨x, hx⟩ : ∃ x, p[k]? = some x := ⟨_, List.getElem?_eq_getElem (by rw [← HN.out]; exact hlt)⟩
      obtain ⟨a', c', hv, hcells⟩ := (H.out.below KN.toBelow).form
      simp only [Value.slice.injEq] at hv
      obtain ⟨g2, off, hg2, hgb, hc1, hc2, x0, x1, x2, x3, x4⟩ := hcells k x hx
      obtain ⟨rfl, _, rfl⟩ := hv
      subst hg2
      have hxo := HOK.out x (List.mem_of_getElem? hx)
      obtain ⟨o0, o1⟩ := hxo.op
      obtain ⟨i0, i1⟩ := hxo.imm
      have HX := Lib.hid hx
      clear hx hcells hc1 hxo
      unfold maxLen at hc2
      go_upto_region 8 with (first | ((with_reducible refine wpList_gate ?_); first | ((refine gate_load (by rfl) ?_); first | (refine wpList_kn_loadW KN (by rfl) 48 _ rfl _ rfl _ _ (by repeat (first | exact Has.here | refine Has.there ?_)) _ Tryd.underlying48 rfl (by kernel_rfl) ?_) | (refine wpList_kn_load1 KN (by rfl) 3 _ rfl _ _ rfl _ _ (by repeat (first | exact Has.here | refine Has.there ?_)) _ (by (repeat (first | ((with_reducible refine get_hit ?_); exact Nat.le_of_ble_eq_true (by kernel_rfl)) | ((with_reducible refine (get_miss ?_).trans ?_); (focus kernel_rfl)) | ((with_reducible refine (get_pmiss ?_).trans ?_); (focus kernel_rfl)))); all_goals (conv => lhs; whnf; arg 1; whnf)) _ Tryd.underlying3 rfl ?_) | (refine wpList_kn_load1 KN (by rfl) 9 _ rfl _ _ rfl _ _ (by repeat (first | exact Has.here | refine Has.there ?_)) _ (by (repeat (first | ((with_reducible refine get_hit ?_); exact Nat.le_of_ble_eq_true (by kernel_rfl)) | ((with_reducible refine (get_miss ?_).trans ?_); (focus kernel_rfl)) | ((with_reducible refine (get_pmiss ?_).trans ?_); (focus kernel_rfl)))); all_goals (conv => lhs; whnf; arg 1; whnf)) _ Tryd.underlying9 rfl ?_) | (refine wpList_kn_load1 KN (by rfl) 21 _ rfl _ _ rfl _ _ (by repeat (first | exact Has.here | refine Has.there ?_)) _ (by (repeat (first | ((with_reducible refine get_hit ?_); exact Nat.le_of_ble_eq_true (by kernel_rfl)) | ((with_reducible refine (get_miss ?_).trans ?_); (focus kernel_rfl)) | ((with_reducible refine (get_pmiss ?_).trans ?_); (focus kernel_rfl)))); all_goals (conv => lhs; whnf; arg 1; whnf)) _ Tryd.underlying21 rfl ?_) | (refine wpList_kn_loadW KN (by rfl) 77 _ rfl _ rfl _ _ (by repeat (first | exact Has.here | refine Has.there ?_)) _ Tryd.underlying77 rfl (by kernel_rfl) ?_)) | ((refine gate_store (by rfl) ?_); first | (refine wpList_kn_storeW KN (by rfl) 48 _ _ rfl _ rfl _ rfl _ _ (by repeat (first | exact Repl.here | apply Repl.there)) (by kernel_rfl) (by kernel_rfl) (by kernel_rfl) ?_; clear KN; intro wx KN) | (refine wpList_kn_storeA KN (by rfl) 48 _ _ rfl _ _ rfl _ rfl _ _ (by repeat (first | exact Repl.here | apply Repl.there)) (by (try simp only [Array.size_setIfInBounds, putL_size]); first | exact Nat.le_of_ble_eq_true rfl | (simp; omega)) (by kernel_rfl) (by kernel_rfl) ?_; clear KN; intro wx KN) | (refine wpList_kn_storeW KN (by rfl) 77 _ _ rfl _ rfl _ rfl _ _ (by repeat (first | exact Repl.here | apply Repl.there)) (by kernel_rfl) (by kernel_rfl) (by kernel_rfl) ?_; clear KN; intro wx KN) | (refine wpList_kn_storeA KN (by rfl) 77 _ _ rfl _ _ rfl _ rfl _ _ (by repeat (first | exact Repl.here | apply Repl.there)) (by (try simp only [Array.size_setIfInBounds, putL_size]); first | exact Nat.le_of_ble_eq_true rfl | (simp; omega)) (by kernel_rfl) (by kernel_rfl) ?_; clear KN; intro wx KN)) | ((refine gate_new (by rfl) ?_); first | (refine wpList_kn_alloc KN (by rfl) 48 rfl 6 rfl #[.int .i64 0, .int .i64 0, .int .i64 0, .int .i64 0, .int .i32 0] (by kernel_rfl) ?_; clear KN; intro g6 wx hg6 KN) | (refine wpList_kn_alloc KN (by rfl) 80 rfl 7 rfl #[.pointer none, .slice none 0 0] (by kernel_rfl) ?_; clear KN; intro g7 wx hg7 KN) | (refine wpList_kn_alloc KN (by rfl) 48 rfl 9 rfl #[.int .i64 0, .int .i64 0, .int .i64 0, .int .i64 0, .int .i32 0] (by kernel_rfl) ?_; clear KN; intro g9 wx hg9 KN) | (refine wpList_kn_alloc KN (by rfl) 77 rfl 10 rfl #[.string ByteArray.empty, .string ByteArray.empty] (by kernel_rfl) ?_; clear KN; intro g10 wx hg10 KN))))
      clear x0 x1 x2 x3 x4
      obtain ⟨hf0, hf1⟩ := FT.cell (KN.at_ (g := t) (cs := fmtA) (T := 77) (by repeat (first | exact Has.here | refine Has.there ?_))) x.op o0 o1
      (try go_frame)
      have hwf : (Lit.int .i32 x.imm).wf = true := wf_32 i0 i1
      rcases Bool.eq_false_or_eq_true (uses x.op 116) with hu | hu
      · have HU := Lib.hid hu
        have HW := Lib.hid hwf
        clear hu hwf
        go_wp2_with (first | (go_at_call 28; refine (HasSuffix_op x.op 116 (.inr rfl) _ o0 o1).mono ?_; rintro e w' ⟨rfl, rfl⟩; rw [HU.out]) | ((with_reducible refine wpList_gate ?_); first | (refine wpList_kn_mapUpdate (n := cc) (D := D) KN rfl _ _ _ 74 rfl 4 (Maps.int_keyed Tryd.underlying21) Tryd.underlying74 rfl (by unfold maxLen; omega) (.int .i32 x.imm) (.bool true) (.int .i32 x.imm) rfl rfl (key_32 HW.out) (.lit (.bool true)) [] (plainElem_bool Tryd.underlying4 true) (by repeat (first | exact Repl.here | apply Repl.there)) ?_; clear KN; intro wx KN) | ((refine gate_load (by rfl) ?_); first | (refine wpList_kn_loadW KN (by rfl) 48 _ rfl _ rfl _ _ (by repeat (first | exact Has.here | refine Has.there ?_)) _ Tryd.underlying48 rfl (by kernel_rfl) ?_) | (refine wpList_kn_load1 KN (by rfl) 3 _ rfl _ _ rfl _ _ (by repeat (first | exact Has.here | refine Has.there ?_)) _ (by (repeat (first | ((with_reducible refine get_hit ?_); exact Nat.le_of_ble_eq_true (by kernel_rfl)) | ((with_reducible refine (get_miss ?_).trans ?_); (focus kernel_rfl)) | ((with_reducible refine (get_pmiss ?_).trans ?_); (focus kernel_rfl)))); all_goals (conv => lhs; whnf; arg 1; whnf)) _ Tryd.underlying3 rfl ?_) | (refine wpList_kn_load1 KN (by rfl) 9 _ rfl _ _ rfl _ _ (by repeat (first | exact Has.here | refine Has.there ?_)) _ (by (repeat (first | ((with_reducible refine get_hit ?_); exact Nat.le_of_ble_eq_true (by kernel_rfl)) | ((with_reducible refine (get_miss ?_).trans ?_); (focus kernel_rfl)) | ((with_reducible refine (get_pmiss ?_).trans ?_); (focus kernel_rfl)))); all_goals (conv => lhs; whnf; arg 1; whnf)) _ Tryd.underlying9 rfl ?_) | (refine wpList_kn_load1 KN (by rfl) 21 _ rfl _ _ rfl _ _ (by repeat (first | exact Has.here | refine Has.there ?_)) _ (by (repeat (first | ((with_reducible refine get_hit ?_); exact Nat.le_of_ble_eq_true (by kernel_rfl)) | ((with_reducible refine (get_miss ?_).trans ?_); (focus kernel_rfl)) | ((with_reducible refine (get_pmiss ?_).trans ?_); (focus kernel_rfl)))); all_goals (conv => lhs; whnf; arg 1; whnf)) _ Tryd.underlying21 rfl ?_) | (refine wpList_kn_loadW KN (by rfl) 77 _ rfl _ rfl _ _ (by repeat (first | exact Has.here | refine Has.there ?_)) _ Tryd.underlying77 rfl (by kernel_rfl) ?_)) | ((refine gate_store (by rfl) ?_); first | (refine wpList_kn_storeW KN (by rfl) 48 _ _ rfl _ rfl _ rfl _ _ (by repeat (first | exact Repl.here | apply Repl.there)) (by kernel_rfl) (by kernel_rfl) (by kernel_rfl) ?_; clear KN; intro wx KN) | (refine wpList_kn_storeA KN (by rfl) 48 _ _ rfl _ _ rfl _ rfl _ _ (by repeat (first | exact Repl.here | apply Repl.there)) (by (try simp only [Array.size_setIfInBounds, putL_size]); first | exact Nat.le_of_ble_eq_true rfl | (simp; omega)) (by kernel_rfl) (by kernel_rfl) ?_; clear KN; intro wx KN) | (refine wpList_kn_storeW KN (by rfl) 77 _ _ rfl _ rfl _ rfl _ _ (by repeat (first | exact Repl.here | apply Repl.there)) (by kernel_rfl) (by kernel_rfl) (by kernel_rfl) ?_; clear KN; intro wx KN) | (refine wpList_kn_storeA KN (by rfl) 77 _ _ rfl _ _ rfl _ rfl _ _ (by repeat (first | exact Repl.here | apply Repl.there)) (by (try simp only [Array.size_setIfInBounds, putL_size]); first | exact Nat.le_of_ble_eq_true rfl | (simp; omega)) (by kernel_rfl) (by kernel_rfl) ?_; clear KN; intro wx KN)) | ((refine gate_new (by rfl) ?_); first | (refine wpList_kn_alloc KN (by rfl) 48 rfl 6 rfl #[.int .i64 0, .int .i64 0, .int .i64 0, .int .i64 0, .int .i32 0] (by kernel_rfl) ?_; clear KN; intro g6 wx hg6 KN) | (refine wpList_kn_alloc KN (by rfl) 80 rfl 7 rfl #[.pointer none, .slice none 0 0] (by kernel_rfl) ?_; clear KN; intro g7 wx hg7 KN) | (refine wpList_kn_alloc KN (by rfl) 48 rfl 9 rfl #[.int .i64 0, .int .i64 0, .int .i64 0, .int .i64 0, .int .i32 0] (by kernel_rfl) ?_; clear KN; intro g9 wx hg9 KN) | (refine wpList_kn_alloc KN (by rfl) 77 rfl 10 rfl #[.string ByteArray.empty, .string ByteArray.empty] (by kernel_rfl) ?_; clear KN; intro g10 wx hg10 KN))))
        go_roundw
        case rel => exact ⟨k + 1, cc + 1, _, by go_num, by omega, by omega, by rw [take_snoc' HX.out]; exact HT.out.put HU.out HW.out, KN.drop .here⟩
        case measure => simp [intOf]; omega
      · have HU := Lib.hid hu
        clear hu hwf
        go_wp2_with (first | (go_at_call 28; refine (HasSuffix_op x.op 116 (.inr rfl) _ o0 o1).mono ?_; rintro e w' ⟨rfl, rfl⟩; rw [HU.out]) | ((with_reducible refine wpList_gate ?_); first | ((refine gate_load (by rfl) ?_); first | (refine wpList_kn_loadW KN (by rfl) 48 _ rfl _ rfl _ _ (by repeat (first | exact Has.here | refine Has.there ?_)) _ Tryd.underlying48 rfl (by kernel_rfl) ?_) | (refine wpList_kn_load1 KN (by rfl) 3 _ rfl _ _ rfl _ _ (by repeat (first | exact Has.here | refine Has.there ?_)) _ (by (repeat (first | ((with_reducible refine get_hit ?_); exact Nat.le_of_ble_eq_true (by kernel_rfl)) | ((with_reducible refine (get_miss ?_).trans ?_); (focus kernel_rfl)) | ((with_reducible refine (get_pmiss ?_).trans ?_); (focus kernel_rfl)))); all_goals (conv => lhs; whnf; arg 1; whnf)) _ Tryd.underlying3 rfl ?_) | (refine wpList_kn_load1 KN (by rfl) 9 _ rfl _ _ rfl _ _ (by repeat (first | exact Has.here | refine Has.there ?_)) _ (by (repeat (first | ((with_reducible refine get_hit ?_); exact Nat.le_of_ble_eq_true (by kernel_rfl)) | ((with_reducible refine (get_miss ?_).trans ?_); (focus kernel_rfl)) | ((with_reducible refine (get_pmiss ?_).trans ?_); (focus kernel_rfl)))); all_goals (conv => lhs; whnf; arg 1; whnf)) _ Tryd.underlying9 rfl ?_) | (refine wpList_kn_load1 KN (by rfl) 21 _ rfl _ _ rfl _ _ (by repeat (first | exact Has.here | refine Has.there ?_)) _ (by (repeat (first | ((with_reducible refine get_hit ?_); exact Nat.le_of_ble_eq_true (by kernel_rfl)) | ((with_reducible refine (get_miss ?_).trans ?_); (focus kernel_rfl)) | ((with_reducible refine (get_pmiss ?_).trans ?_); (focus kernel_rfl)))); all_goals (conv => lhs; whnf; arg 1; whnf)) _ Tryd.underlying21 rfl ?_) | (refine wpList_kn_loadW KN (by rfl) 77 _ rfl _ rfl _ _ (by repeat (first | exact Has.here | refine Has.there ?_)) _ Tryd.underlying77 rfl (by kernel_rfl) ?_)) | ((refine gate_store (by rfl) ?_); first | (refine wpList_kn_storeW KN (by rfl) 48 _ _ rfl _ rfl _ rfl _ _ (by repeat (first | exact Repl.here | apply Repl.there)) (by kernel_rfl) (by kernel_rfl) (by kernel_rfl) ?_; clear KN; intro wx KN) | (refine wpList_kn_storeA KN (by rfl) 48 _ _ rfl _ _ rfl _ rfl _ _ (by repeat (first | exact Repl.here | apply Repl.there)) (by (try simp only [Array.size_setIfInBounds, putL_size]); first | exact Nat.le_of_ble_eq_true rfl | (simp; omega)) (by kernel_rfl) (by kernel_rfl) ?_; clear KN; intro wx KN) | (refine wpList_kn_storeW KN (by rfl) 77 _ _ rfl _ rfl _ rfl _ _ (by repeat (first | exact Repl.here | apply Repl.there)) (by kernel_rfl) (by kernel_rfl) (by kernel_rfl) ?_; clear KN; intro wx KN) | (refine wpList_kn_storeA KN (by rfl) 77 _ _ rfl _ _ rfl _ rfl _ _ (by repeat (first | exact Repl.here | apply Repl.there)) (by (try simp only [Array.size_setIfInBounds, putL_size]); first | exact Nat.le_of_ble_eq_true rfl | (simp; omega)) (by kernel_rfl) (by kernel_rfl) ?_; clear KN; intro wx KN)) | ((refine gate_new (by rfl) ?_); first | (refine wpList_kn_alloc KN (by rfl) 48 rfl 6 rfl #[.int .i64 0, .int .i64 0, .int .i64 0, .int .i64 0, .int .i32 0] (by kernel_rfl) ?_; clear KN; intro g6 wx hg6 KN) | (refine wpList_kn_alloc KN (by rfl) 80 rfl 7 rfl #[.pointer none, .slice none 0 0] (by kernel_rfl) ?_; clear KN; intro g7 wx hg7 KN) | (refine wpList_kn_alloc KN (by rfl) 48 rfl 9 rfl #[.int .i64 0, .int .i64 0, .int .i64 0, .int .i64 0, .int .i32 0] (by kernel_rfl) ?_; clear KN; intro g9 wx hg9 KN) | (refine wpList_kn_alloc KN (by rfl) 77 rfl 10 rfl #[.string ByteArray.empty, .string ByteArray.empty] (by kernel_rfl) ?_; clear KN; intro g10 wx hg10 KN))))
        go_roundw
        case rel => exact ⟨k + 1, cc, _, by go_num, by omega, by omega, by rw [take_snoc' HX.out]; exact HT.out.skip HU.out, KN.drop .here⟩
        case measure => simp [intOf]; omega
    · have hkn : k = n := by omega
      have HT2 : Hid (∀ i : Int, D.atKey (.int .i32 i) (.lit (.bool false)) = .lit (.bool (p.any fun x => uses x.op 116 && decide (x.imm = i)))) := Lib.hid (by have := HT.out.at_; rw [List.take_of_length_le (by rw [← HN.out]; omega)] at this; exact this)
      clear HT
      go_upto_region 12 with (first | ((with_reducible refine wpList_gate ?_); first | ((refine gate_load (by rfl) ?_); first | (refine wpList_kn_loadW KN (by rfl) 48 _ rfl _ rfl _ _ (by repeat (first | exact Has.here | refine Has.there ?_)) _ Tryd.underlying48 rfl (by kernel_rfl) ?_) | (refine wpList_kn_load1 KN (by rfl) 3 _ rfl _ _ rfl _ _ (by repeat (first | exact Has.here | refine Has.there ?_)) _ (by (repeat (first | ((with_reducible refine get_hit ?_); exact Nat.le_of_ble_eq_true (by kernel_rfl)) | ((with_reducible refine (get_miss ?_).trans ?_); (focus kernel_rfl)) | ((with_reducible refine (get_pmiss ?_).trans ?_); (focus kernel_rfl)))); all_goals (conv => lhs; whnf; arg 1; whnf)) _ Tryd.underlying3 rfl ?_) | (refine wpList_kn_load1 KN (by rfl) 9 _ rfl _ _ rfl _ _ (by repeat (first | exact Has.here | refine Has.there ?_)) _ (by (repeat (first | ((with_reducible refine get_hit ?_); exact Nat.le_of_ble_eq_true (by kernel_rfl)) | ((with_reducible refine (get_miss ?_).trans ?_); (focus kernel_rfl)) | ((with_reducible refine (get_pmiss ?_).trans ?_); (focus kernel_rfl)))); all_goals (conv => lhs; whnf; arg 1; whnf)) _ Tryd.underlying9 rfl ?_) | (refine wpList_kn_load1 KN (by rfl) 21 _ rfl _ _ rfl _ _ (by repeat (first | exact Has.here | refine Has.there ?_)) _ (by (repeat (first | ((with_reducible refine get_hit ?_); exact Nat.le_of_ble_eq_true (by kernel_rfl)) | ((with_reducible refine (get_miss ?_).trans ?_); (focus kernel_rfl)) | ((with_reducible refine (get_pmiss ?_).trans ?_); (focus kernel_rfl)))); all_goals (conv => lhs; whnf; arg 1; whnf)) _ Tryd.underlying21 rfl ?_) | (refine wpList_kn_loadW KN (by rfl) 77 _ rfl _ rfl _ _ (by repeat (first | exact Has.here | refine Has.there ?_)) _ Tryd.underlying77 rfl (by kernel_rfl) ?_)) | ((refine gate_store (by rfl) ?_); first | (refine wpList_kn_storeW KN (by rfl) 48 _ _ rfl _ rfl _ rfl _ _ (by repeat (first | exact Repl.here | apply Repl.there)) (by kernel_rfl) (by kernel_rfl) (by kernel_rfl) ?_; clear KN; intro wx KN) | (refine wpList_kn_storeA KN (by rfl) 48 _ _ rfl _ _ rfl _ rfl _ _ (by repeat (first | exact Repl.here | apply Repl.there)) (by (try simp only [Array.size_setIfInBounds, putL_size]); first | exact Nat.le_of_ble_eq_true rfl | (simp; omega)) (by kernel_rfl) (by kernel_rfl) ?_; clear KN; intro wx KN) | (refine wpList_kn_storeW KN (by rfl) 77 _ _ rfl _ rfl _ rfl _ _ (by repeat (first | exact Repl.here | apply Repl.there)) (by kernel_rfl) (by kernel_rfl) (by kernel_rfl) ?_; clear KN; intro wx KN) | (refine wpList_kn_storeA KN (by rfl) 77 _ _ rfl _ _ rfl _ rfl _ _ (by repeat (first | exact Repl.here | apply Repl.there)) (by (try simp only [Array.size_setIfInBounds, putL_size]); first | exact Nat.le_of_ble_eq_true rfl | (simp; omega)) (by kernel_rfl) (by kernel_rfl) ?_; clear KN; intro wx KN)) | ((refine gate_new (by rfl) ?_); first | (refine wpList_kn_alloc KN (by rfl) 48 rfl 6 rfl #[.int .i64 0, .int .i64 0, .int .i64 0, .int .i64 0, .int .i32 0] (by kernel_rfl) ?_; clear KN; intro g6 wx hg6 KN) | (refine wpList_kn_alloc KN (by rfl) 80 rfl 7 rfl #[.pointer none, .slice none 0 0] (by kernel_rfl) ?_; clear KN; intro g7 wx hg7 KN) | (refine wpList_kn_alloc KN (by rfl) 48 rfl 9 rfl #[.int .i64 0, .int .i64 0, .int .i64 0, .int .i64 0, .int .i32 0] (by kernel_rfl) ?_; clear KN; intro g9 wx hg9 KN) | (refine wpList_kn_alloc KN (by rfl) 77 rfl 10 rfl #[.string ByteArray.empty, .string ByteArray.empty] (by kernel_rfl) ?_; clear KN; intro g10 wx hg10 KN))))
      (try go_frame)
      go_wp2_with fail
      have HREL2 : Hid (Dis2 p n t m g7 cc D w (.int .i64 0) wx) := Lib.hid ⟨0, .pointer none, .slice none 0 0, [], rfl, Nat.zero_le _, .inl rfl, .nil, KN⟩
      clear KN hg7
      go_loopw [36] (fun i wr => Dis2 p n t m g7 cc D w i wr) (fun i _ => n - (intOf i).toNat)
      case atStart => exact HREL2.out
      case round =>
        clear hk hcc hlt hkn
        obtain ⟨k, pb, vb, ol, rfl, hk, hpb, OW, KN⟩ := hrel
        by_cases hlt : k < n
        · obtain ⟨x, hx⟩ : ∃ x, p[k]? = some x := ⟨_, List.getElem?_eq_getElem (by rw [← HN.out]; exact hlt)⟩
          obtain ⟨a', c', hv, hcells⟩ := (H.out.below KN.toBelow).form
          simp only [Value.slice.injEq] at hv
          obtain ⟨g2, off, hg2, hgb, hc1, hc2, x0, x1, x2, x3, x4⟩ := hcells k x hx
          obtain ⟨rfl, _, rfl⟩ := hv
          subst hg2
          have hxo := HOK.out x (List.mem_of_getElem? hx)
          obtain ⟨o0, o1⟩ := hxo.op
          have HXO := Lib.hid hxo
          have HX := Lib.hid hx
          have HO := Lib.hid OW
          have HPB := Lib.hid hpb
          clear hx hcells hc1 hxo OW hpb
          unfold maxLen at hc2
          go_upto_region 15 with (first | ((with_reducible refine wpList_gate ?_); first | ((refine gate_load (by rfl) ?_); first | (refine wpList_kn_loadW KN (by rfl) 48 _ rfl _ rfl _ _ (by repeat (first | exact Has.here | refine Has.there ?_)) _ Tryd.underlying48 rfl (by kernel_rfl) ?_) | (refine wpList_kn_load1 KN (by rfl) 3 _ rfl _ _ rfl _ _ (by repeat (first | exact Has.here | refine Has.there ?_)) _ (by (repeat (first | ((with_reducible refine get_hit ?_); exact Nat.le_of_ble_eq_true (by kernel_rfl)) | ((with_reducible refine (get_miss ?_).trans ?_); (focus kernel_rfl)) | ((with_reducible refine (get_pmiss ?_).trans ?_); (focus kernel_rfl)))); all_goals (conv => lhs; whnf; arg 1; whnf)) _ Tryd.underlying3 rfl ?_) | (refine wpList_kn_load1 KN (by rfl) 9 _ rfl _ _ rfl _ _ (by repeat (first | exact Has.here | refine Has.there ?_)) _ (by (repeat (first | ((with_reducible refine get_hit ?_); exact Nat.le_of_ble_eq_true (by kernel_rfl)) | ((with_reducible refine (get_miss ?_).trans ?_); (focus kernel_rfl)) | ((with_reducible refine (get_pmiss ?_).trans ?_); (focus kernel_rfl)))); all_goals (conv => lhs; whnf; arg 1; whnf)) _ Tryd.underlying9 rfl ?_) | (refine wpList_kn_load1 KN (by rfl) 21 _ rfl _ _ rfl _ _ (by repeat (first | exact Has.here | refine Has.there ?_)) _ (by (repeat (first | ((with_reducible refine get_hit ?_); exact Nat.le_of_ble_eq_true (by kernel_rfl)) | ((with_reducible refine (get_miss ?_).trans ?_); (focus kernel_rfl)) | ((with_reducible refine (get_pmiss ?_).trans ?_); (focus kernel_rfl)))); all_goals (conv => lhs; whnf; arg 1; whnf)) _ Tryd.underlying21 rfl ?_) | (refine wpList_kn_loadW KN (by rfl) 77 _ rfl _ rfl _ _ (by repeat (first | exact Has.here | refine Has.there ?_)) _ Tryd.underlying77 rfl (by kernel_rfl) ?_)) | ((refine gate_store (by rfl) ?_); first | (refine wpList_kn_storeW KN (by rfl) 48 _ _ rfl _ rfl _ rfl _ _ (by repeat (first | exact Repl.here | apply Repl.there)) (by kernel_rfl) (by kernel_rfl) (by kernel_rfl) ?_; clear KN; intro wx KN) | (refine wpList_kn_storeA KN (by rfl) 48 _ _ rfl _ _ rfl _ rfl _ _ (by repeat (first | exact Repl.here | apply Repl.there)) (by (try simp only [Array.size_setIfInBounds, putL_size]); first | exact Nat.le_of_ble_eq_true rfl | (simp; omega)) (by kernel_rfl) (by kernel_rfl) ?_; clear KN; intro wx KN) | (refine wpList_kn_storeW KN (by rfl) 77 _ _ rfl _ rfl _ rfl _ _ (by repeat (first | exact Repl.here | apply Repl.there)) (by kernel_rfl) (by kernel_rfl) (by kernel_rfl) ?_; clear KN; intro wx KN) | (refine wpList_kn_storeA KN (by rfl) 77 _ _ rfl _ _ rfl _ rfl _ _ (by repeat (first | exact Repl.here | apply Repl.there)) (by (try simp only [Array.size_setIfInBounds, putL_size]); first | exact Nat.le_of_ble_eq_true rfl | (simp; omega)) (by kernel_rfl) (by kernel_rfl) ?_; clear KN; intro wx KN)) | ((refine gate_new (by rfl) ?_); first | (refine wpList_kn_alloc KN (by rfl) 48 rfl 6 rfl #[.int .i64 0, .int .i64 0, .int .i64 0, .int .i64 0, .int .i32 0] (by kernel_rfl) ?_; clear KN; intro g6 wx hg6 KN) | (refine wpList_kn_alloc KN (by rfl) 80 rfl 7 rfl #[.pointer none, .slice none 0 0] (by kernel_rfl) ?_; clear KN; intro g7 wx hg7 KN) | (refine wpList_kn_alloc KN (by rfl) 48 rfl 9 rfl #[.int .i64 0, .int .i64 0, .int .i64 0, .int .i64 0, .int .i32 0] (by kernel_rfl) ?_; clear KN; intro g9 wx hg9 KN) | (refine wpList_kn_alloc KN (by rfl) 77 rfl 10 rfl #[.string ByteArray.empty, .string ByteArray.empty] (by kernel_rfl) ?_; clear KN; intro g10 wx hg10 KN))))
          clear x0 x1 x2 x3 x4
          (try go_frame)
          have HTL : Hid ((txtK p k).length ≤ 103 * k) := Lib.hid (txtK_len HOK.out (by rw [← HN.out]; exact n2) k (by rw [← HN.out]; exact hk))
          have HLL : Hid ((labText p k).length ≤ 24) := Lib.hid (labText_len p k (by omega))
          obtain ⟨ui, hui⟩ : ∃ u, u = str (immText (k : Int)) := ⟨_, rfl⟩
          have us : ui.size ≤ 21 := by rw [hui, str_size]; exact immText_len _ (by omega) (by omega)
          have HUI := Lib.hid hui
          clear hui
          have hlabb : targeted p k = true ∨ targeted p k = false := by cases targeted p k <;> simp
          rcases hlabb with ht | ht
          · have HTG : Hid (D.atKey (.int .i32 (k : Int)) (.lit (.bool false)) = .lit (.bool true)) := Lib.hid (by rw [HT2.out]; exact congrArg (fun b => DataW.lit (.bool b)) ht)
            have hlab : labText p k = [76] ++ immText (k : Int) ++ [58, 32] := by unfold labText; rw [if_pos ht, imm_nat (by omega), Int.toNat_natCast]; rfl
            have HLB := Lib.hid hlab
            clear ht hlab
            go_upto_region 17 with (first | (go_at_call 30; refine (Itoa_txt _ (by omega) (by omega) _ (HP.out.below KN.toBelow)).mono ?_; rintro e w' ⟨rfl, hb⟩; replace KN := KN.below hb; clear hb; rw [← HUI.out]) | (go_at_call 29; refine (WriteString_kn (f := fun o => (g9, At x.cells 48) :: (m, _) :: (t, _) :: o) _ (KN.perm (p2 _ _ _)) HPB.out HO.out (.cons _ (.cons _ (.cons _ .id))) (by rw [bytesL_len]; have := HTL.out; have h3 := size_lab ui us; omega)).mono ?_; rintro e wx ⟨rfl, v1, ol1, OW1, K2⟩; clear KN; have KN := K2.perm (p2 _ _ _); clear K2; have HO1 := Lib.hid OW1; clear OW1) | ((with_reducible refine wpList_gate ?_); first | (at_lookup; refine wpList_kn_lookupB KN rfl _ _ 74 rfl 4 (Maps.int_keyed Tryd.underlying21) Tryd.underlying74 Tryd.underlying4 (zeroB _) rfl (by repeat (first | exact Has.here | refine Has.there ?_)) (.int .i32 (k : Int)) (.int .i32 (k : Int)) rfl (key_32 (wf_32 (by omega) (by omega))) true HTG.out ?_) | ((refine gate_load (by rfl) ?_); first | (refine wpList_kn_loadW KN (by rfl) 48 _ rfl _ rfl _ _ (by repeat (first | exact Has.here | refine Has.there ?_)) _ Tryd.underlying48 rfl (by kernel_rfl) ?_) | (refine wpList_kn_load1 KN (by rfl) 3 _ rfl _ _ rfl _ _ (by repeat (first | exact Has.here | refine Has.there ?_)) _ (by (repeat (first | ((with_reducible refine get_hit ?_); exact Nat.le_of_ble_eq_true (by kernel_rfl)) | ((with_reducible refine (get_miss ?_).trans ?_); (focus kernel_rfl)) | ((with_reducible refine (get_pmiss ?_).trans ?_); (focus kernel_rfl)))); all_goals (conv => lhs; whnf; arg 1; whnf)) _ Tryd.underlying3 rfl ?_) | (refine wpList_kn_load1 KN (by rfl) 9 _ rfl _ _ rfl _ _ (by repeat (first | exact Has.here | refine Has.there ?_)) _ (by (repeat (first | ((with_reducible refine get_hit ?_); exact Nat.le_of_ble_eq_true (by kernel_rfl)) | ((with_reducible refine (get_miss ?_).trans ?_); (focus kernel_rfl)) | ((with_reducible refine (get_pmiss ?_).trans ?_); (focus kernel_rfl)))); all_goals (conv => lhs; whnf; arg 1; whnf)) _ Tryd.underlying9 rfl ?_) | (refine wpList_kn_load1 KN (by rfl) 21 _ rfl _ _ rfl _ _ (by repeat (first | exact Has.here | refine Has.there ?_)) _ (by (repeat (first | ((with_reducible refine get_hit ?_); exact Nat.le_of_ble_eq_true (by kernel_rfl)) | ((with_reducible refine (get_miss ?_).trans ?_); (focus kernel_rfl)) | ((with_reducible refine (get_pmiss ?_).trans ?_); (focus kernel_rfl)))); all_goals (conv => lhs; whnf; arg 1; whnf)) _ Tryd.underlying21 rfl ?_) | (refine wpList_kn_loadW KN (by rfl) 77 _ rfl _ rfl _ _ (by repeat (first | exact Has.here | refine Has.there ?_)) _ Tryd.underlying77 rfl (by kernel_rfl) ?_)) | ((refine gate_store (by rfl) ?_); first | (refine wpList_kn_storeW KN (by rfl) 48 _ _ rfl _ rfl _ rfl _ _ (by repeat (first | exact Repl.here | apply Repl.there)) (by kernel_rfl) (by kernel_rfl) (by kernel_rfl) ?_; clear KN; intro wx KN) | (refine wpList_kn_storeA KN (by rfl) 48 _ _ rfl _ _ rfl _ rfl _ _ (by repeat (first | exact Repl.here | apply Repl.there)) (by (try simp only [Array.size_setIfInBounds, putL_size]); first | exact Nat.le_of_ble_eq_true rfl | (simp; omega)) (by kernel_rfl) (by kernel_rfl) ?_; clear KN; intro wx KN) | (refine wpList_kn_storeW KN (by rfl) 77 _ _ rfl _ rfl _ rfl _ _ (by repeat (first | exact Repl.here | apply Repl.there)) (by kernel_rfl) (by kernel_rfl) (by kernel_rfl) ?_; clear KN; intro wx KN) | (refine wpList_kn_storeA KN (by rfl) 77 _ _ rfl _ _ rfl _ rfl _ _ (by repeat (first | exact Repl.here | apply Repl.there)) (by (try simp only [Array.size_setIfInBounds, putL_size]); first | exact Nat.le_of_ble_eq_true rfl | (simp; omega)) (by kernel_rfl) (by kernel_rfl) ?_; clear KN; intro wx KN)) | ((refine gate_new (by rfl) ?_); first | (refine wpList_kn_alloc KN (by rfl) 48 rfl 6 rfl #[.int .i64 0, .int .i64 0, .int .i64 0, .int .i64 0, .int .i32 0] (by kernel_rfl) ?_; clear KN; intro g6 wx hg6 KN) | (refine wpList_kn_alloc KN (by rfl) 80 rfl 7 rfl #[.pointer none, .slice none 0 0] (by kernel_rfl) ?_; clear KN; intro g7 wx hg7 KN) | (refine wpList_kn_alloc KN (by rfl) 48 rfl 9 rfl #[.int .i64 0, .int .i64 0, .int .i64 0, .int .i64 0, .int .i32 0] (by kernel_rfl) ?_; clear KN; intro g9 wx hg9 KN) | (refine wpList_kn_alloc KN (by rfl) 77 rfl 10 rfl #[.string ByteArray.empty, .string ByteArray.empty] (by kernel_rfl) ?_; clear KN; intro g10 wx hg10 KN))))
            have hB : DisB t m g7 cc g9 D x w (txtK p k ++ labText p k) wx := by
              refine ⟨_, v1, ol1, .inr rfl, ?_, KN⟩
              have he : (({ data := #[76] } : ByteArray) ++ ui ++ ({ data := #[58, 32] } : ByteArray)) = str (labText p k) := by rw [HLB.out, HUI.out, ← str_app, ← str_app]; rfl
              rw [bytesL_app, ← bytesL_str (labText p k), ← he]
              exact HO1.out
            clear KN HO1
            obtain ⟨pb1, vb1, ol2, hpb1, OWB, KN⟩ := hB
            have HPB1 := Lib.hid hpb1
            have HOB := Lib.hid OWB
            clear hpb1 OWB
            (try go_frame)
            obtain ⟨hf0, hf1⟩ := FT.cell (KN.at_ (g := t) (cs := fmtA) (T := 77) (by repeat (first | exact Has.here | refine Has.there ?_))) x.op o0 o1
            go_upto_region 18 with (first | ((with_reducible refine wpList_gate ?_); first | ((refine gate_load (by rfl) ?_); first | (refine wpList_kn_loadW KN (by rfl) 48 _ rfl _ rfl _ _ (by repeat (first | exact Has.here | refine Has.there ?_)) _ Tryd.underlying48 rfl (by kernel_rfl) ?_) | (refine wpList_kn_load1 KN (by rfl) 3 _ rfl _ _ rfl _ _ (by repeat (first | exact Has.here | refine Has.there ?_)) _ (by (repeat (first | ((with_reducible refine get_hit ?_); exact Nat.le_of_ble_eq_true (by kernel_rfl)) | ((with_reducible refine (get_miss ?_).trans ?_); (focus kernel_rfl)) | ((with_reducible refine (get_pmiss ?_).trans ?_); (focus kernel_rfl)))); all_goals (conv => lhs; whnf; arg 1; whnf)) _ Tryd.underlying3 rfl ?_) | (refine wpList_kn_load1 KN (by rfl) 9 _ rfl _ _ rfl _ _ (by repeat (first | exact Has.here | refine Has.there ?_)) _ (by (repeat (first | ((with_reducible refine get_hit ?_); exact Nat.le_of_ble_eq_true (by kernel_rfl)) | ((with_reducible refine (get_miss ?_).trans ?_); (focus kernel_rfl)) | ((with_reducible refine (get_pmiss ?_).trans ?_); (focus kernel_rfl)))); all_goals (conv => lhs; whnf; arg 1; whnf)) _ Tryd.underlying9 rfl ?_) | (refine wpList_kn_load1 KN (by rfl) 21 _ rfl _ _ rfl _ _ (by repeat (first | exact Has.here | refine Has.there ?_)) _ (by (repeat (first | ((with_reducible refine get_hit ?_); exact Nat.le_of_ble_eq_true (by kernel_rfl)) | ((with_reducible refine (get_miss ?_).trans ?_); (focus kernel_rfl)) | ((with_reducible refine (get_pmiss ?_).trans ?_); (focus kernel_rfl)))); all_goals (conv => lhs; whnf; arg 1; whnf)) _ Tryd.underlying21 rfl ?_) | (refine wpList_kn_loadW KN (by rfl) 77 _ rfl _ rfl _ _ (by repeat (first | exact Has.here | refine Has.there ?_)) _ Tryd.underlying77 rfl (by kernel_rfl) ?_)) | ((refine gate_store (by rfl) ?_); first | (refine wpList_kn_storeW KN (by rfl) 48 _ _ rfl _ rfl _ rfl _ _ (by repeat (first | exact Repl.here | apply Repl.there)) (by kernel_rfl) (by kernel_rfl) (by kernel_rfl) ?_; clear KN; intro wx KN) | (refine wpList_kn_storeA KN (by rfl) 48 _ _ rfl _ _ rfl _ rfl _ _ (by repeat (first | exact Repl.here | apply Repl.there)) (by (try simp only [Array.size_setIfInBounds, putL_size]); first | exact Nat.le_of_ble_eq_true rfl | (simp; omega)) (by kernel_rfl) (by kernel_rfl) ?_; clear KN; intro wx KN) | (refine wpList_kn_storeW KN (by rfl) 77 _ _ rfl _ rfl _ rfl _ _ (by repeat (first | exact Repl.here | apply Repl.there)) (by kernel_rfl) (by kernel_rfl) (by kernel_rfl) ?_; clear KN; intro wx KN) | (refine wpList_kn_storeA KN (by rfl) 77 _ _ rfl _ _ rfl _ rfl _ _ (by repeat (first | exact Repl.here | apply Repl.there)) (by (try simp only [Array.size_setIfInBounds, putL_size]); first | exact Nat.le_of_ble_eq_true rfl | (simp; omega)) (by kernel_rfl) (by kernel_rfl) ?_; clear KN; intro wx KN)) | ((refine gate_new (by rfl) ?_); first | (refine wpList_kn_alloc KN (by rfl) 48 rfl 6 rfl #[.int .i64 0, .int .i64 0, .int .i64 0, .int .i64 0, .int .i32 0] (by kernel_rfl) ?_; clear KN; intro g6 wx hg6 KN) | (refine wpList_kn_alloc KN (by rfl) 80 rfl 7 rfl #[.pointer none, .slice none 0 0] (by kernel_rfl) ?_; clear KN; intro g7 wx hg7 KN) | (refine wpList_kn_alloc KN (by rfl) 48 rfl 9 rfl #[.int .i64 0, .int .i64 0, .int .i64 0, .int .i64 0, .int .i32 0] (by kernel_rfl) ?_; clear KN; intro g9 wx hg9 KN) | (refine wpList_kn_alloc KN (by rfl) 77 rfl 10 rfl #[.string ByteArray.empty, .string ByteArray.empty] (by kernel_rfl) ?_; clear KN; intro g10 wx hg10 KN))))
            (try go_frame)
            clear hf0 hf1
            obtain ⟨um, hum⟩ : ∃ u, u = str (mnemOf x.op) := ⟨_, rfl⟩
            obtain ⟨uo, huo⟩ : ∃ u, u = str (operandsOf x.op) := ⟨_, rfl⟩
            have sm : um.size ≤ 5 := by rw [hum, str_size]; exact mnemOf_len o0 o1
            have so : uo.size ≤ 3 := by rw [huo, str_size]; exact operands_len x.op o0 o1
            replace KN := KN.as_ g10 #[.string um, .string uo] (by repeat (first | exact Repl.here | apply Repl.there)) (by rw [hum, huo])
            obtain ⟨bs, hbs⟩ : ∃ bs, bs = txtK p k ++ labText p k := ⟨_, rfl⟩
            have HBS := Lib.hid hbs
            have HBL : Hid (bs.length ≤ 103 * k + 24) := Lib.hid (by have := HTL.out; have := HLL.out; rw [hbs, List.length_append]; omega)
            rw [← hbs] at HOB
            have HUM := Lib.hid hum
            have HUO := Lib.hid huo
            clear hum huo hbs
            go_upto_block 4 with (first | (go_at_call 29; refine (WriteString_kn (f := fun o => (g10, _) :: (g9, _) :: (m, _) :: (t, _) :: o) _ (KN.perm (p3 _ _ _ _)) HPB1.out HOB.out (.cons _ (.cons _ (.cons _ (.cons _ .id)))) (by rw [bytesL_len]; have := HBL.out; omega)).mono ?_; rintro e wx ⟨rfl, v4, ol4, OW4, K2⟩; clear KN; have KN := K2.perm (p3 _ _ _ _).symm; clear K2; have HO4 := Lib.hid OW4; clear OW4) | ((with_reducible refine wpList_gate ?_); first | ((refine gate_load (by rfl) ?_); first | (refine wpList_kn_loadW KN (by rfl) 48 _ rfl _ rfl _ _ (by repeat (first | exact Has.here | refine Has.there ?_)) _ Tryd.underlying48 rfl (by kernel_rfl) ?_) | (refine wpList_kn_load1 KN (by rfl) 3 _ rfl _ _ rfl _ _ (by repeat (first | exact Has.here | refine Has.there ?_)) _ (by (repeat (first | ((with_reducible refine get_hit ?_); exact Nat.le_of_ble_eq_true (by kernel_rfl)) | ((with_reducible refine (get_miss ?_).trans ?_); (focus kernel_rfl)) | ((with_reducible refine (get_pmiss ?_).trans ?_); (focus kernel_rfl)))); all_goals (conv => lhs; whnf; arg 1; whnf)) _ Tryd.underlying3 rfl ?_) | (refine wpList_kn_load1 KN (by rfl) 9 _ rfl _ _ rfl _ _ (by repeat (first | exact Has.here | refine Has.there ?_)) _ (by (repeat (first | ((with_reducible refine get_hit ?_); exact Nat.le_of_ble_eq_true (by kernel_rfl)) | ((with_reducible refine (get_miss ?_).trans ?_); (focus kernel_rfl)) | ((with_reducible refine (get_pmiss ?_).trans ?_); (focus kernel_rfl)))); all_goals (conv => lhs; whnf; arg 1; whnf)) _ Tryd.underlying9 rfl ?_) | (refine wpList_kn_load1 KN (by rfl) 21 _ rfl _ _ rfl _ _ (by repeat (first | exact Has.here | refine Has.there ?_)) _ (by (repeat (first | ((with_reducible refine get_hit ?_); exact Nat.le_of_ble_eq_true (by kernel_rfl)) | ((with_reducible refine (get_miss ?_).trans ?_); (focus kernel_rfl)) | ((with_reducible refine (get_pmiss ?_).trans ?_); (focus kernel_rfl)))); all_goals (conv => lhs; whnf; arg 1; whnf)) _ Tryd.underlying21 rfl ?_) | (refine wpList_kn_loadW KN (by rfl) 77 _ rfl _ rfl _ _ (by repeat (first | exact Has.here | refine Has.there ?_)) _ Tryd.underlying77 rfl (by kernel_rfl) ?_)) | ((refine gate_store (by rfl) ?_); first | (refine wpList_kn_storeW KN (by rfl) 48 _ _ rfl _ rfl _ rfl _ _ (by repeat (first | exact Repl.here | apply Repl.there)) (by kernel_rfl) (by kernel_rfl) (by kernel_rfl) ?_; clear KN; intro wx KN) | (refine wpList_kn_storeA KN (by rfl) 48 _ _ rfl _ _ rfl _ rfl _ _ (by repeat (first | exact Repl.here | apply Repl.there)) (by (try simp only [Array.size_setIfInBounds, putL_size]); first | exact Nat.le_of_ble_eq_true rfl | (simp; omega)) (by kernel_rfl) (by kernel_rfl) ?_; clear KN; intro wx KN) | (refine wpList_kn_storeW KN (by rfl) 77 _ _ rfl _ rfl _ rfl _ _ (by repeat (first | exact Repl.here | apply Repl.there)) (by kernel_rfl) (by kernel_rfl) (by kernel_rfl) ?_; clear KN; intro wx KN) | (refine wpList_kn_storeA KN (by rfl) 77 _ _ rfl _ _ rfl _ rfl _ _ (by repeat (first | exact Repl.here | apply Repl.there)) (by (try simp only [Array.size_setIfInBounds, putL_size]); first | exact Nat.le_of_ble_eq_true rfl | (simp; omega)) (by kernel_rfl) (by kernel_rfl) ?_; clear KN; intro wx KN)) | ((refine gate_new (by rfl) ?_); first | (refine wpList_kn_alloc KN (by rfl) 48 rfl 6 rfl #[.int .i64 0, .int .i64 0, .int .i64 0, .int .i64 0, .int .i32 0] (by kernel_rfl) ?_; clear KN; intro g6 wx hg6 KN) | (refine wpList_kn_alloc KN (by rfl) 80 rfl 7 rfl #[.pointer none, .slice none 0 0] (by kernel_rfl) ?_; clear KN; intro g7 wx hg7 KN) | (refine wpList_kn_alloc KN (by rfl) 48 rfl 9 rfl #[.int .i64 0, .int .i64 0, .int .i64 0, .int .i64 0, .int .i32 0] (by kernel_rfl) ?_; clear KN; intro g9 wx hg9 KN) | (refine wpList_kn_alloc KN (by rfl) 77 rfl 10 rfl #[.string ByteArray.empty, .string ByteArray.empty] (by kernel_rfl) ?_; clear KN; intro g10 wx hg10 KN))))
            have HREL3 : Hid (DisC t m g7 cc g9 g10 D x um uo w (bs ++ mnemOf x.op ++ opsK x 0) wx) := Lib.hid ⟨_, ol4, by rw [bytesL_app, bytesL_app, show bytesL (opsK x 0) = [] from rfl, List.append_nil, ← bytesL_str (mnemOf x.op), ← HUM.out]; exact HO4.out, KN⟩
            clear KN HO4
            have HMN : Hid ((mnemOf x.op).length ≤ 5) := Lib.hid (mnemOf_len o0 o1)
            go_wp2_with fail
            go_loopw [11, 61] (fun _ j wr => ∃ jj : Nat, j = .int .i64 (jj : Int) ∧ jj ≤ uo.size ∧ DisC t m g7 cc g9 g10 D x um uo w (bs ++ mnemOf x.op ++ opsK x jj) wr) (fun _ j _ => uo.size - (intOf j).toNat)
            case atStart => exact ⟨0, rfl, Nat.zero_le _, HREL3.out⟩
            case round =>
              obtain ⟨j, rfl, hj, v3, ol3, OW3, KN⟩ := hrel
              have HO3 := Lib.hid OW3
              clear OW3
              by_cases hjl : j < uo.size
              · have hul : uo.size = (operandsOf x.op).length := by rw [HUO.out, str_size]
                obtain ⟨kk, hk5, hix, hkl⟩ := op_kind o0 o1 (j := j) (by rw [← hul]; exact hjl)
                have hg := str_get HUO.out j hjl
                have HK3 : Hid ((opsK x j).length ≤ 72) := Lib.hid (by have := opsK_len x HXO.out j; omega)
                obtain ⟨ut, hut⟩ : ∃ u, u = str (opText ((operandsOf x.op).getD j 0) x) := ⟨_, rfl⟩
                have st : ut.size ≤ 22 := by rw [hut, str_size]; exact opText_len _ x HXO.out
                rw [← hg] at hix
                have HIX := Lib.hid hix
                have HKL := Lib.hid hkl
                have HUT := Lib.hid hut
                have HK5 := Lib.hid hk5
                have HXF : Hid x.fits := Lib.hid (H.out.2 x (List.mem_of_getElem? HX.out))
                clear hul hg hix hkl hut hk5
                rcases Nat.eq_zero_or_pos j with hj0 | hj0
                · have hjb : ((j : Int) == 0) = true := by rw [beq_iff_eq]; omega
                  have hsp : opsK x (j + 1) = opsK x j ++ ([32] ++ opText ((operandsOf x.op).getD j 0) x) := by rw [hj0]; rfl
                  have HSP := Lib.hid hsp
                  clear hj0 hsp
                  go_upto_region 25 with (first | (go_at_call 29; refine (WriteString_kn (f := fun o => (g10, _) :: (g9, _) :: (m, _) :: (t, _) :: o) (str [32]) (KN.perm (p3 _ _ _ _)) (.inr rfl) HO3.out (.cons _ (.cons _ (.cons _ (.cons _ .id)))) (by rw [bytesL_len, str_size]; have := HBL.out; have := HK3.out; have := HMN.out; rw [List.length_append, List.length_append]; show _ + 1 ≤ _; omega)).mono ?_; rintro e wx ⟨rfl, v5, ol5, OW5, K2⟩; clear KN; have KN := K2.perm (p3 _ _ _ _).symm; clear K2; have HO5 := Lib.hid OW5; clear OW5) | ((with_reducible refine wpList_gate ?_); first | ((refine gate_load (by rfl) ?_); first | (refine wpList_kn_loadW KN (by rfl) 48 _ rfl _ rfl _ _ (by repeat (first | exact Has.here | refine Has.there ?_)) _ Tryd.underlying48 rfl (by kernel_rfl) ?_) | (refine wpList_kn_load1 KN (by rfl) 3 _ rfl _ _ rfl _ _ (by repeat (first | exact Has.here | refine Has.there ?_)) _ (by (repeat (first | ((with_reducible refine get_hit ?_); exact Nat.le_of_ble_eq_true (by kernel_rfl)) | ((with_reducible refine (get_miss ?_).trans ?_); (focus kernel_rfl)) | ((with_reducible refine (get_pmiss ?_).trans ?_); (focus kernel_rfl)))); all_goals (conv => lhs; whnf; arg 1; whnf)) _ Tryd.underlying3 rfl ?_) | (refine wpList_kn_load1 KN (by rfl) 9 _ rfl _ _ rfl _ _ (by repeat (first | exact Has.here | refine Has.there ?_)) _ (by (repeat (first | ((with_reducible refine get_hit ?_); exact Nat.le_of_ble_eq_true (by kernel_rfl)) | ((with_reducible refine (get_miss ?_).trans ?_); (focus kernel_rfl)) | ((with_reducible refine (get_pmiss ?_).trans ?_); (focus kernel_rfl)))); all_goals (conv => lhs; whnf; arg 1; whnf)) _ Tryd.underlying9 rfl ?_) | (refine wpList_kn_load1 KN (by rfl) 21 _ rfl _ _ rfl _ _ (by repeat (first | exact Has.here | refine Has.there ?_)) _ (by (repeat (first | ((with_reducible refine get_hit ?_); exact Nat.le_of_ble_eq_true (by kernel_rfl)) | ((with_reducible refine (get_miss ?_).trans ?_); (focus kernel_rfl)) | ((with_reducible refine (get_pmiss ?_).trans ?_); (focus kernel_rfl)))); all_goals (conv => lhs; whnf; arg 1; whnf)) _ Tryd.underlying21 rfl ?_) | (refine wpList_kn_loadW KN (by rfl) 77 _ rfl _ rfl _ _ (by repeat (first | exact Has.here | refine Has.there ?_)) _ Tryd.underlying77 rfl (by kernel_rfl) ?_)) | ((refine gate_store (by rfl) ?_); first | (refine wpList_kn_storeW KN (by rfl) 48 _ _ rfl _ rfl _ rfl _ _ (by repeat (first | exact Repl.here | apply Repl.there)) (by kernel_rfl) (by kernel_rfl) (by kernel_rfl) ?_; clear KN; intro wx KN) | (refine wpList_kn_storeA KN (by rfl) 48 _ _ rfl _ _ rfl _ rfl _ _ (by repeat (first | exact Repl.here | apply Repl.there)) (by (try simp only [Array.size_setIfInBounds, putL_size]); first | exact Nat.le_of_ble_eq_true rfl | (simp; omega)) (by kernel_rfl) (by kernel_rfl) ?_; clear KN; intro wx KN) | (refine wpList_kn_storeW KN (by rfl) 77 _ _ rfl _ rfl _ rfl _ _ (by repeat (first | exact Repl.here | apply Repl.there)) (by kernel_rfl) (by kernel_rfl) (by kernel_rfl) ?_; clear KN; intro wx KN) | (refine wpList_kn_storeA KN (by rfl) 77 _ _ rfl _ _ rfl _ rfl _ _ (by repeat (first | exact Repl.here | apply Repl.there)) (by (try simp only [Array.size_setIfInBounds, putL_size]); first | exact Nat.le_of_ble_eq_true rfl | (simp; omega)) (by kernel_rfl) (by kernel_rfl) ?_; clear KN; intro wx KN)) | ((refine gate_new (by rfl) ?_); first | (refine wpList_kn_alloc KN (by rfl) 48 rfl 6 rfl #[.int .i64 0, .int .i64 0, .int .i64 0, .int .i64 0, .int .i32 0] (by kernel_rfl) ?_; clear KN; intro g6 wx hg6 KN) | (refine wpList_kn_alloc KN (by rfl) 80 rfl 7 rfl #[.pointer none, .slice none 0 0] (by kernel_rfl) ?_; clear KN; intro g7 wx hg7 KN) | (refine wpList_kn_alloc KN (by rfl) 48 rfl 9 rfl #[.int .i64 0, .int .i64 0, .int .i64 0, .int .i64 0, .int .i32 0] (by kernel_rfl) ?_; clear KN; intro g9 wx hg9 KN) | (refine wpList_kn_alloc KN (by rfl) 77 rfl 10 rfl #[.string ByteArray.empty, .string ByteArray.empty] (by kernel_rfl) ?_; clear KN; intro g10 wx hg10 KN))))
                  (try go_frame)
                  replace KN := KN.drew
                  refine wp_region_held_drew (S := (fun w' => BlkT w' g9 x.cells 48 ∧ BlkT w' g10 #[.string um, .string uo] 77)) (by kernel_rfl) ?qa1hS (fun hHeld => ?qa1rest)
                  case qa1hS => exact ⟨KN.at_ (by repeat (first | exact Has.here | refine Has.there ?_)), KN.at_ (by repeat (first | exact Has.here | refine Has.there ?_))⟩
                  refine wpAnyH_take (i := 0) (oi := ⟨some 68, _, _, _, _, _⟩) (v := (.agg x.cells)) rfl (by kernel_rfl) (by kernel_rfl) (by kernel_rfl) (fun _ _ _ h => h) (kn_yieldsN (by rfl) 48 _ rfl g9 0 rfl _ 48 (fun _ h => h.1) x.cells (extract_whole _) _ Tryd.underlying48 rfl (by kernel_rfl)) hHeld ?qa1r0
                  (try simp only [Act.put, List.setIfInBounds_toArray, List.set_cons_zero, List.set_cons_succ])
                  refine wpAnyH_take (i := 1) (oi := ⟨some 69, _, _, _, _, _⟩) (v := ?qa1v1) rfl (by kernel_rfl) (by kernel_rfl) (by kernel_rfl) (fun _ _ _ h => h) (Or.inl ⟨by rfl, ?qa1hy1⟩) hHeld ?qa1r1
                  case qa1hy1 => (intro w hSw; (try dsimp only at hSw); go_simp; (try with_reducible rfl))
                  (try simp only [Act.put, List.setIfInBounds_toArray, List.set_cons_zero, List.set_cons_succ])
                  refine wpAnyH_take (i := 2) (oi := ⟨some 70, _, _, _, _, _⟩) (v := (.string uo)) rfl (by kernel_rfl) (by kernel_rfl) (by kernel_rfl) (fun _ _ _ h => h) (kn_yields1 (by rfl) 9 _ rfl g10 1 rfl _ 77 (fun _ h => h.2) _ rfl _ Tryd.underlying9 rfl) hHeld ?qa1r2
                  (try simp only [Act.put, List.setIfInBounds_toArray, List.set_cons_zero, List.set_cons_succ])
                  refine wpAnyH_take (i := 3) (oi := ⟨some 71, _, _, _, _, _⟩) (v := ?qa1v3) rfl (by kernel_rfl) (by kernel_rfl) (by kernel_rfl) (fun _ _ _ h => h) (Or.inl ⟨by rfl, ?qa1hy3⟩) hHeld ?qa1r3
                  case qa1hy3 => (intro w hSw; (try dsimp only at hSw); go_simp; (try with_reducible rfl))
                  (try simp only [Act.put, List.setIfInBounds_toArray, List.set_cons_zero, List.set_cons_succ])
                  refine wpAnyH_take (i := 4) (oi := ⟨some 72, _, _, _, _, _⟩) (v := (.int .u8 ((uo[j]'hjl).toNat : Int))) rfl (by kernel_rfl) (by kernel_rfl) (by kernel_rfl) (fun _ _ _ h => h) (Or.inl ⟨by rfl, ?qa1hy4⟩) hHeld ?qa1r4
                  case qa1hy4 => (intro w hSw; (try dsimp only at hSw); go_simp; (try rfl))
                  (try simp only [Act.put, List.setIfInBounds_toArray, List.set_cons_zero, List.set_cons_succ])
                  refine wpAnyH_ready (rs := [5]) (by kernel_rfl) (by simp) ?qa1c5
                  refine AllReadyH.cons (o := ⟨some 73, _, _, _, _, _⟩) rfl (fun K hK => ?qa1st5) AllReadyH.nil
                  go_simp
                  (refine (operand_any (uo[j]'hjl) _).mono ?_; rintro e w' ⟨rfl, rfl⟩; rw [HIX.out])
                  refine hK.out _ _ ?qa1k5 (fun hHeld2 => ?qa1m5)
                  case qa1k5 => exact ⟨KN.at_ (by repeat (first | exact Has.here | refine Has.there ?_)), KN.at_ (by repeat (first | exact Has.here | refine Has.there ?_))⟩
                  clear hK K hHeld
                  have hHeld := hHeld2; clear hHeld2
                  (try simp only [Act.put, List.setIfInBounds_toArray, List.set_cons_zero, List.set_cons_succ])
                  refine wpAnyH_ready (rs := [6]) (by kernel_rfl) (by simp) ?qa1c6
                  refine AllReadyH.cons (o := ⟨some 74, _, _, _, _, _⟩) rfl (fun K hK => ?qa1st6) AllReadyH.nil
                  go_simp
                  (refine (write_any x kk HK5.out _ (HP.out.below KN.toBelow) HXF.out HXO.out.a HXO.out.b HXO.out.c).mono ?_; rintro e wx ⟨rfl, hb⟩; replace KN := KN.below hb; clear hb; rw [HKL.out, ← HUT.out])
                  refine hK.out _ _ ?qa1k6 (fun hHeld2 => ?qa1m6)
                  case qa1k6 => exact ⟨KN.at_ (by repeat (first | exact Has.here | refine Has.there ?_)), KN.at_ (by repeat (first | exact Has.here | refine Has.there ?_))⟩
                  clear hK K hHeld
                  have hHeld := hHeld2; clear hHeld2
                  (try simp only [Act.put, List.setIfInBounds_toArray, List.set_cons_zero, List.set_cons_succ])
                  refine wpAnyH_ready (rs := [7]) (by kernel_rfl) (by simp) ?qa1c7
                  refine AllReadyH.cons (o := ⟨some 75, _, _, _, _, _⟩) rfl (fun K hK => ?qa1st7) AllReadyH.nil
                  go_simp
                  (refine (WriteString_kn (f := fun o => (g10, _) :: (g9, _) :: (m, _) :: (t, _) :: o) ut (KN.perm (p3 _ _ _ _)) (.inr rfl) HO5.out (.cons _ (.cons _ (.cons _ (.cons _ .id)))) (by rw [List.length_append, bytesL_len, List.length_map, Lib.strCells_length, str_size]; have := HBL.out; have := HK3.out; have := HMN.out; rw [List.length_append, List.length_append]; show _ + 1 + _ ≤ _; omega)).mono ?_; rintro e wx ⟨rfl, v6, ol6, OW6, K2⟩; clear KN; have KN := K2.perm (p3 _ _ _ _).symm; clear K2; have HO6 := Lib.hid OW6; clear OW6)
                  refine hK.out _ _ ?qa1k7 (fun hHeld2 => ?qa1m7)
                  case qa1k7 => exact ⟨KN.at_ (by repeat (first | exact Has.here | refine Has.there ?_)), KN.at_ (by repeat (first | exact Has.here | refine Has.there ?_))⟩
                  clear hK K hHeld
                  have hHeld := hHeld2; clear hHeld2
                  (try simp only [Act.put, List.setIfInBounds_toArray, List.set_cons_zero, List.set_cons_succ])
                  refine wpAnyH_done (by kernel_rfl) ?qa1done _
                  go_wp2_with fail
                  go_roundw
                  case rel =>
                    refine ⟨j + 1, by go_num, by omega, v6, ol6, ?_, KN⟩
                    have := HO6.out
                    rw [bytesL_str, HUT.out, bytesL_str, List.append_assoc, ← bytesL_app, ← bytesL_app, List.append_assoc (bs ++ mnemOf x.op), ← HSP.out] at this
                    exact this
                  case measure => simp [intOf]; omega
                · have hjb : ((j : Int) == 0) = false := by rw [beq_eq_false_iff_ne]; omega
                  have hsp : opsK x (j + 1) = opsK x j ++ ([44, 32] ++ opText ((operandsOf x.op).getD j 0) x) := by rw [opsK]; rw [if_neg (show ¬ j = 0 by omega)]
                  have HSP := Lib.hid hsp
                  clear hj0 hsp
                  go_upto_region 25 with (first | (go_at_call 29; refine (WriteString_kn (f := fun o => (g10, _) :: (g9, _) :: (m, _) :: (t, _) :: o) (str [44, 32]) (KN.perm (p3 _ _ _ _)) (.inr rfl) HO3.out (.cons _ (.cons _ (.cons _ (.cons _ .id)))) (by rw [bytesL_len, str_size]; have := HBL.out; have := HK3.out; have := HMN.out; rw [List.length_append, List.length_append]; show _ + 2 ≤ _; omega)).mono ?_; rintro e wx ⟨rfl, v5, ol5, OW5, K2⟩; clear KN; have KN := K2.perm (p3 _ _ _ _).symm; clear K2; have HO5 := Lib.hid OW5; clear OW5) | ((with_reducible refine wpList_gate ?_); first | ((refine gate_load (by rfl) ?_); first | (refine wpList_kn_loadW KN (by rfl) 48 _ rfl _ rfl _ _ (by repeat (first | exact Has.here | refine Has.there ?_)) _ Tryd.underlying48 rfl (by kernel_rfl) ?_) | (refine wpList_kn_load1 KN (by rfl) 3 _ rfl _ _ rfl _ _ (by repeat (first | exact Has.here | refine Has.there ?_)) _ (by (repeat (first | ((with_reducible refine get_hit ?_); exact Nat.le_of_ble_eq_true (by kernel_rfl)) | ((with_reducible refine (get_miss ?_).trans ?_); (focus kernel_rfl)) | ((with_reducible refine (get_pmiss ?_).trans ?_); (focus kernel_rfl)))); all_goals (conv => lhs; whnf; arg 1; whnf)) _ Tryd.underlying3 rfl ?_) | (refine wpList_kn_load1 KN (by rfl) 9 _ rfl _ _ rfl _ _ (by repeat (first | exact Has.here | refine Has.there ?_)) _ (by (repeat (first | ((with_reducible refine get_hit ?_); exact Nat.le_of_ble_eq_true (by kernel_rfl)) | ((with_reducible refine (get_miss ?_).trans ?_); (focus kernel_rfl)) | ((with_reducible refine (get_pmiss ?_).trans ?_); (focus kernel_rfl)))); all_goals (conv => lhs; whnf; arg 1; whnf)) _ Tryd.underlying9 rfl ?_) | (refine wpList_kn_load1 KN (by rfl) 21 _ rfl _ _ rfl _ _ (by repeat (first | exact Has.here | refine Has.there ?_)) _ (by (repeat (first | ((with_reducible refine get_hit ?_); exact Nat.le_of_ble_eq_true (by kernel_rfl)) | ((with_reducible refine (get_miss ?_).trans ?_); (focus kernel_rfl)) | ((with_reducible refine (get_pmiss ?_).trans ?_); (focus kernel_rfl)))); all_goals (conv => lhs; whnf; arg 1; whnf)) _ Tryd.underlying21 rfl ?_) | (refine wpList_kn_loadW KN (by rfl) 77 _ rfl _ rfl _ _ (by repeat (first | exact Has.here | refine Has.there ?_)) _ Tryd.underlying77 rfl (by kernel_rfl) ?_)) | ((refine gate_store (by rfl) ?_); first | (refine wpList_kn_storeW KN (by rfl) 48 _ _ rfl _ rfl _ rfl _ _ (by repeat (first | exact Repl.here | apply Repl.there)) (by kernel_rfl) (by kernel_rfl) (by kernel_rfl) ?_; clear KN; intro wx KN) | (refine wpList_kn_storeA KN (by rfl) 48 _ _ rfl _ _ rfl _ rfl _ _ (by repeat (first | exact Repl.here | apply Repl.there)) (by (try simp only [Array.size_setIfInBounds, putL_size]); first | exact Nat.le_of_ble_eq_true rfl | (simp; omega)) (by kernel_rfl) (by kernel_rfl) ?_; clear KN; intro wx KN) | (refine wpList_kn_storeW KN (by rfl) 77 _ _ rfl _ rfl _ rfl _ _ (by repeat (first | exact Repl.here | apply Repl.there)) (by kernel_rfl) (by kernel_rfl) (by kernel_rfl) ?_; clear KN; intro wx KN) | (refine wpList_kn_storeA KN (by rfl) 77 _ _ rfl _ _ rfl _ rfl _ _ (by repeat (first | exact Repl.here | apply Repl.there)) (by (try simp only [Array.size_setIfInBounds, putL_size]); first | exact Nat.le_of_ble_eq_true rfl | (simp; omega)) (by kernel_rfl) (by kernel_rfl) ?_; clear KN; intro wx KN)) | ((refine gate_new (by rfl) ?_); first | (refine wpList_kn_alloc KN (by rfl) 48 rfl 6 rfl #[.int .i64 0, .int .i64 0, .int .i64 0, .int .i64 0, .int .i32 0] (by kernel_rfl) ?_; clear KN; intro g6 wx hg6 KN) | (refine wpList_kn_alloc KN (by rfl) 80 rfl 7 rfl #[.pointer none, .slice none 0 0] (by kernel_rfl) ?_; clear KN; intro g7 wx hg7 KN) | (refine wpList_kn_alloc KN (by rfl) 48 rfl 9 rfl #[.int .i64 0, .int .i64 0, .int .i64 0, .int .i64 0, .int .i32 0] (by kernel_rfl) ?_; clear KN; intro g9 wx hg9 KN) | (refine wpList_kn_alloc KN (by rfl) 77 rfl 10 rfl #[.string ByteArray.empty, .string ByteArray.empty] (by kernel_rfl) ?_; clear KN; intro g10 wx hg10 KN))))
                  (try go_frame)
                  replace KN := KN.drew
                  refine wp_region_held_drew (S := (fun w' => BlkT w' g9 x.cells 48 ∧ BlkT w' g10 #[.string um, .string uo] 77)) (by kernel_rfl) ?qa2hS (fun hHeld => ?qa2rest)
                  case qa2hS => exact ⟨KN.at_ (by repeat (first | exact Has.here | refine Has.there ?_)), KN.at_ (by repeat (first | exact Has.here | refine Has.there ?_))⟩
                  refine wpAnyH_take (i := 0) (oi := ⟨some 68, _, _, _, _, _⟩) (v := (.agg x.cells)) rfl (by kernel_rfl) (by kernel_rfl) (by kernel_rfl) (fun _ _ _ h => h) (kn_yieldsN (by rfl) 48 _ rfl g9 0 rfl _ 48 (fun _ h => h.1) x.cells (extract_whole _) _ Tryd.underlying48 rfl (by kernel_rfl)) hHeld ?qa2r0
                  (try simp only [Act.put, List.setIfInBounds_toArray, List.set_cons_zero, List.set_cons_succ])
                  refine wpAnyH_take (i := 1) (oi := ⟨some 69, _, _, _, _, _⟩) (v := ?qa2v1) rfl (by kernel_rfl) (by kernel_rfl) (by kernel_rfl) (fun _ _ _ h => h) (Or.inl ⟨by rfl, ?qa2hy1⟩) hHeld ?qa2r1
                  case qa2hy1 => (intro w hSw; (try dsimp only at hSw); go_simp; (try with_reducible rfl))
                  (try simp only [Act.put, List.setIfInBounds_toArray, List.set_cons_zero, List.set_cons_succ])
                  refine wpAnyH_take (i := 2) (oi := ⟨some 70, _, _, _, _, _⟩) (v := (.string uo)) rfl (by kernel_rfl) (by kernel_rfl) (by kernel_rfl) (fun _ _ _ h => h) (kn_yields1 (by rfl) 9 _ rfl g10 1 rfl _ 77 (fun _ h => h.2) _ rfl _ Tryd.underlying9 rfl) hHeld ?qa2r2
                  (try simp only [Act.put, List.setIfInBounds_toArray, List.set_cons_zero, List.set_cons_succ])
                  refine wpAnyH_take (i := 3) (oi := ⟨some 71, _, _, _, _, _⟩) (v := ?qa2v3) rfl (by kernel_rfl) (by kernel_rfl) (by kernel_rfl) (fun _ _ _ h => h) (Or.inl ⟨by rfl, ?qa2hy3⟩) hHeld ?qa2r3
                  case qa2hy3 => (intro w hSw; (try dsimp only at hSw); go_simp; (try with_reducible rfl))
                  (try simp only [Act.put, List.setIfInBounds_toArray, List.set_cons_zero, List.set_cons_succ])
                  refine wpAnyH_take (i := 4) (oi := ⟨some 72, _, _, _, _, _⟩) (v := (.int .u8 ((uo[j]'hjl).toNat : Int))) rfl (by kernel_rfl) (by kernel_rfl) (by kernel_rfl) (fun _ _ _ h => h) (Or.inl ⟨by rfl, ?qa2hy4⟩) hHeld ?qa2r4
                  case qa2hy4 => (intro w hSw; (try dsimp only at hSw); go_simp; (try rfl))
                  (try simp only [Act.put, List.setIfInBounds_toArray, List.set_cons_zero, List.set_cons_succ])
                  refine wpAnyH_ready (rs := [5]) (by kernel_rfl) (by simp) ?qa2c5
                  refine AllReadyH.cons (o := ⟨some 73, _, _, _, _, _⟩) rfl (fun K hK => ?qa2st5) AllReadyH.nil
                  go_simp
                  (refine (operand_any (uo[j]'hjl) _).mono ?_; rintro e w' ⟨rfl, rfl⟩; rw [HIX.out])
                  refine hK.out _ _ ?qa2k5 (fun hHeld2 => ?qa2m5)
                  case qa2k5 => exact ⟨KN.at_ (by repeat (first | exact Has.here | refine Has.there ?_)), KN.at_ (by repeat (first | exact Has.here | refine Has.there ?_))⟩
                  clear hK K hHeld
                  have hHeld := hHeld2; clear hHeld2
                  (try simp only [Act.put, List.setIfInBounds_toArray, List.set_cons_zero, List.set_cons_succ])
                  refine wpAnyH_ready (rs := [6]) (by kernel_rfl) (by simp) ?qa2c6
                  refine AllReadyH.cons (o := ⟨some 74, _, _, _, _, _⟩) rfl (fun K hK => ?qa2st6) AllReadyH.nil
                  go_simp
                  (refine (write_any x kk HK5.out _ (HP.out.below KN.toBelow) HXF.out HXO.out.a HXO.out.b HXO.out.c).mono ?_; rintro e wx ⟨rfl, hb⟩; replace KN := KN.below hb; clear hb; rw [HKL.out, ← HUT.out])
                  refine hK.out _ _ ?qa2k6 (fun hHeld2 => ?qa2m6)
                  case qa2k6 => exact ⟨KN.at_ (by repeat (first | exact Has.here | refine Has.there ?_)), KN.at_ (by repeat (first | exact Has.here | refine Has.there ?_))⟩
                  clear hK K hHeld
                  have hHeld := hHeld2; clear hHeld2
                  (try simp only [Act.put, List.setIfInBounds_toArray, List.set_cons_zero, List.set_cons_succ])
                  refine wpAnyH_ready (rs := [7]) (by kernel_rfl) (by simp) ?qa2c7
                  refine AllReadyH.cons (o := ⟨some 75, _, _, _, _, _⟩) rfl (fun K hK => ?qa2st7) AllReadyH.nil
                  go_simp
                  (refine (WriteString_kn (f := fun o => (g10, _) :: (g9, _) :: (m, _) :: (t, _) :: o) ut (KN.perm (p3 _ _ _ _)) (.inr rfl) HO5.out (.cons _ (.cons _ (.cons _ (.cons _ .id)))) (by rw [List.length_append, bytesL_len, List.length_map, Lib.strCells_length, str_size]; have := HBL.out; have := HK3.out; have := HMN.out; rw [List.length_append, List.length_append]; show _ + 2 + _ ≤ _; omega)).mono ?_; rintro e wx ⟨rfl, v6, ol6, OW6, K2⟩; clear KN; have KN := K2.perm (p3 _ _ _ _).symm; clear K2; have HO6 := Lib.hid OW6; clear OW6)
                  refine hK.out _ _ ?qa2k7 (fun hHeld2 => ?qa2m7)
                  case qa2k7 => exact ⟨KN.at_ (by repeat (first | exact Has.here | refine Has.there ?_)), KN.at_ (by repeat (first | exact Has.here | refine Has.there ?_))⟩
                  clear hK K hHeld
                  have hHeld := hHeld2; clear hHeld2
                  (try simp only [Act.put, List.setIfInBounds_toArray, List.set_cons_zero, List.set_cons_succ])
                  refine wpAnyH_done (by kernel_rfl) ?qa2done _
                  go_wp2_with fail
                  go_roundw
                  case rel =>
                    refine ⟨j + 1, by go_num, by omega, v6, ol6, ?_, KN⟩
                    have := HO6.out
                    rw [bytesL_str, HUT.out, bytesL_str, List.append_assoc, ← bytesL_app, ← bytesL_app, List.append_assoc (bs ++ mnemOf x.op), ← HSP.out] at this
                    exact this
                  case measure => simp [intOf]; omega
              · have hjn : opsK x j = opsText x true (operandsOf x.op) := by rw [← opsK_all x o0 o1, show j = (operandsOf x.op).length by rw [← str_size, ← HUO.out]; omega]
                have HJN := Lib.hid hjn
                have HK3 : Hid ((opsK x j).length ≤ 72) := Lib.hid (by have := opsK_len x HXO.out j; omega)
                clear hjn
                go_wp2_with (first | (go_at_call 29; refine (WriteString_kn (f := fun o => (g10, _) :: (g9, _) :: (m, _) :: (t, _) :: o) (str [59, 10]) (KN.perm (p3 _ _ _ _)) (.inr rfl) HO3.out (.cons _ (.cons _ (.cons _ (.cons _ .id)))) (by rw [bytesL_len, str_size]; have := HBL.out; have := HK3.out; have := HMN.out; rw [List.length_append, List.length_append]; show _ + 2 ≤ _; omega)).mono ?_; rintro e wx ⟨rfl, v7, ol7, OW7, K2⟩; clear KN; have KN := K2.perm (p3 _ _ _ _).symm; clear K2; have HO7 := Lib.hid OW7; clear OW7) | ((with_reducible refine wpList_gate ?_); first | ((refine gate_load (by rfl) ?_); first | (refine wpList_kn_loadW KN (by rfl) 48 _ rfl _ rfl _ _ (by repeat (first | exact Has.here | refine Has.there ?_)) _ Tryd.underlying48 rfl (by kernel_rfl) ?_) | (refine wpList_kn_load1 KN (by rfl) 3 _ rfl _ _ rfl _ _ (by repeat (first | exact Has.here | refine Has.there ?_)) _ (by (repeat (first | ((with_reducible refine get_hit ?_); exact Nat.le_of_ble_eq_true (by kernel_rfl)) | ((with_reducible refine (get_miss ?_).trans ?_); (focus kernel_rfl)) | ((with_reducible refine (get_pmiss ?_).trans ?_); (focus kernel_rfl)))); all_goals (conv => lhs; whnf; arg 1; whnf)) _ Tryd.underlying3 rfl ?_) | (refine wpList_kn_load1 KN (by rfl) 9 _ rfl _ _ rfl _ _ (by repeat (first | exact Has.here | refine Has.there ?_)) _ (by (repeat (first | ((with_reducible refine get_hit ?_); exact Nat.le_of_ble_eq_true (by kernel_rfl)) | ((with_reducible refine (get_miss ?_).trans ?_); (focus kernel_rfl)) | ((with_reducible refine (get_pmiss ?_).trans ?_); (focus kernel_rfl)))); all_goals (conv => lhs; whnf; arg 1; whnf)) _ Tryd.underlying9 rfl ?_) | (refine wpList_kn_load1 KN (by rfl) 21 _ rfl _ _ rfl _ _ (by repeat (first | exact Has.here | refine Has.there ?_)) _ (by (repeat (first | ((with_reducible refine get_hit ?_); exact Nat.le_of_ble_eq_true (by kernel_rfl)) | ((with_reducible refine (get_miss ?_).trans ?_); (focus kernel_rfl)) | ((with_reducible refine (get_pmiss ?_).trans ?_); (focus kernel_rfl)))); all_goals (conv => lhs; whnf; arg 1; whnf)) _ Tryd.underlying21 rfl ?_) | (refine wpList_kn_loadW KN (by rfl) 77 _ rfl _ rfl _ _ (by repeat (first | exact Has.here | refine Has.there ?_)) _ Tryd.underlying77 rfl (by kernel_rfl) ?_)) | ((refine gate_store (by rfl) ?_); first | (refine wpList_kn_storeW KN (by rfl) 48 _ _ rfl _ rfl _ rfl _ _ (by repeat (first | exact Repl.here | apply Repl.there)) (by kernel_rfl) (by kernel_rfl) (by kernel_rfl) ?_; clear KN; intro wx KN) | (refine wpList_kn_storeA KN (by rfl) 48 _ _ rfl _ _ rfl _ rfl _ _ (by repeat (first | exact Repl.here | apply Repl.there)) (by (try simp only [Array.size_setIfInBounds, putL_size]); first | exact Nat.le_of_ble_eq_true rfl | (simp; omega)) (by kernel_rfl) (by kernel_rfl) ?_; clear KN; intro wx KN) | (refine wpList_kn_storeW KN (by rfl) 77 _ _ rfl _ rfl _ rfl _ _ (by repeat (first | exact Repl.here | apply Repl.there)) (by kernel_rfl) (by kernel_rfl) (by kernel_rfl) ?_; clear KN; intro wx KN) | (refine wpList_kn_storeA KN (by rfl) 77 _ _ rfl _ _ rfl _ rfl _ _ (by repeat (first | exact Repl.here | apply Repl.there)) (by (try simp only [Array.size_setIfInBounds, putL_size]); first | exact Nat.le_of_ble_eq_true rfl | (simp; omega)) (by kernel_rfl) (by kernel_rfl) ?_; clear KN; intro wx KN)) | ((refine gate_new (by rfl) ?_); first | (refine wpList_kn_alloc KN (by rfl) 48 rfl 6 rfl #[.int .i64 0, .int .i64 0, .int .i64 0, .int .i64 0, .int .i32 0] (by kernel_rfl) ?_; clear KN; intro g6 wx hg6 KN) | (refine wpList_kn_alloc KN (by rfl) 80 rfl 7 rfl #[.pointer none, .slice none 0 0] (by kernel_rfl) ?_; clear KN; intro g7 wx hg7 KN) | (refine wpList_kn_alloc KN (by rfl) 48 rfl 9 rfl #[.int .i64 0, .int .i64 0, .int .i64 0, .int .i64 0, .int .i32 0] (by kernel_rfl) ?_; clear KN; intro g9 wx hg9 KN) | (refine wpList_kn_alloc KN (by rfl) 77 rfl 10 rfl #[.string ByteArray.empty, .string ByteArray.empty] (by kernel_rfl) ?_; clear KN; intro g10 wx hg10 KN))))
                go_roundw
                case rel =>
                  refine ⟨k + 1, _, v7, ol7, by go_num, by omega, .inr rfl, ?_, (KN.drop .here).drop .here⟩
                  have := HO7.out
                  rw [bytesL_str, ← bytesL_app, HJN.out, HBS.out] at this
                  rw [txtK_succ HX.out]
                  unfold insText
                  have e : txtK p k ++ (labText p k ++ (mnemOf x.op ++ (opsText x true (operandsOf x.op) ++ [59, 10]))) = txtK p k ++ labText p k ++ mnemOf x.op ++ opsText x true (operandsOf x.op) ++ [59, 10] := by simp only [List.append_assoc]
                  rw [e]
                  exact this
                case measure => simp [intOf]; omega
          · have HTG : Hid (D.atKey (.int .i32 (k : Int)) (.lit (.bool false)) = .lit (.bool false)) := Lib.hid (by rw [HT2.out]; exact congrArg (fun b => DataW.lit (.bool b)) ht)
            have hlab : labText p k = [] := by unfold labText; rw [if_neg (by rw [ht]; decide)]
            have HLB := Lib.hid hlab
            clear ht hlab
            go_upto_region 17 with (first | ((with_reducible refine wpList_gate ?_); first | (at_lookup; refine wpList_kn_lookupB KN rfl _ _ 74 rfl 4 (Maps.int_keyed Tryd.underlying21) Tryd.underlying74 Tryd.underlying4 (zeroB _) rfl (by repeat (first | exact Has.here | refine Has.there ?_)) (.int .i32 (k : Int)) (.int .i32 (k : Int)) rfl (key_32 (wf_32 (by omega) (by omega))) false HTG.out ?_) | ((refine gate_load (by rfl) ?_); first | (refine wpList_kn_loadW KN (by rfl) 48 _ rfl _ rfl _ _ (by repeat (first | exact Has.here | refine Has.there ?_)) _ Tryd.underlying48 rfl (by kernel_rfl) ?_) | (refine wpList_kn_load1 KN (by rfl) 3 _ rfl _ _ rfl _ _ (by repeat (first | exact Has.here | refine Has.there ?_)) _ (by (repeat (first | ((with_reducible refine get_hit ?_); exact Nat.le_of_ble_eq_true (by kernel_rfl)) | ((with_reducible refine (get_miss ?_).trans ?_); (focus kernel_rfl)) | ((with_reducible refine (get_pmiss ?_).trans ?_); (focus kernel_rfl)))); all_goals (conv => lhs; whnf; arg 1; whnf)) _ Tryd.underlying3 rfl ?_) | (refine wpList_kn_load1 KN (by rfl) 9 _ rfl _ _ rfl _ _ (by repeat (first | exact Has.here | refine Has.there ?_)) _ (by (repeat (first | ((with_reducible refine get_hit ?_); exact Nat.le_of_ble_eq_true (by kernel_rfl)) | ((with_reducible refine (get_miss ?_).trans ?_); (focus kernel_rfl)) | ((with_reducible refine (get_pmiss ?_).trans ?_); (focus kernel_rfl)))); all_goals (conv => lhs; whnf; arg 1; whnf)) _ Tryd.underlying9 rfl ?_) | (refine wpList_kn_load1 KN (by rfl) 21 _ rfl _ _ rfl _ _ (by repeat (first | exact Has.here | refine Has.there ?_)) _ (by (repeat (first | ((with_reducible refine get_hit ?_); exact Nat.le_of_ble_eq_true (by kernel_rfl)) | ((with_reducible refine (get_miss ?_).trans ?_); (focus kernel_rfl)) | ((with_reducible refine (get_pmiss ?_).trans ?_); (focus kernel_rfl)))); all_goals (conv => lhs; whnf; arg 1; whnf)) _ Tryd.underlying21 rfl ?_) | (refine wpList_kn_loadW KN (by rfl) 77 _ rfl _ rfl _ _ (by repeat (first | exact Has.here | refine Has.there ?_)) _ Tryd.underlying77 rfl (by kernel_rfl) ?_)) | ((refine gate_store (by rfl) ?_); first | (refine wpList_kn_storeW KN (by rfl) 48 _ _ rfl _ rfl _ rfl _ _ (by repeat (first | exact Repl.here | apply Repl.there)) (by kernel_rfl) (by kernel_rfl) (by kernel_rfl) ?_; clear KN; intro wx KN) | (refine wpList_kn_storeA KN (by rfl) 48 _ _ rfl _ _ rfl _ rfl _ _ (by repeat (first | exact Repl.here | apply Repl.there)) (by (try simp only [Array.size_setIfInBounds, putL_size]); first | exact Nat.le_of_ble_eq_true rfl | (simp; omega)) (by kernel_rfl) (by kernel_rfl) ?_; clear KN; intro wx KN) | (refine wpList_kn_storeW KN (by rfl) 77 _ _ rfl _ rfl _ rfl _ _ (by repeat (first | exact Repl.here | apply Repl.there)) (by kernel_rfl) (by kernel_rfl) (by kernel_rfl) ?_; clear KN; intro wx KN) | (refine wpList_kn_storeA KN (by rfl) 77 _ _ rfl _ _ rfl _ rfl _ _ (by repeat (first | exact Repl.here | apply Repl.there)) (by (try simp only [Array.size_setIfInBounds, putL_size]); first | exact Nat.le_of_ble_eq_true rfl | (simp; omega)) (by kernel_rfl) (by kernel_rfl) ?_; clear KN; intro wx KN)) | ((refine gate_new (by rfl) ?_); first | (refine wpList_kn_alloc KN (by rfl) 48 rfl 6 rfl #[.int .i64 0, .int .i64 0, .int .i64 0, .int .i64 0, .int .i32 0] (by kernel_rfl) ?_; clear KN; intro g6 wx hg6 KN) | (refine wpList_kn_alloc KN (by rfl) 80 rfl 7 rfl #[.pointer none, .slice none 0 0] (by kernel_rfl) ?_; clear KN; intro g7 wx hg7 KN) | (refine wpList_kn_alloc KN (by rfl) 48 rfl 9 rfl #[.int .i64 0, .int .i64 0, .int .i64 0, .int .i64 0, .int .i32 0] (by kernel_rfl) ?_; clear KN; intro g9 wx hg9 KN) | (refine wpList_kn_alloc KN (by rfl) 77 rfl 10 rfl #[.string ByteArray.empty, .string ByteArray.empty] (by kernel_rfl) ?_; clear KN; intro g10 wx hg10 KN))))
            have hB : DisB t m g7 cc g9 D x w (txtK p k ++ labText p k) wx := ⟨pb, vb, ol, HPB.out, by rw [HLB.out, List.append_nil]; exact HO.out, KN⟩
            clear KN
            obtain ⟨pb1, vb1, ol2, hpb1, OWB, KN⟩ := hB
            have HPB1 := Lib.hid hpb1
            have HOB := Lib.hid OWB
            clear hpb1 OWB
            (try go_frame)
            obtain ⟨hf0, hf1⟩ := FT.cell (KN.at_ (g := t) (cs := fmtA) (T := 77) (by repeat (first | exact Has.here | refine Has.there ?_))) x.op o0 o1
            go_upto_region 18 with (first | ((with_reducible refine wpList_gate ?_); first | ((refine gate_load (by rfl) ?_); first | (refine wpList_kn_loadW KN (by rfl) 48 _ rfl _ rfl _ _ (by repeat (first | exact Has.here | refine Has.there ?_)) _ Tryd.underlying48 rfl (by kernel_rfl) ?_) | (refine wpList_kn_load1 KN (by rfl) 3 _ rfl _ _ rfl _ _ (by repeat (first | exact Has.here | refine Has.there ?_)) _ (by (repeat (first | ((with_reducible refine get_hit ?_); exact Nat.le_of_ble_eq_true (by kernel_rfl)) | ((with_reducible refine (get_miss ?_).trans ?_); (focus kernel_rfl)) | ((with_reducible refine (get_pmiss ?_).trans ?_); (focus kernel_rfl)))); all_goals (conv => lhs; whnf; arg 1; whnf)) _ Tryd.underlying3 rfl ?_) | (refine wpList_kn_load1 KN (by rfl) 9 _ rfl _ _ rfl _ _ (by repeat (first | exact Has.here | refine Has.there ?_)) _ (by (repeat (first | ((with_reducible refine get_hit ?_); exact Nat.le_of_ble_eq_true (by kernel_rfl)) | ((with_reducible refine (get_miss ?_).trans ?_); (focus kernel_rfl)) | ((with_reducible refine (get_pmiss ?_).trans ?_); (focus kernel_rfl)))); all_goals (conv => lhs; whnf; arg 1; whnf)) _ Tryd.underlying9 rfl ?_) | (refine wpList_kn_load1 KN (by rfl) 21 _ rfl _ _ rfl _ _ (by repeat (first | exact Has.here | refine Has.there ?_)) _ (by (repeat (first | ((with_reducible refine get_hit ?_); exact Nat.le_of_ble_eq_true (by kernel_rfl)) | ((with_reducible refine (get_miss ?_).trans ?_); (focus kernel_rfl)) | ((with_reducible refine (get_pmiss ?_).trans ?_); (focus kernel_rfl)))); all_goals (conv => lhs; whnf; arg 1; whnf)) _ Tryd.underlying21 rfl ?_) | (refine wpList_kn_loadW KN (by rfl) 77 _ rfl _ rfl _ _ (by repeat (first | exact Has.here | refine Has.there ?_)) _ Tryd.underlying77 rfl (by kernel_rfl) ?_)) | ((refine gate_store (by rfl) ?_); first | (refine wpList_kn_storeW KN (by rfl) 48 _ _ rfl _ rfl _ rfl _ _ (by repeat (first | exact Repl.here | apply Repl.there)) (by kernel_rfl) (by kernel_rfl) (by kernel_rfl) ?_; clear KN; intro wx KN) | (refine wpList_kn_storeA KN (by rfl) 48 _ _ rfl _ _ rfl _ rfl _ _ (by repeat (first | exact Repl.here | apply Repl.there)) (by (try simp only [Array.size_setIfInBounds, putL_size]); first | exact Nat.le_of_ble_eq_true rfl | (simp; omega)) (by kernel_rfl) (by kernel_rfl) ?_; clear KN; intro wx KN) | (refine wpList_kn_storeW KN (by rfl) 77 _ _ rfl _ rfl _ rfl _ _ (by repeat (first | exact Repl.here | apply Repl.there)) (by kernel_rfl) (by kernel_rfl) (by kernel_rfl) ?_; clear KN; intro wx KN) | (refine wpList_kn_storeA KN (by rfl) 77 _ _ rfl _ _ rfl _ rfl _ _ (by repeat (first | exact Repl.here | apply Repl.there)) (by (try simp only [Array.size_setIfInBounds, putL_size]); first | exact Nat.le_of_ble_eq_true rfl | (simp; omega)) (by kernel_rfl) (by kernel_rfl) ?_; clear KN; intro wx KN)) | ((refine gate_new (by rfl) ?_); first | (refine wpList_kn_alloc KN (by rfl) 48 rfl 6 rfl #[.int .i64 0, .int .i64 0, .int .i64 0, .int .i64 0, .int .i32 0] (by kernel_rfl) ?_; clear KN; intro g6 wx hg6 KN) | (refine wpList_kn_alloc KN (by rfl) 80 rfl 7 rfl #[.pointer none, .slice none 0 0] (by kernel_rfl) ?_; clear KN; intro g7 wx hg7 KN) | (refine wpList_kn_alloc KN (by rfl) 48 rfl 9 rfl #[.int .i64 0, .int .i64 0, .int .i64 0, .int .i64 0, .int .i32 0] (by kernel_rfl) ?_; clear KN; intro g9 wx hg9 KN) | (refine wpList_kn_alloc KN (by rfl) 77 rfl 10 rfl #[.string ByteArray.empty, .string ByteArray.empty] (by kernel_rfl) ?_; clear KN; intro g10 wx hg10 KN))))
            (try go_frame)
            clear hf0 hf1
            obtain ⟨um, hum⟩ : ∃ u, u = str (mnemOf x.op) := ⟨_, rfl⟩
            obtain ⟨uo, huo⟩ : ∃ u, u = str (operandsOf x.op) := ⟨_, rfl⟩
            have sm : um.size ≤ 5 := by rw [hum, str_size]; exact mnemOf_len o0 o1
            have so : uo.size ≤ 3 := by rw [huo, str_size]; exact operands_len x.op o0 o1
            replace KN := KN.as_ g10 #[.string um, .string uo] (by repeat (first | exact Repl.here | apply Repl.there)) (by rw [hum, huo])
            obtain ⟨bs, hbs⟩ : ∃ bs, bs = txtK p k ++ labText p k := ⟨_, rfl⟩
            have HBS := Lib.hid hbs
            have HBL : Hid (bs.length ≤ 103 * k + 24) := Lib.hid (by have := HTL.out; have := HLL.out; rw [hbs, List.length_append]; omega)
            rw [← hbs] at HOB
            have HUM := Lib.hid hum
            have HUO := Lib.hid huo
            clear hum huo hbs
            go_upto_block 4 with (first | (go_at_call 29; refine (WriteString_kn (f := fun o => (g10, _) :: (g9, _) :: (m, _) :: (t, _) :: o) _ (KN.perm (p3 _ _ _ _)) HPB1.out HOB.out (.cons _ (.cons _ (.cons _ (.cons _ .id)))) (by rw [bytesL_len]; have := HBL.out; omega)).mono ?_; rintro e wx ⟨rfl, v4, ol4, OW4, K2⟩; clear KN; have KN := K2.perm (p3 _ _ _ _).symm; clear K2; have HO4 := Lib.hid OW4; clear OW4) | ((with_reducible refine wpList_gate ?_); first | ((refine gate_load (by rfl) ?_); first | (refine wpList_kn_loadW KN (by rfl) 48 _ rfl _ rfl _ _ (by repeat (first | exact Has.here | refine Has.there ?_)) _ Tryd.underlying48 rfl (by kernel_rfl) ?_) | (refine wpList_kn_load1 KN (by rfl) 3 _ rfl _ _ rfl _ _ (by repeat (first | exact Has.here | refine Has.there ?_)) _ (by (repeat (first | ((with_reducible refine get_hit ?_); exact Nat.le_of_ble_eq_true (by kernel_rfl)) | ((with_reducible refine (get_miss ?_).trans ?_); (focus kernel_rfl)) | ((with_reducible refine (get_pmiss ?_).trans ?_); (focus kernel_rfl)))); all_goals (conv => lhs; whnf; arg 1; whnf)) _ Tryd.underlying3 rfl ?_) | (refine wpList_kn_load1 KN (by rfl) 9 _ rfl _ _ rfl _ _ (by repeat (first | exact Has.here | refine Has.there ?_)) _ (by (repeat (first | ((with_reducible refine get_hit ?_); exact Nat.le_of_ble_eq_true (by kernel_rfl)) | ((with_reducible refine (get_miss ?_).trans ?_); (focus kernel_rfl)) | ((with_reducible refine (get_pmiss ?_).trans ?_); (focus kernel_rfl)))); all_goals (conv => lhs; whnf; arg 1; whnf)) _ Tryd.underlying9 rfl ?_) | (refine wpList_kn_load1 KN (by rfl) 21 _ rfl _ _ rfl _ _ (by repeat (first | exact Has.here | refine Has.there ?_)) _ (by (repeat (first | ((with_reducible refine get_hit ?_); exact Nat.le_of_ble_eq_true (by kernel_rfl)) | ((with_reducible refine (get_miss ?_).trans ?_); (focus kernel_rfl)) | ((with_reducible refine (get_pmiss ?_).trans ?_); (focus kernel_rfl)))); all_goals (conv => lhs; whnf; arg 1; whnf)) _ Tryd.underlying21 rfl ?_) | (refine wpList_kn_loadW KN (by rfl) 77 _ rfl _ rfl _ _ (by repeat (first | exact Has.here | refine Has.there ?_)) _ Tryd.underlying77 rfl (by kernel_rfl) ?_)) | ((refine gate_store (by rfl) ?_); first | (refine wpList_kn_storeW KN (by rfl) 48 _ _ rfl _ rfl _ rfl _ _ (by repeat (first | exact Repl.here | apply Repl.there)) (by kernel_rfl) (by kernel_rfl) (by kernel_rfl) ?_; clear KN; intro wx KN) | (refine wpList_kn_storeA KN (by rfl) 48 _ _ rfl _ _ rfl _ rfl _ _ (by repeat (first | exact Repl.here | apply Repl.there)) (by (try simp only [Array.size_setIfInBounds, putL_size]); first | exact Nat.le_of_ble_eq_true rfl | (simp; omega)) (by kernel_rfl) (by kernel_rfl) ?_; clear KN; intro wx KN) | (refine wpList_kn_storeW KN (by rfl) 77 _ _ rfl _ rfl _ rfl _ _ (by repeat (first | exact Repl.here | apply Repl.there)) (by kernel_rfl) (by kernel_rfl) (by kernel_rfl) ?_; clear KN; intro wx KN) | (refine wpList_kn_storeA KN (by rfl) 77 _ _ rfl _ _ rfl _ rfl _ _ (by repeat (first | exact Repl.here | apply Repl.there)) (by (try simp only [Array.size_setIfInBounds, putL_size]); first | exact Nat.le_of_ble_eq_true rfl | (simp; omega)) (by kernel_rfl) (by kernel_rfl) ?_; clear KN; intro wx KN)) | ((refine gate_new (by rfl) ?_); first | (refine wpList_kn_alloc KN (by rfl) 48 rfl 6 rfl #[.int .i64 0, .int .i64 0, .int .i64 0, .int .i64 0, .int .i32 0] (by kernel_rfl) ?_; clear KN; intro g6 wx hg6 KN) | (refine wpList_kn_alloc KN (by rfl) 80 rfl 7 rfl #[.pointer none, .slice none 0 0] (by kernel_rfl) ?_; clear KN; intro g7 wx hg7 KN) | (refine wpList_kn_alloc KN (by rfl) 48 rfl 9 rfl #[.int .i64 0, .int .i64 0, .int .i64 0, .int .i64 0, .int .i32 0] (by kernel_rfl) ?_; clear KN; intro g9 wx hg9 KN) | (refine wpList_kn_alloc KN (by rfl) 77 rfl 10 rfl #[.string ByteArray.empty, .string ByteArray.empty] (by kernel_rfl) ?_; clear KN; intro g10 wx hg10 KN))))
            have HREL3 : Hid (DisC t m g7 cc g9 g10 D x um uo w (bs ++ mnemOf x.op ++ opsK x 0) wx) := Lib.hid ⟨_, ol4, by rw [bytesL_app, bytesL_app, show bytesL (opsK x 0) = [] from rfl, List.append_nil, ← bytesL_str (mnemOf x.op), ← HUM.out]; exact HO4.out, KN⟩
            clear KN HO4
            have HMN : Hid ((mnemOf x.op).length ≤ 5) := Lib.hid (mnemOf_len o0 o1)
            go_wp2_with fail
            go_loopw [11, 61] (fun _ j wr => ∃ jj : Nat, j = .int .i64 (jj : Int) ∧ jj ≤ uo.size ∧ DisC t m g7 cc g9 g10 D x um uo w (bs ++ mnemOf x.op ++ opsK x jj) wr) (fun _ j _ => uo.size - (intOf j).toNat)
            case atStart => exact ⟨0, rfl, Nat.zero_le _, HREL3.out⟩
            case round =>
              obtain ⟨j, rfl, hj, v3, ol3, OW3, KN⟩ := hrel
              have HO3 := Lib.hid OW3
              clear OW3
              by_cases hjl : j < uo.size
              · have hul : uo.size = (operandsOf x.op).length := by rw [HUO.out, str_size]
                obtain ⟨kk, hk5, hix, hkl⟩ := op_kind o0 o1 (j := j) (by rw [← hul]; exact hjl)
                have hg := str_get HUO.out j hjl
                have HK3 : Hid ((opsK x j).length ≤ 72) := Lib.hid (by have := opsK_len x HXO.out j; omega)
                obtain ⟨ut, hut⟩ : ∃ u, u = str (opText ((operandsOf x.op).getD j 0) x) := ⟨_, rfl⟩
                have st : ut.size ≤ 22 := by rw [hut, str_size]; exact opText_len _ x HXO.out
                rw [← hg] at hix
                have HIX := Lib.hid hix
                have HKL := Lib.hid hkl
                have HUT := Lib.hid hut
                have HK5 := Lib.hid hk5
                have HXF : Hid x.fits := Lib.hid (H.out.2 x (List.mem_of_getElem? HX.out))
                clear hul hg hix hkl hut hk5
                rcases Nat.eq_zero_or_pos j with hj0 | hj0
                · have hjb : ((j : Int) == 0) = true := by rw [beq_iff_eq]; omega
                  have hsp : opsK x (j + 1) = opsK x j ++ ([32] ++ opText ((operandsOf x.op).getD j 0) x) := by rw [hj0]; rfl
                  have HSP := Lib.hid hsp
                  clear hj0 hsp
                  go_upto_region 25 with (first | (go_at_call 29; refine (WriteString_kn (f := fun o => (g10, _) :: (g9, _) :: (m, _) :: (t, _) :: o) (str [32]) (KN.perm (p3 _ _ _ _)) (.inr rfl) HO3.out (.cons _ (.cons _ (.cons _ (.cons _ .id)))) (by rw [bytesL_len, str_size]; have := HBL.out; have := HK3.out; have := HMN.out; rw [List.length_append, List.length_append]; show _ + 1 ≤ _; omega)).mono ?_; rintro e wx ⟨rfl, v5, ol5, OW5, K2⟩; clear KN; have KN := K2.perm (p3 _ _ _ _).symm; clear K2; have HO5 := Lib.hid OW5; clear OW5) | ((with_reducible refine wpList_gate ?_); first | ((refine gate_load (by rfl) ?_); first | (refine wpList_kn_loadW KN (by rfl) 48 _ rfl _ rfl _ _ (by repeat (first | exact Has.here | refine Has.there ?_)) _ Tryd.underlying48 rfl (by kernel_rfl) ?_) | (refine wpList_kn_load1 KN (by rfl) 3 _ rfl _ _ rfl _ _ (by repeat (first | exact Has.here | refine Has.there ?_)) _ (by (repeat (first | ((with_reducible refine get_hit ?_); exact Nat.le_of_ble_eq_true (by kernel_rfl)) | ((with_reducible refine (get_miss ?_).trans ?_); (focus kernel_rfl)) | ((with_reducible refine (get_pmiss ?_).trans ?_); (focus kernel_rfl)))); all_goals (conv => lhs; whnf; arg 1; whnf)) _ Tryd.underlying3 rfl ?_) | (refine wpList_kn_load1 KN (by rfl) 9 _ rfl _ _ rfl _ _ (by repeat (first | exact Has.here | refine Has.there ?_)) _ (by (repeat (first | ((with_reducible refine get_hit ?_); exact Nat.le_of_ble_eq_true (by kernel_rfl)) | ((with_reducible refine (get_miss ?_).trans ?_); (focus kernel_rfl)) | ((with_reducible refine (get_pmiss ?_).trans ?_); (focus kernel_rfl)))); all_goals (conv => lhs; whnf; arg 1; whnf)) _ Tryd.underlying9 rfl ?_) | (refine wpList_kn_load1 KN (by rfl) 21 _ rfl _ _ rfl _ _ (by repeat (first | exact Has.here | refine Has.there ?_)) _ (by (repeat (first | ((with_reducible refine get_hit ?_); exact Nat.le_of_ble_eq_true (by kernel_rfl)) | ((with_reducible refine (get_miss ?_).trans ?_); (focus kernel_rfl)) | ((with_reducible refine (get_pmiss ?_).trans ?_); (focus kernel_rfl)))); all_goals (conv => lhs; whnf; arg 1; whnf)) _ Tryd.underlying21 rfl ?_) | (refine wpList_kn_loadW KN (by rfl) 77 _ rfl _ rfl _ _ (by repeat (first | exact Has.here | refine Has.there ?_)) _ Tryd.underlying77 rfl (by kernel_rfl) ?_)) | ((refine gate_store (by rfl) ?_); first | (refine wpList_kn_storeW KN (by rfl) 48 _ _ rfl _ rfl _ rfl _ _ (by repeat (first | exact Repl.here | apply Repl.there)) (by kernel_rfl) (by kernel_rfl) (by kernel_rfl) ?_; clear KN; intro wx KN) | (refine wpList_kn_storeA KN (by rfl) 48 _ _ rfl _ _ rfl _ rfl _ _ (by repeat (first | exact Repl.here | apply Repl.there)) (by (try simp only [Array.size_setIfInBounds, putL_size]); first | exact Nat.le_of_ble_eq_true rfl | (simp; omega)) (by kernel_rfl) (by kernel_rfl) ?_; clear KN; intro wx KN) | (refine wpList_kn_storeW KN (by rfl) 77 _ _ rfl _ rfl _ rfl _ _ (by repeat (first | exact Repl.here | apply Repl.there)) (by kernel_rfl) (by kernel_rfl) (by kernel_rfl) ?_; clear KN; intro wx KN) | (refine wpList_kn_storeA KN (by rfl) 77 _ _ rfl _ _ rfl _ rfl _ _ (by repeat (first | exact Repl.here | apply Repl.there)) (by (try simp only [Array.size_setIfInBounds, putL_size]); first | exact Nat.le_of_ble_eq_true rfl | (simp; omega)) (by kernel_rfl) (by kernel_rfl) ?_; clear KN; intro wx KN)) | ((refine gate_new (by rfl) ?_); first | (refine wpList_kn_alloc KN (by rfl) 48 rfl 6 rfl #[.int .i64 0, .int .i64 0, .int .i64 0, .int .i64 0, .int .i32 0] (by kernel_rfl) ?_; clear KN; intro g6 wx hg6 KN) | (refine wpList_kn_alloc KN (by rfl) 80 rfl 7 rfl #[.pointer none, .slice none 0 0] (by kernel_rfl) ?_; clear KN; intro g7 wx hg7 KN) | (refine wpList_kn_alloc KN (by rfl) 48 rfl 9 rfl #[.int .i64 0, .int .i64 0, .int .i64 0, .int .i64 0, .int .i32 0] (by kernel_rfl) ?_; clear KN; intro g9 wx hg9 KN) | (refine wpList_kn_alloc KN (by rfl) 77 rfl 10 rfl #[.string ByteArray.empty, .string ByteArray.empty] (by kernel_rfl) ?_; clear KN; intro g10 wx hg10 KN))))
                  (try go_frame)
                  replace KN := KN.drew
                  refine wp_region_held_drew (S := (fun w' => BlkT w' g9 x.cells 48 ∧ BlkT w' g10 #[.string um, .string uo] 77)) (by kernel_rfl) ?qb1hS (fun hHeld => ?qb1rest)
                  case qb1hS => exact ⟨KN.at_ (by repeat (first | exact Has.here | refine Has.there ?_)), KN.at_ (by repeat (first | exact Has.here | refine Has.there ?_))⟩
                  refine wpAnyH_take (i := 0) (oi := ⟨some 68, _, _, _, _, _⟩) (v := (.agg x.cells)) rfl (by kernel_rfl) (by kernel_rfl) (by kernel_rfl) (fun _ _ _ h => h) (kn_yieldsN (by rfl) 48 _ rfl g9 0 rfl _ 48 (fun _ h => h.1) x.cells (extract_whole _) _ Tryd.underlying48 rfl (by kernel_rfl)) hHeld ?qb1r0
                  (try simp only [Act.put, List.setIfInBounds_toArray, List.set_cons_zero, List.set_cons_succ])
                  refine wpAnyH_take (i := 1) (oi := ⟨some 69, _, _, _, _, _⟩) (v := ?qb1v1) rfl (by kernel_rfl) (by kernel_rfl) (by kernel_rfl) (fun _ _ _ h => h) (Or.inl ⟨by rfl, ?qb1hy1⟩) hHeld ?qb1r1
                  case qb1hy1 => (intro w hSw; (try dsimp only at hSw); go_simp; (try with_reducible rfl))
                  (try simp only [Act.put, List.setIfInBounds_toArray, List.set_cons_zero, List.set_cons_succ])
                  refine wpAnyH_take (i := 2) (oi := ⟨some 70, _, _, _, _, _⟩) (v := (.string uo)) rfl (by kernel_rfl) (by kernel_rfl) (by kernel_rfl) (fun _ _ _ h => h) (kn_yields1 (by rfl) 9 _ rfl g10 1 rfl _ 77 (fun _ h => h.2) _ rfl _ Tryd.underlying9 rfl) hHeld ?qb1r2
                  (try simp only [Act.put, List.setIfInBounds_toArray, List.set_cons_zero, List.set_cons_succ])
                  refine wpAnyH_take (i := 3) (oi := ⟨some 71, _, _, _, _, _⟩) (v := ?qb1v3) rfl (by kernel_rfl) (by kernel_rfl) (by kernel_rfl) (fun _ _ _ h => h) (Or.inl ⟨by rfl, ?qb1hy3⟩) hHeld ?qb1r3
                  case qb1hy3 => (intro w hSw; (try dsimp only at hSw); go_simp; (try with_reducible rfl))
                  (try simp only [Act.put, List.setIfInBounds_toArray, List.set_cons_zero, List.set_cons_succ])
                  refine wpAnyH_take (i := 4) (oi := ⟨some 72, _, _, _, _, _⟩) (v := (.int .u8 ((uo[j]'hjl).toNat : Int))) rfl (by kernel_rfl) (by kernel_rfl) (by kernel_rfl) (fun _ _ _ h => h) (Or.inl ⟨by rfl, ?qb1hy4⟩) hHeld ?qb1r4
                  case qb1hy4 => (intro w hSw; (try dsimp only at hSw); go_simp; (try rfl))
                  (try simp only [Act.put, List.setIfInBounds_toArray, List.set_cons_zero, List.set_cons_succ])
                  refine wpAnyH_ready (rs := [5]) (by kernel_rfl) (by simp) ?qb1c5
                  refine AllReadyH.cons (o := ⟨some 73, _, _, _, _, _⟩) rfl (fun K hK => ?qb1st5) AllReadyH.nil
                  go_simp
                  (refine (operand_any (uo[j]'hjl) _).mono ?_; rintro e w' ⟨rfl, rfl⟩; rw [HIX.out])
                  refine hK.out _ _ ?qb1k5 (fun hHeld2 => ?qb1m5)
                  case qb1k5 => exact ⟨KN.at_ (by repeat (first | exact Has.here | refine Has.there ?_)), KN.at_ (by repeat (first | exact Has.here | refine Has.there ?_))⟩
                  clear hK K hHeld
                  have hHeld := hHeld2; clear hHeld2
                  (try simp only [Act.put, List.setIfInBounds_toArray, List.set_cons_zero, List.set_cons_succ])
                  refine wpAnyH_ready (rs := [6]) (by kernel_rfl) (by simp) ?qb1c6
                  refine AllReadyH.cons (o := ⟨some 74, _, _, _, _, _⟩) rfl (fun K hK => ?qb1st6) AllReadyH.nil
                  go_simp
                  (refine (write_any x kk HK5.out _ (HP.out.below KN.toBelow) HXF.out HXO.out.a HXO.out.b HXO.out.c).mono ?_; rintro e wx ⟨rfl, hb⟩; replace KN := KN.below hb; clear hb; rw [HKL.out, ← HUT.out])
                  refine hK.out _ _ ?qb1k6 (fun hHeld2 => ?qb1m6)
                  case qb1k6 => exact ⟨KN.at_ (by repeat (first | exact Has.here | refine Has.there ?_)), KN.at_ (by repeat (first | exact Has.here | refine Has.there ?_))⟩
                  clear hK K hHeld
                  have hHeld := hHeld2; clear hHeld2
                  (try simp only [Act.put, List.setIfInBounds_toArray, List.set_cons_zero, List.set_cons_succ])
                  refine wpAnyH_ready (rs := [7]) (by kernel_rfl) (by simp) ?qb1c7
                  refine AllReadyH.cons (o := ⟨some 75, _, _, _, _, _⟩) rfl (fun K hK => ?qb1st7) AllReadyH.nil
                  go_simp
                  (refine (WriteString_kn (f := fun o => (g10, _) :: (g9, _) :: (m, _) :: (t, _) :: o) ut (KN.perm (p3 _ _ _ _)) (.inr rfl) HO5.out (.cons _ (.cons _ (.cons _ (.cons _ .id)))) (by rw [List.length_append, bytesL_len, List.length_map, Lib.strCells_length, str_size]; have := HBL.out; have := HK3.out; have := HMN.out; rw [List.length_append, List.length_append]; show _ + 1 + _ ≤ _; omega)).mono ?_; rintro e wx ⟨rfl, v6, ol6, OW6, K2⟩; clear KN; have KN := K2.perm (p3 _ _ _ _).symm; clear K2; have HO6 := Lib.hid OW6; clear OW6)
                  refine hK.out _ _ ?qb1k7 (fun hHeld2 => ?qb1m7)
                  case qb1k7 => exact ⟨KN.at_ (by repeat (first | exact Has.here | refine Has.there ?_)), KN.at_ (by repeat (first | exact Has.here | refine Has.there ?_))⟩
                  clear hK K hHeld
                  have hHeld := hHeld2; clear hHeld2
                  (try simp only [Act.put, List.setIfInBounds_toArray, List.set_cons_zero, List.set_cons_succ])
                  refine wpAnyH_done (by kernel_rfl) ?qb1done _
                  go_wp2_with fail
                  go_roundw
                  case rel =>
                    refine ⟨j + 1, by go_num, by omega, v6, ol6, ?_, KN⟩
                    have := HO6.out
                    rw [bytesL_str, HUT.out, bytesL_str, List.append_assoc, ← bytesL_app, ← bytesL_app, List.append_assoc (bs ++ mnemOf x.op), ← HSP.out] at this
                    exact this
                  case measure => simp [intOf]; omega
                · have hjb : ((j : Int) == 0) = false := by rw [beq_eq_false_iff_ne]; omega
                  have hsp : opsK x (j + 1) = opsK x j ++ ([44, 32] ++ opText ((operandsOf x.op).getD j 0) x) := by rw [opsK]; rw [if_neg (show ¬ j = 0 by omega)]
                  have HSP := Lib.hid hsp
                  clear hj0 hsp
                  go_upto_region 25 with (first | (go_at_call 29; refine (WriteString_kn (f := fun o => (g10, _) :: (g9, _) :: (m, _) :: (t, _) :: o) (str [44, 32]) (KN.perm (p3 _ _ _ _)) (.inr rfl) HO3.out (.cons _ (.cons _ (.cons _ (.cons _ .id)))) (by rw [bytesL_len, str_size]; have := HBL.out; have := HK3.out; have := HMN.out; rw [List.length_append, List.length_append]; show _ + 2 ≤ _; omega)).mono ?_; rintro e wx ⟨rfl, v5, ol5, OW5, K2⟩; clear KN; have KN := K2.perm (p3 _ _ _ _).symm; clear K2; have HO5 := Lib.hid OW5; clear OW5) | ((with_reducible refine wpList_gate ?_); first | ((refine gate_load (by rfl) ?_); first | (refine wpList_kn_loadW KN (by rfl) 48 _ rfl _ rfl _ _ (by repeat (first | exact Has.here | refine Has.there ?_)) _ Tryd.underlying48 rfl (by kernel_rfl) ?_) | (refine wpList_kn_load1 KN (by rfl) 3 _ rfl _ _ rfl _ _ (by repeat (first | exact Has.here | refine Has.there ?_)) _ (by (repeat (first | ((with_reducible refine get_hit ?_); exact Nat.le_of_ble_eq_true (by kernel_rfl)) | ((with_reducible refine (get_miss ?_).trans ?_); (focus kernel_rfl)) | ((with_reducible refine (get_pmiss ?_).trans ?_); (focus kernel_rfl)))); all_goals (conv => lhs; whnf; arg 1; whnf)) _ Tryd.underlying3 rfl ?_) | (refine wpList_kn_load1 KN (by rfl) 9 _ rfl _ _ rfl _ _ (by repeat (first | exact Has.here | refine Has.there ?_)) _ (by (repeat (first | ((with_reducible refine get_hit ?_); exact Nat.le_of_ble_eq_true (by kernel_rfl)) | ((with_reducible refine (get_miss ?_).trans ?_); (focus kernel_rfl)) | ((with_reducible refine (get_pmiss ?_).trans ?_); (focus kernel_rfl)))); all_goals (conv => lhs; whnf; arg 1; whnf)) _ Tryd.underlying9 rfl ?_) | (refine wpList_kn_load1 KN (by rfl) 21 _ rfl _ _ rfl _ _ (by repeat (first | exact Has.here | refine Has.there ?_)) _ (by (repeat (first | ((with_reducible refine get_hit ?_); exact Nat.le_of_ble_eq_true (by kernel_rfl)) | ((with_reducible refine (get_miss ?_).trans ?_); (focus kernel_rfl)) | ((with_reducible refine (get_pmiss ?_).trans ?_); (focus kernel_rfl)))); all_goals (conv => lhs; whnf; arg 1; whnf)) _ Tryd.underlying21 rfl ?_) | (refine wpList_kn_loadW KN (by rfl) 77 _ rfl _ rfl _ _ (by repeat (first | exact Has.here | refine Has.there ?_)) _ Tryd.underlying77 rfl (by kernel_rfl) ?_)) | ((refine gate_store (by rfl) ?_); first | (refine wpList_kn_storeW KN (by rfl) 48 _ _ rfl _ rfl _ rfl _ _ (by repeat (first | exact Repl.here | apply Repl.there)) (by kernel_rfl) (by kernel_rfl) (by kernel_rfl) ?_; clear KN; intro wx KN) | (refine wpList_kn_storeA KN (by rfl) 48 _ _ rfl _ _ rfl _ rfl _ _ (by repeat (first | exact Repl.here | apply Repl.there)) (by (try simp only [Array.size_setIfInBounds, putL_size]); first | exact Nat.le_of_ble_eq_true rfl | (simp; omega)) (by kernel_rfl) (by kernel_rfl) ?_; clear KN; intro wx KN) | (refine wpList_kn_storeW KN (by rfl) 77 _ _ rfl _ rfl _ rfl _ _ (by repeat (first | exact Repl.here | apply Repl.there)) (by kernel_rfl) (by kernel_rfl) (by kernel_rfl) ?_; clear KN; intro wx KN) | (refine wpList_kn_storeA KN (by rfl) 77 _ _ rfl _ _ rfl _ rfl _ _ (by repeat (first | exact Repl.here | apply Repl.there)) (by (try simp only [Array.size_setIfInBounds, putL_size]); first | exact Nat.le_of_ble_eq_true rfl | (simp; omega)) (by kernel_rfl) (by kernel_rfl) ?_; clear KN; intro wx KN)) | ((refine gate_new (by rfl) ?_); first | (refine wpList_kn_alloc KN (by rfl) 48 rfl 6 rfl #[.int .i64 0, .int .i64 0, .int .i64 0, .int .i64 0, .int .i32 0] (by kernel_rfl) ?_; clear KN; intro g6 wx hg6 KN) | (refine wpList_kn_alloc KN (by rfl) 80 rfl 7 rfl #[.pointer none, .slice none 0 0] (by kernel_rfl) ?_; clear KN; intro g7 wx hg7 KN) | (refine wpList_kn_alloc KN (by rfl) 48 rfl 9 rfl #[.int .i64 0, .int .i64 0, .int .i64 0, .int .i64 0, .int .i32 0] (by kernel_rfl) ?_; clear KN; intro g9 wx hg9 KN) | (refine wpList_kn_alloc KN (by rfl) 77 rfl 10 rfl #[.string ByteArray.empty, .string ByteArray.empty] (by kernel_rfl) ?_; clear KN; intro g10 wx hg10 KN))))
                  (try go_frame)
                  replace KN := KN.drew
                  refine wp_region_held_drew (S := (fun w' => BlkT w' g9 x.cells 48 ∧ BlkT w' g10 #[.string um, .string uo] 77)) (by kernel_rfl) ?qb2hS (fun hHeld => ?qb2rest)
                  case qb2hS => exact ⟨KN.at_ (by repeat (first | exact Has.here | refine Has.there ?_)), KN.at_ (by repeat (first | exact Has.here | refine Has.there ?_))⟩
                  refine wpAnyH_take (i := 0) (oi := ⟨some 68, _, _, _, _, _⟩) (v := (.agg x.cells)) rfl (by kernel_rfl) (by kernel_rfl) (by kernel_rfl) (fun _ _ _ h => h) (kn_yieldsN (by rfl) 48 _ rfl g9 0 rfl _ 48 (fun _ h => h.1) x.cells (extract_whole _) _ Tryd.underlying48 rfl (by kernel_rfl)) hHeld ?qb2r0
                  (try simp only [Act.put, List.setIfInBounds_toArray, List.set_cons_zero, List.set_cons_succ])
                  refine wpAnyH_take (i := 1) (oi := ⟨some 69, _, _, _, _, _⟩) (v := ?qb2v1) rfl (by kernel_rfl) (by kernel_rfl) (by kernel_rfl) (fun _ _ _ h => h) (Or.inl ⟨by rfl, ?qb2hy1⟩) hHeld ?qb2r1
                  case qb2hy1 => (intro w hSw; (try dsimp only at hSw); go_simp; (try with_reducible rfl))
                  (try simp only [Act.put, List.setIfInBounds_toArray, List.set_cons_zero, List.set_cons_succ])
                  refine wpAnyH_take (i := 2) (oi := ⟨some 70, _, _, _, _, _⟩) (v := (.string uo)) rfl (by kernel_rfl) (by kernel_rfl) (by kernel_rfl) (fun _ _ _ h => h) (kn_yields1 (by rfl) 9 _ rfl g10 1 rfl _ 77 (fun _ h => h.2) _ rfl _ Tryd.underlying9 rfl) hHeld ?qb2r2
                  (try simp only [Act.put, List.setIfInBounds_toArray, List.set_cons_zero, List.set_cons_succ])
                  refine wpAnyH_take (i := 3) (oi := ⟨some 71, _, _, _, _, _⟩) (v := ?qb2v3) rfl (by kernel_rfl) (by kernel_rfl) (by kernel_rfl) (fun _ _ _ h => h) (Or.inl ⟨by rfl, ?qb2hy3⟩) hHeld ?qb2r3
                  case qb2hy3 => (intro w hSw; (try dsimp only at hSw); go_simp; (try with_reducible rfl))
                  (try simp only [Act.put, List.setIfInBounds_toArray, List.set_cons_zero, List.set_cons_succ])
                  refine wpAnyH_take (i := 4) (oi := ⟨some 72, _, _, _, _, _⟩) (v := (.int .u8 ((uo[j]'hjl).toNat : Int))) rfl (by kernel_rfl) (by kernel_rfl) (by kernel_rfl) (fun _ _ _ h => h) (Or.inl ⟨by rfl, ?qb2hy4⟩) hHeld ?qb2r4
                  case qb2hy4 => (intro w hSw; (try dsimp only at hSw); go_simp; (try rfl))
                  (try simp only [Act.put, List.setIfInBounds_toArray, List.set_cons_zero, List.set_cons_succ])
                  refine wpAnyH_ready (rs := [5]) (by kernel_rfl) (by simp) ?qb2c5
                  refine AllReadyH.cons (o := ⟨some 73, _, _, _, _, _⟩) rfl (fun K hK => ?qb2st5) AllReadyH.nil
                  go_simp
                  (refine (operand_any (uo[j]'hjl) _).mono ?_; rintro e w' ⟨rfl, rfl⟩; rw [HIX.out])
                  refine hK.out _ _ ?qb2k5 (fun hHeld2 => ?qb2m5)
                  case qb2k5 => exact ⟨KN.at_ (by repeat (first | exact Has.here | refine Has.there ?_)), KN.at_ (by repeat (first | exact Has.here | refine Has.there ?_))⟩
                  clear hK K hHeld
                  have hHeld := hHeld2; clear hHeld2
                  (try simp only [Act.put, List.setIfInBounds_toArray, List.set_cons_zero, List.set_cons_succ])
                  refine wpAnyH_ready (rs := [6]) (by kernel_rfl) (by simp) ?qb2c6
                  refine AllReadyH.cons (o := ⟨some 74, _, _, _, _, _⟩) rfl (fun K hK => ?qb2st6) AllReadyH.nil
                  go_simp
                  (refine (write_any x kk HK5.out _ (HP.out.below KN.toBelow) HXF.out HXO.out.a HXO.out.b HXO.out.c).mono ?_; rintro e wx ⟨rfl, hb⟩; replace KN := KN.below hb; clear hb; rw [HKL.out, ← HUT.out])
                  refine hK.out _ _ ?qb2k6 (fun hHeld2 => ?qb2m6)
                  case qb2k6 => exact ⟨KN.at_ (by repeat (first | exact Has.here | refine Has.there ?_)), KN.at_ (by repeat (first | exact Has.here | refine Has.there ?_))⟩
                  clear hK K hHeld
                  have hHeld := hHeld2; clear hHeld2
                  (try simp only [Act.put, List.setIfInBounds_toArray, List.set_cons_zero, List.set_cons_succ])
                  refine wpAnyH_ready (rs := [7]) (by kernel_rfl) (by simp) ?qb2c7
                  refine AllReadyH.cons (o := ⟨some 75, _, _, _, _, _⟩) rfl (fun K hK => ?qb2st7) AllReadyH.nil
                  go_simp
                  (refine (WriteString_kn (f := fun o => (g10, _) :: (g9, _) :: (m, _) :: (t, _) :: o) ut (KN.perm (p3 _ _ _ _)) (.inr rfl) HO5.out (.cons _ (.cons _ (.cons _ (.cons _ .id)))) (by rw [List.length_append, bytesL_len, List.length_map, Lib.strCells_length, str_size]; have := HBL.out; have := HK3.out; have := HMN.out; rw [List.length_append, List.length_append]; show _ + 2 + _ ≤ _; omega)).mono ?_; rintro e wx ⟨rfl, v6, ol6, OW6, K2⟩; clear KN; have KN := K2.perm (p3 _ _ _ _).symm; clear K2; have HO6 := Lib.hid OW6; clear OW6)
                  refine hK.out _ _ ?qb2k7 (fun hHeld2 => ?qb2m7)
                  case qb2k7 => exact ⟨KN.at_ (by repeat (first | exact Has.here | refine Has.there ?_)), KN.at_ (by repeat (first | exact Has.here | refine Has.there ?_))⟩
                  clear hK K hHeld
                  have hHeld := hHeld2; clear hHeld2
                  (try simp only [Act.put, List.setIfInBounds_toArray, List.set_cons_zero, List.set_cons_succ])
                  refine wpAnyH_done (by kernel_rfl) ?qb2done _
                  go_wp2_with fail
                  go_roundw
                  case rel =>
                    refine ⟨j + 1, by go_num, by omega, v6, ol6, ?_, KN⟩
                    have := HO6.out
                    rw [bytesL_str, HUT.out, bytesL_str, List.append_assoc, ← bytesL_app, ← bytesL_app, List.append_assoc (bs ++ mnemOf x.op), ← HSP.out] at this
                    exact this
                  case measure => simp [intOf]; omega
              · have hjn : opsK x j = opsText x true (operandsOf x.op) := by rw [← opsK_all x o0 o1, show j = (operandsOf x.op).length by rw [← str_size, ← HUO.out]; omega]
                have HJN := Lib.hid hjn
                have HK3 : Hid ((opsK x j).length ≤ 72) := Lib.hid (by have := opsK_len x HXO.out j; omega)
                clear hjn
                go_wp2_with (first | (go_at_call 29; refine (WriteString_kn (f := fun o => (g10, _) :: (g9, _) :: (m, _) :: (t, _) :: o) (str [59, 10]) (KN.perm (p3 _ _ _ _)) (.inr rfl) HO3.out (.cons _ (.cons _ (.cons _ (.cons _ .id)))) (by rw [bytesL_len, str_size]; have := HBL.out; have := HK3.out; have := HMN.out; rw [List.length_append, List.length_append]; show _ + 2 ≤ _; omega)).mono ?_; rintro e wx ⟨rfl, v7, ol7, OW7, K2⟩; clear KN; have KN := K2.perm (p3 _ _ _ _).symm; clear K2; have HO7 := Lib.hid OW7; clear OW7) | ((with_reducible refine wpList_gate ?_); first | ((refine gate_load (by rfl) ?_); first | (refine wpList_kn_loadW KN (by rfl) 48 _ rfl _ rfl _ _ (by repeat (first | exact Has.here | refine Has.there ?_)) _ Tryd.underlying48 rfl (by kernel_rfl) ?_) | (refine wpList_kn_load1 KN (by rfl) 3 _ rfl _ _ rfl _ _ (by repeat (first | exact Has.here | refine Has.there ?_)) _ (by (repeat (first | ((with_reducible refine get_hit ?_); exact Nat.le_of_ble_eq_true (by kernel_rfl)) | ((with_reducible refine (get_miss ?_).trans ?_); (focus kernel_rfl)) | ((with_reducible refine (get_pmiss ?_).trans ?_); (focus kernel_rfl)))); all_goals (conv => lhs; whnf; arg 1; whnf)) _ Tryd.underlying3 rfl ?_) | (refine wpList_kn_load1 KN (by rfl) 9 _ rfl _ _ rfl _ _ (by repeat (first | exact Has.here | refine Has.there ?_)) _ (by (repeat (first | ((with_reducible refine get_hit ?_); exact Nat.le_of_ble_eq_true (by kernel_rfl)) | ((with_reducible refine (get_miss ?_).trans ?_); (focus kernel_rfl)) | ((with_reducible refine (get_pmiss ?_).trans ?_); (focus kernel_rfl)))); all_goals (conv => lhs; whnf; arg 1; whnf)) _ Tryd.underlying9 rfl ?_) | (refine wpList_kn_load1 KN (by rfl) 21 _ rfl _ _ rfl _ _ (by repeat (first | exact Has.here | refine Has.there ?_)) _ (by (repeat (first | ((with_reducible refine get_hit ?_); exact Nat.le_of_ble_eq_true (by kernel_rfl)) | ((with_reducible refine (get_miss ?_).trans ?_); (focus kernel_rfl)) | ((with_reducible refine (get_pmiss ?_).trans ?_); (focus kernel_rfl)))); all_goals (conv => lhs; whnf; arg 1; whnf)) _ Tryd.underlying21 rfl ?_) | (refine wpList_kn_loadW KN (by rfl) 77 _ rfl _ rfl _ _ (by repeat (first | exact Has.here | refine Has.there ?_)) _ Tryd.underlying77 rfl (by kernel_rfl) ?_)) | ((refine gate_store (by rfl) ?_); first | (refine wpList_kn_storeW KN (by rfl) 48 _ _ rfl _ rfl _ rfl _ _ (by repeat (first | exact Repl.here | apply Repl.there)) (by kernel_rfl) (by kernel_rfl) (by kernel_rfl) ?_; clear KN; intro wx KN) | (refine wpList_kn_storeA KN (by rfl) 48 _ _ rfl _ _ rfl _ rfl _ _ (by repeat (first | exact Repl.here | apply Repl.there)) (by (try simp only [Array.size_setIfInBounds, putL_size]); first | exact Nat.le_of_ble_eq_true rfl | (simp; omega)) (by kernel_rfl) (by kernel_rfl) ?_; clear KN; intro wx KN) | (refine wpList_kn_storeW KN (by rfl) 77 _ _ rfl _ rfl _ rfl _ _ (by repeat (first | exact Repl.here | apply Repl.there)) (by kernel_rfl) (by kernel_rfl) (by kernel_rfl) ?_; clear KN; intro wx KN) | (refine wpList_kn_storeA KN (by rfl) 77 _ _ rfl _ _ rfl _ rfl _ _ (by repeat (first | exact Repl.here | apply Repl.there)) (by (try simp only [Array.size_setIfInBounds, putL_size]); first | exact Nat.le_of_ble_eq_true rfl | (simp; omega)) (by kernel_rfl) (by kernel_rfl) ?_; clear KN; intro wx KN)) | ((refine gate_new (by rfl) ?_); first | (refine wpList_kn_alloc KN (by rfl) 48 rfl 6 rfl #[.int .i64 0, .int .i64 0, .int .i64 0, .int .i64 0, .int .i32 0] (by kernel_rfl) ?_; clear KN; intro g6 wx hg6 KN) | (refine wpList_kn_alloc KN (by rfl) 80 rfl 7 rfl #[.pointer none, .slice none 0 0] (by kernel_rfl) ?_; clear KN; intro g7 wx hg7 KN) | (refine wpList_kn_alloc KN (by rfl) 48 rfl 9 rfl #[.int .i64 0, .int .i64 0, .int .i64 0, .int .i64 0, .int .i32 0] (by kernel_rfl) ?_; clear KN; intro g9 wx hg9 KN) | (refine wpList_kn_alloc KN (by rfl) 77 rfl 10 rfl #[.string ByteArray.empty, .string ByteArray.empty] (by kernel_rfl) ?_; clear KN; intro g10 wx hg10 KN))))
                go_roundw
                case rel =>
                  refine ⟨k + 1, _, v7, ol7, by go_num, by omega, .inr rfl, ?_, (KN.drop .here).drop .here⟩
                  have := HO7.out
                  rw [bytesL_str, ← bytesL_app, HJN.out, HBS.out] at this
                  rw [txtK_succ HX.out]
                  unfold insText
                  have e : txtK p k ++ (labText p k ++ (mnemOf x.op ++ (opsText x true (operandsOf x.op) ++ [59, 10]))) = txtK p k ++ labText p k ++ mnemOf x.op ++ opsText x true (operandsOf x.op) ++ [59, 10] := by simp only [List.append_assoc]
                  rw [e]
                  exact this
                case measure => simp [intOf]; omega
        · have hkn : k = p.length := by rw [← HN.out]; omega
          have HTX : Hid (txtK p k = linesT p 0 p) := Lib.hid (by rw [hkn, txtK_all])
          have HO := Lib.hid OW
          have HPB := Lib.hid hpb
          clear hkn OW hpb
          go_wp2_with (first | (go_at_call 33; refine (Tryd.Builder_String_any w.heap.size g7 (txtK p k) _ (Kn.isBuilder (f := fun o => (m, _) :: (t, _) :: o) KN HO.out (.cons _ (.cons _ .id)) HPB.out) KN.size).mono ?_; rintro e w1 ⟨rfl, hb⟩) | ((with_reducible refine wpList_gate ?_); first | ((refine gate_load (by rfl) ?_); first | (refine wpList_kn_loadW KN (by rfl) 48 _ rfl _ rfl _ _ (by repeat (first | exact Has.here | refine Has.there ?_)) _ Tryd.underlying48 rfl (by kernel_rfl) ?_) | (refine wpList_kn_load1 KN (by rfl) 3 _ rfl _ _ rfl _ _ (by repeat (first | exact Has.here | refine Has.there ?_)) _ (by (repeat (first | ((with_reducible refine get_hit ?_); exact Nat.le_of_ble_eq_true (by kernel_rfl)) | ((with_reducible refine (get_miss ?_).trans ?_); (focus kernel_rfl)) | ((with_reducible refine (get_pmiss ?_).trans ?_); (focus kernel_rfl)))); all_goals (conv => lhs; whnf; arg 1; whnf)) _ Tryd.underlying3 rfl ?_) | (refine wpList_kn_load1 KN (by rfl) 9 _ rfl _ _ rfl _ _ (by repeat (first | exact Has.here | refine Has.there ?_)) _ (by (repeat (first | ((with_reducible refine get_hit ?_); exact Nat.le_of_ble_eq_true (by kernel_rfl)) | ((with_reducible refine (get_miss ?_).trans ?_); (focus kernel_rfl)) | ((with_reducible refine (get_pmiss ?_).trans ?_); (focus kernel_rfl)))); all_goals (conv => lhs; whnf; arg 1; whnf)) _ Tryd.underlying9 rfl ?_) | (refine wpList_kn_load1 KN (by rfl) 21 _ rfl _ _ rfl _ _ (by repeat (first | exact Has.here | refine Has.there ?_)) _ (by (repeat (first | ((with_reducible refine get_hit ?_); exact Nat.le_of_ble_eq_true (by kernel_rfl)) | ((with_reducible refine (get_miss ?_).trans ?_); (focus kernel_rfl)) | ((with_reducible refine (get_pmiss ?_).trans ?_); (focus kernel_rfl)))); all_goals (conv => lhs; whnf; arg 1; whnf)) _ Tryd.underlying21 rfl ?_) | (refine wpList_kn_loadW KN (by rfl) 77 _ rfl _ rfl _ _ (by repeat (first | exact Has.here | refine Has.there ?_)) _ Tryd.underlying77 rfl (by kernel_rfl) ?_)) | ((refine gate_store (by rfl) ?_); first | (refine wpList_kn_storeW KN (by rfl) 48 _ _ rfl _ rfl _ rfl _ _ (by repeat (first | exact Repl.here | apply Repl.there)) (by kernel_rfl) (by kernel_rfl) (by kernel_rfl) ?_; clear KN; intro wx KN) | (refine wpList_kn_storeA KN (by rfl) 48 _ _ rfl _ _ rfl _ rfl _ _ (by repeat (first | exact Repl.here | apply Repl.there)) (by (try simp only [Array.size_setIfInBounds, putL_size]); first | exact Nat.le_of_ble_eq_true rfl | (simp; omega)) (by kernel_rfl) (by kernel_rfl) ?_; clear KN; intro wx KN) | (refine wpList_kn_storeW KN (by rfl) 77 _ _ rfl _ rfl _ rfl _ _ (by repeat (first | exact Repl.here | apply Repl.there)) (by kernel_rfl) (by kernel_rfl) (by kernel_rfl) ?_; clear KN; intro wx KN) | (refine wpList_kn_storeA KN (by rfl) 77 _ _ rfl _ _ rfl _ rfl _ _ (by repeat (first | exact Repl.here | apply Repl.there)) (by (try simp only [Array.size_setIfInBounds, putL_size]); first | exact Nat.le_of_ble_eq_true rfl | (simp; omega)) (by kernel_rfl) (by kernel_rfl) ?_; clear KN; intro wx KN)) | ((refine gate_new (by rfl) ?_); first | (refine wpList_kn_alloc KN (by rfl) 48 rfl 6 rfl #[.int .i64 0, .int .i64 0, .int .i64 0, .int .i64 0, .int .i32 0] (by kernel_rfl) ?_; clear KN; intro g6 wx hg6 KN) | (refine wpList_kn_alloc KN (by rfl) 80 rfl 7 rfl #[.pointer none, .slice none 0 0] (by kernel_rfl) ?_; clear KN; intro g7 wx hg7 KN) | (refine wpList_kn_alloc KN (by rfl) 48 rfl 9 rfl #[.int .i64 0, .int .i64 0, .int .i64 0, .int .i64 0, .int .i32 0] (by kernel_rfl) ?_; clear KN; intro g9 wx hg9 KN) | (refine wpList_kn_alloc KN (by rfl) 77 rfl 10 rfl #[.string ByteArray.empty, .string ByteArray.empty] (by kernel_rfl) ?_; clear KN; intro g10 wx hg10 KN))))
          go_ret
          exact ⟨by rw [HTX.out]; rfl, KN.toBelow.trans hb⟩
theorem Disassemble_any (va : Value) (p : List Ins) (w : World) (h : Instrs w va p) (hp : Pow w) :
    Calls Tryd.prog 11 #[va] w fun e w' => e = .returned (.string (str (disL p))) ∧ Below w.heap.size w w' := by
  unfold disL
  by_cases he : progErr p = 0
  · rw [if_pos he]; exact Dis_ok va p w h hp he
  · rw [if_neg he]; exact Disassemble_bad va p w h he
end
end Go.Proofs.YtemigcdieghkfabDoor
