/- Merged: Fmt, Valid, Validate. -/
import Derived.Test.YtemigcdieghkfaaDoorPkBase0
import Derived.Test.YtemigcdieghkfaaDoorPkRead
import Derived.Test.YtemigcdieghkfaaDoorPkScanAB
import Derived.Lib.IndexAny
set_option linter.unusedVariables false
set_option linter.unusedSimpArgs false
set_option linter.unusedSectionVars false
namespace Go.Proofs.YtemigcdieghkfaaDoor
section
open Go.RowKit

/-- strings.HasSuffix at the strings of the table and one letter. -/
theorem HasSuffix_op (op : Int) (c : UInt8) (hc : c = 105 ∨ c = 116) (w : World) (h0 : 0 ≤ op) (h1 : op ≤ 27) :
    Calls Tryd.prog 41 #[.string (str (operandsOf op)), .string ⟨#[c]⟩] w fun e w' => e = .returned (.bool (uses op c)) ∧ w = w' := by
  have ho : op = 0 ∨ op = 1 ∨ op = 2 ∨ op = 3 ∨ op = 4 ∨ op = 5 ∨ op = 6 ∨ op = 7 ∨ op = 8 ∨ op = 9 ∨ op = 10 ∨ op = 11 ∨ op = 12 ∨ op = 13 ∨ op = 14 ∨ op = 15 ∨ op = 16 ∨ op = 17 ∨ op = 18 ∨ op = 19 ∨ op = 20 ∨ op = 21 ∨ op = 22 ∨ op = 23 ∨ op = 24 ∨ op = 25 ∨ op = 26 ∨ op = 27 := by omega
  have key : ∀ l : List UInt8, l ∈ operandsL → Calls Tryd.prog 41 #[.string (str l), .string ⟨#[c]⟩] w fun e w' => e = .returned (.bool (l.contains c)) ∧ w = w' := by
    intro l hl
    have hl' : l = [] ∨ l = [97, 105] ∨ l = [97, 98] ∨ l = [97, 98, 99] ∨ l = [97, 98, 105] ∨ l = [116] ∨ l = [97, 116] ∨ l = [97] ∨ l = [105] := by revert l; decide
    rcases hl' with rfl | rfl | rfl | rfl | rfl | rfl | rfl | rfl | rfl <;> rcases hc with rfl | rfl
    all_goals
      unfold str
      go_enter Tryd.func41, Tryd.ntmps41
      go_wp2
      go_ret
      refine ⟨ret_bool ?_, rfl⟩
      first | (rw [Lib.toList_data, Lib.extract_data]; rfl) | rfl
  have hm : operandsOf op ∈ operandsL := by
    unfold operandsOf
    rcases ho with rfl | rfl | rfl | rfl | rfl | rfl | rfl | rfl | rfl | rfl | rfl | rfl | rfl | rfl | rfl | rfl | rfl | rfl | rfl | rfl | rfl | rfl | rfl | rfl | rfl | rfl | rfl | rfl <;> decide
  exact key _ hm

def mnemL : List (List UInt8) := [[104, 97, 108, 116], [108, 105], [108, 105, 104], [109, 111, 118], [97, 100, 100], [115, 117, 98], [109, 117, 108], [100, 105, 118], [114, 101, 109], [97, 110, 100], [111, 114], [120, 111, 114], [115, 104, 108], [115, 104, 114], [97, 100, 100, 105], [115, 108, 116], [115, 108, 116, 117], [115, 101, 113], [106, 109, 112], [98, 101, 113, 122], [98, 110, 101, 122], [106, 97, 108], [106, 114], [108, 100], [115, 116], [115, 121, 115], [121, 105, 101, 108, 100], [110, 111, 112]]
def mnemOf (op : Int) : List UInt8 := mnemL.getD op.toNat []
def fmtL : List Value := (mnemL.zip operandsL).flatMap fun x => [Value.string (str x.1), .string (str x.2)]
def fmtA : Array Value := fmtL.toArray
/-- The table of the formats lies in block t. -/
def FT (w : World) (t : Nat) : Prop := w.heap[t]? = some (.cells fmtA 92)
theorem FT.cell {w : World} {t : Nat} (h : FT w t) (op : Int) (h0 : 0 ≤ op) (h1 : op ≤ 27) :
    w.cell? ⟨t, op.toNat * 2, none⟩ = some (.string (str (mnemOf op))) ∧ w.cell? ⟨t, op.toNat * 2 + 1, none⟩ = some (.string (str (operandsOf op))) := by
  unfold FT at h
  simp only [World.cell?, h]
  have ho : op = 0 ∨ op = 1 ∨ op = 2 ∨ op = 3 ∨ op = 4 ∨ op = 5 ∨ op = 6 ∨ op = 7 ∨ op = 8 ∨ op = 9 ∨ op = 10 ∨ op = 11 ∨ op = 12 ∨ op = 13 ∨ op = 14 ∨ op = 15 ∨ op = 16 ∨ op = 17 ∨ op = 18 ∨ op = 19 ∨ op = 20 ∨ op = 21 ∨ op = 22 ∨ op = 23 ∨ op = 24 ∨ op = 25 ∨ op = 26 ∨ op = 27 := by omega
  rcases ho with rfl | rfl | rfl | rfl | rfl | rfl | rfl | rfl | rfl | rfl | rfl | rfl | rfl | rfl | rfl | rfl | rfl | rfl | rfl | rfl | rfl | rfl | rfl | rfl | rfl | rfl | rfl | rfl <;> exact ⟨rfl, rfl⟩
theorem FT.lt {w : World} {t : Nat} (h : FT w t) : t < w.heap.size := (Array.getElem?_eq_some_iff.1 h).1
theorem FT.below {w w' : World} {t : Nat} (h : FT w t) (hb : Below w.heap.size w w') : FT w' t := (hb.block t h.lt).trans h
def FmtPost (w : World) (e : Ending) (w' : World) : Prop := e = .returned (.slice (some ⟨w.heap.size, 0, none⟩) 28 28) ∧ FT w' w.heap.size ∧ Below w.heap.size w w' ∧ w.heap.size < w'.heap.size
set_option maxHeartbeats 1000000 in
theorem formats_any (w : World) : Calls Tryd.prog 25 #[] w (FmtPost w) := by
  go_enter Tryd.func25, Tryd.ntmps25
  go_wp2
  go_ret
  refine ⟨rfl, ?_, (Below.refl _ _).alloc (Nat.le_refl _) _, by simp⟩
  unfold FT
  rw [heap_alloc_new]
  kernel_rfl
end
section
open Go.RowKit

theorem ib_uses (op : Int) (c : UInt8) : (Lib.indexByte (str (operandsOf op)).data.toList c < 0) = ¬ uses op c = true := by
  rw [data_str, uses, Lib.contains_iff_indexByte]
  simp
/-- The register fields of an instruction, by number. -/
def Ins.reg (x : Ins) (k : Nat) : Int := if k = 0 then x.a else if k = 1 then x.b else x.c
def letterK (k : Nat) : UInt8 := if k = 0 then 97 else if k = 1 then 98 else 99

theorem IB_abc (s : ByteArray) (w : World) :
    (Calls Tryd.prog 78 #[.string s, .int .u8 97] w fun e w' => e = .returned (.int .i64 (Lib.indexByte s.data.toList 97)) ∧ w = w') ∧
    (Calls Tryd.prog 78 #[.string s, .int .u8 98] w fun e w' => e = .returned (.int .i64 (Lib.indexByte s.data.toList 98)) ∧ w = w') ∧
    (Calls Tryd.prog 78 #[.string s, .int .u8 99] w fun e w' => e = .returned (.int .i64 (Lib.indexByte s.data.toList 99)) ∧ w = w') :=
  ⟨IndexByte_u8 s 97 w, IndexByte_u8 s 98 w, IndexByte_u8 s 99 w⟩
theorem insErr_regs {x : Ins} {n : Int} (ho : ¬ (x.op < 0 ∨ 27 < x.op)) {k : Nat} (hk : k < 3) (h : regOk (x.reg k) (uses x.op (letterK k)) = false) : insErr x n = 70 := by
  unfold insErr
  rw [if_neg ho]
  have : (regOk x.a (uses x.op 97) && regOk x.b (uses x.op 98) && regOk x.c (uses x.op 99) && (x.imm == 0 || uses x.op 105 || uses x.op 116)) = false := by
    obtain rfl | rfl | rfl : k = 0 ∨ k = 1 ∨ k = 2 := by omega
    · rw [show regOk x.a (uses x.op 97) = false from h]; rfl
    · rw [show regOk x.b (uses x.op 98) = false from h]; simp
    · rw [show regOk x.c (uses x.op 99) = false from h]; simp
  rw [if_pos this]
/-- Behind the registers. -/
def restErr (x : Ins) (n : Int) : Int :=
  if (x.imm == 0 || uses x.op 105 || uses x.op 116) = false then 70 else if uses x.op 116 = true ∧ (x.imm < 0 ∨ n ≤ x.imm) then 71 else 0
theorem insErr_rest {x : Ins} {n : Int} (ho : ¬ (x.op < 0 ∨ 27 < x.op)) (h : ∀ j, j < 3 → regOk (x.reg j) (uses x.op (letterK j)) = true) : insErr x n = restErr x n := by
  unfold insErr restErr
  rw [if_neg ho, show regOk x.a (uses x.op 97) = true from h 0 (by omega), show regOk x.b (uses x.op 98) = true from h 1 (by omega), show regOk x.c (uses x.op 99) = true from h 2 (by omega)]
  rfl
theorem insErr_t {x : Ins} {n : Int} (h : insErr x n = restErr x n) (hu : uses x.op 116 = true) (hi : x.imm < 0 ∨ n ≤ x.imm) : insErr x n = 71 := by
  rw [h]; unfold restErr; rw [hu, if_neg (by simp), if_pos ⟨rfl, hi⟩]
theorem insErr_tok {x : Ins} {n : Int} (h : insErr x n = restErr x n) (hu : uses x.op 116 = true) (i0 : ¬ x.imm < 0) (i1 : ¬ n ≤ x.imm) : insErr x n = 0 := by
  rw [h]; unfold restErr; rw [hu, if_neg (by simp), if_neg (by omega)]
theorem insErr_i {x : Ins} {n : Int} (h : insErr x n = restErr x n) (hu : uses x.op 116 = false) (hi : uses x.op 105 = true) : insErr x n = 0 := by
  rw [h]; unfold restErr; rw [hu, hi, if_neg (by simp), if_neg (by simp)]
theorem insErr_no {x : Ins} {n : Int} (h : insErr x n = restErr x n) (hu : uses x.op 116 = false) (hi : uses x.op 105 = false) (hz : ¬ x.imm = 0) : insErr x n = 70 := by
  rw [h]; unfold restErr; rw [hu, hi, if_pos (by simp [hz])]
theorem insErr_z {x : Ins} {n : Int} (h : insErr x n = restErr x n) (hu : uses x.op 116 = false) (hz : x.imm = 0) : insErr x n = 0 := by
  rw [h]; unfold restErr; rw [hu, hz, if_neg (by simp), if_neg (by simp)]
theorem regOk_zero (u : Bool) : regOk 0 u = true := rfl
theorem regOk_no {v : Int} {u : Bool} (h : v < 0 ∨ 16 ≤ v) : regOk v u = false := by
  simp only [regOk, Bool.or_eq_false_iff, beq_eq_false_iff_ne, Bool.and_eq_false_iff, decide_eq_false_iff_not]
  exact ⟨by omega, .inr (by omega)⟩
theorem regOk_used {v : Int} (h0 : ¬ v = 0) (u : Bool) (h1 : 0 ≤ v) (h2 : v < 16) : regOk v u = u := by
  unfold regOk
  rw [show (v == 0) = false from by rw [beq_eq_false_iff_ne]; exact h0, decide_eq_true (by omega)]
  simp

set_option maxRecDepth 100000 in
set_option maxHeartbeats 2000000 in
theorem check_any (t : Nat) (x : Ins) (n : Int) (w : World) (ht : FT w t) (hi : -2147483648 ≤ x.imm ∧ x.imm ≤ 2147483647) :
    Calls Tryd.prog 40 #[.slice (some ⟨t, 0, none⟩) 28 28, .agg x.cells, .int .i64 n] w fun e w' => e = .returned (.int .i64 (insErr x n)) ∧ Below w.heap.size w w' := by
  unfold Ins.cells
  by_cases ho : x.op < 0 ∨ 27 < x.op
  · have he : insErr x n = 70 := by unfold insErr; rw [if_pos ho]
    have HE := Lib.hid he
    clear he ht
    rcases ho with ho | ho
    · go_enter Tryd.func40, Tryd.ntmps40
      go_wp2
      go_ret
      exact ⟨ret_int HE.out.symm, (Below.refl _ _).alloc (Nat.le_refl _) _⟩
    · have ho0 : 0 ≤ x.op := by omega
      have ho1 : 28 ≤ x.op := by omega
      clear ho
      go_enter Tryd.func40, Tryd.ntmps40
      go_wp2
      go_ret
      exact ⟨ret_int HE.out.symm, (Below.refl _ _).alloc (Nat.le_refl _) _⟩
  · have o0 : 0 ≤ x.op := by omega
    have o1 : x.op ≤ 27 := by omega
    have o2 : x.op < 28 := by omega
    obtain ⟨_, hc⟩ := ht.cell x.op o0 o1
    have hlt := ht.lt
    have HO := Lib.hid ho
    clear ho ht
    go_enter Tryd.func40, Tryd.ntmps40
    go_wp2_with fail
    go_loop [35] (fun i => ∃ k : Nat, k ≤ 3 ∧ i = .int .i64 k ∧ ∀ j, j < k → regOk (x.reg j) (uses x.op (letterK j)) = true) (fun i => 3 - (intOf i).toNat)
    case atStart => exact ⟨0, by omega, rfl, fun j hj => absurd hj (by omega)⟩
    case round =>
      obtain ⟨k, hk, rfl, hr⟩ := hrel
      have HR := Lib.hid hr
      clear hr
      by_cases h3 : k < 3
      · have snoc : regOk (x.reg k) (uses x.op (letterK k)) = true → ∀ j, j < k + 1 → regOk (x.reg j) (uses x.op (letterK j)) = true := by
          intro h j hj
          by_cases hjk : j = k
          · rw [hjk]; exact h
          · exact HR.out j (by omega)
        obtain ⟨k', hk'⟩ : ∃ k', k' = k + 1 := ⟨_, rfl⟩
        rw [← hk'] at snoc
        have SN := Lib.hid snoc
        have HK := Lib.hid hk'
        clear snoc hk'
        by_cases n0 : x.reg k < 0
        · have he := Lib.hid (insErr_regs (n := n) HO.out h3 (regOk_no (.inl n0)))
          obtain rfl | rfl | rfl : k = 0 ∨ k = 1 ∨ k = 2 := by omega
          all_goals
            simp only [Ins.reg] at n0
            simp at n0
            go_wp2
            go_ret
            exact ⟨ret_int he.out.symm, ((Below.refl _ _).alloc (Nat.le_refl _) _).alloc (by simp) _⟩
        · by_cases n1 : 16 ≤ x.reg k
          · have he := Lib.hid (insErr_regs (n := n) HO.out h3 (regOk_no (.inr n1)))
            obtain rfl | rfl | rfl : k = 0 ∨ k = 1 ∨ k = 2 := by omega
            all_goals
              simp only [Ins.reg] at n0 n1
              simp at n0 n1
              go_wp2
              go_ret
              exact ⟨ret_int he.out.symm, ((Below.refl _ _).alloc (Nat.le_refl _) _).alloc (by simp) _⟩
          · have m0 : 0 ≤ x.reg k := by omega
            have m1 : x.reg k < 16 := by omega
            clear n0 n1
            by_cases n2 : x.reg k = 0
            · have he := Lib.hid (SN.out (by rw [n2]; exact regOk_zero _))
              have n3 : (x.reg k != 0) = false := by rw [bne_eq_false_iff_eq]; exact n2
              clear n2
              obtain rfl | rfl | rfl : k = 0 ∨ k = 1 ∨ k = 2 := by omega
              all_goals
                simp only [Ins.reg] at n3 m0 m1
                simp only [Nat.reduceEqDiff, reduceIte] at n3 m0 m1
                go_wp2
                go_round
                case rel => exact ⟨k', by have := HK.out; omega, by rw [HK.out]; rfl, he.out⟩
                case measure => simp [intOf]
            · have n3 : (x.reg k != 0) = true := by rw [bne_iff_ne]; exact n2
              rcases Bool.eq_false_or_eq_true (uses x.op (letterK k)) with hu | hu
              · have he := Lib.hid (SN.out (by rw [regOk_used n2 _ m0 m1]; exact hu))
                clear n2
                obtain rfl | rfl | rfl : k = 0 ∨ k = 1 ∨ k = 2 := by omega
                · simp only [Ins.reg] at n3 m0 m1
                  simp only [Nat.reduceEqDiff, reduceIte] at n3 m0 m1
                  have ib : 0 ≤ Lib.indexByte (str (operandsOf x.op)).data.toList 97 := by rw [← Int.not_lt, ib_uses]; exact fun q => q hu
                  clear hu
                  go_wp2_with (go_at_call 78; refine (IB_abc _ _).1.mono ?_; rintro e w' ⟨rfl, rfl⟩)
                  go_round
                  case rel => exact ⟨k', by have := HK.out; omega, by rw [HK.out]; rfl, he.out⟩
                  case measure => simp [intOf]
                · simp only [Ins.reg] at n3 m0 m1
                  simp only [Nat.reduceEqDiff, reduceIte] at n3 m0 m1
                  have ib : 0 ≤ Lib.indexByte (str (operandsOf x.op)).data.toList 98 := by rw [← Int.not_lt, ib_uses]; exact fun q => q hu
                  clear hu
                  go_wp2_with (go_at_call 78; refine (IB_abc _ _).2.1.mono ?_; rintro e w' ⟨rfl, rfl⟩)
                  go_round
                  case rel => exact ⟨k', by have := HK.out; omega, by rw [HK.out]; rfl, he.out⟩
                  case measure => simp [intOf]
                · simp only [Ins.reg] at n3 m0 m1
                  simp only [Nat.reduceEqDiff, reduceIte] at n3 m0 m1
                  have ib : 0 ≤ Lib.indexByte (str (operandsOf x.op)).data.toList 99 := by rw [← Int.not_lt, ib_uses]; exact fun q => q hu
                  clear hu
                  go_wp2_with (go_at_call 78; refine (IB_abc _ _).2.2.mono ?_; rintro e w' ⟨rfl, rfl⟩)
                  go_round
                  case rel => exact ⟨k', by have := HK.out; omega, by rw [HK.out]; rfl, he.out⟩
                  case measure => simp [intOf]
              · have he := Lib.hid (insErr_regs (n := n) HO.out h3 (by rw [regOk_used n2 _ m0 m1]; exact hu))
                clear n2
                obtain rfl | rfl | rfl : k = 0 ∨ k = 1 ∨ k = 2 := by omega
                · simp only [Ins.reg] at n3 m0 m1
                  simp only [Nat.reduceEqDiff, reduceIte] at n3 m0 m1
                  have ib : Lib.indexByte (str (operandsOf x.op)).data.toList 97 < 0 := by rw [ib_uses]; show ¬ uses x.op (letterK 0) = true; rw [hu]; decide
                  clear hu
                  go_wp2_with (go_at_call 78; refine (IB_abc _ _).1.mono ?_; rintro e w' ⟨rfl, rfl⟩)
                  go_ret
                  exact ⟨ret_int he.out.symm, ((Below.refl _ _).alloc (Nat.le_refl _) _).alloc (by simp) _⟩
                · simp only [Ins.reg] at n3 m0 m1
                  simp only [Nat.reduceEqDiff, reduceIte] at n3 m0 m1
                  have ib : Lib.indexByte (str (operandsOf x.op)).data.toList 98 < 0 := by rw [ib_uses]; show ¬ uses x.op (letterK 1) = true; rw [hu]; decide
                  clear hu
                  go_wp2_with (go_at_call 78; refine (IB_abc _ _).2.1.mono ?_; rintro e w' ⟨rfl, rfl⟩)
                  go_ret
                  exact ⟨ret_int he.out.symm, ((Below.refl _ _).alloc (Nat.le_refl _) _).alloc (by simp) _⟩
                · simp only [Ins.reg] at n3 m0 m1
                  simp only [Nat.reduceEqDiff, reduceIte] at n3 m0 m1
                  have ib : Lib.indexByte (str (operandsOf x.op)).data.toList 99 < 0 := by rw [ib_uses]; show ¬ uses x.op (letterK 2) = true; rw [hu]; decide
                  clear hu
                  go_wp2_with (go_at_call 78; refine (IB_abc _ _).2.2.mono ?_; rintro e w' ⟨rfl, rfl⟩)
                  go_ret
                  exact ⟨ret_int he.out.symm, ((Below.refl _ _).alloc (Nat.le_refl _) _).alloc (by simp) _⟩
      · have hk3 : k = 3 := by omega
        subst hk3
        have hregs := insErr_rest (n := n) HO.out HR.out
        have HE := Lib.hid hregs
        clear hregs h3 hk
        rcases Bool.eq_false_or_eq_true (uses x.op 116) with hu | hu
        · by_cases i0 : x.imm < 0
          · have he := Lib.hid (insErr_t (n := n) HE.out hu (.inl i0))
            have hz : (x.imm != 0) = true := by rw [bne_iff_ne]; omega
            go_wp2_with (go_at_call 41; refine (HasSuffix_op x.op 116 (by decide) _ o0 o1).mono ?_; rintro e w' ⟨rfl, rfl⟩)
            go_ret
            exact ⟨ret_int he.out.symm, ((Below.refl _ _).alloc (Nat.le_refl _) _).alloc (by simp) _⟩
          · have i1 : 0 ≤ x.imm := by omega
            by_cases i2 : n ≤ x.imm
            · have he := Lib.hid (insErr_t (n := n) HE.out hu (.inr i2))
              rcases Bool.eq_false_or_eq_true (x.imm != 0) with hz | hz
              all_goals
                go_wp2_with (go_at_call 41; refine (HasSuffix_op x.op 116 (by decide) _ o0 o1).mono ?_; rintro e w' ⟨rfl, rfl⟩)
                go_ret
                exact ⟨ret_int he.out.symm, ((Below.refl _ _).alloc (Nat.le_refl _) _).alloc (by simp) _⟩
            · have he := Lib.hid (insErr_tok (n := n) HE.out hu i0 i2)
              have i3 : x.imm < n := by omega
              rcases Bool.eq_false_or_eq_true (x.imm != 0) with hz | hz
              all_goals
                go_wp2_with (go_at_call 41; refine (HasSuffix_op x.op 116 (by decide) _ o0 o1).mono ?_; rintro e w' ⟨rfl, rfl⟩)
                go_ret
                exact ⟨ret_int he.out.symm, ((Below.refl _ _).alloc (Nat.le_refl _) _).alloc (by simp) _⟩
        · rcases Bool.eq_false_or_eq_true (x.imm != 0) with hz | hz
          · rcases Bool.eq_false_or_eq_true (uses x.op 105) with hi5 | hi5
            · have he := Lib.hid (insErr_i (n := n) HE.out hu hi5)
              go_wp2_with fail
              refine (HasSuffix_op x.op 116 (by decide) _ o0 o1).mono ?_
              rintro e w' ⟨rfl, rfl⟩
              go_wp2_with (go_at_call 41; refine (HasSuffix_op x.op 105 (by decide) _ o0 o1).mono ?_; rintro e w' ⟨rfl, rfl⟩)
              go_ret
              exact ⟨ret_int he.out.symm, ((Below.refl _ _).alloc (Nat.le_refl _) _).alloc (by simp) _⟩
            · have he := Lib.hid (insErr_no (n := n) HE.out hu hi5 (by rw [bne_iff_ne] at hz; exact hz))
              go_wp2_with fail
              refine (HasSuffix_op x.op 116 (by decide) _ o0 o1).mono ?_
              rintro e w' ⟨rfl, rfl⟩
              go_wp2_with (go_at_call 41; refine (HasSuffix_op x.op 105 (by decide) _ o0 o1).mono ?_; rintro e w' ⟨rfl, rfl⟩)
              go_ret
              exact ⟨ret_int he.out.symm, ((Below.refl _ _).alloc (Nat.le_refl _) _).alloc (by simp) _⟩
          · have he := Lib.hid (insErr_z (n := n) HE.out hu (by rw [bne_eq_false_iff_eq] at hz; exact hz))
            go_wp2_with (go_at_call 41; refine (HasSuffix_op x.op 116 (by decide) _ o0 o1).mono ?_; rintro e w' ⟨rfl, rfl⟩)
            go_ret
            exact ⟨ret_int he.out.symm, ((Below.refl _ _).alloc (Nat.le_refl _) _).alloc (by simp) _⟩
end
section
open Go.RowKit

def Ins.fits (x : Ins) : Prop := (-2147483648 ≤ x.imm ∧ x.imm ≤ 2147483647) ∧ (-9223372036854775808 ≤ x.op ∧ x.op ≤ 9223372036854775807)
/-- A slice value that reads as this program. -/
def Instrs (w : World) (v : Value) (p : List Ins) : Prop := Row w v 5 (p.map fun x => x.cells.toList) ∧ ∀ x ∈ p, x.fits
theorem Instrs.below {w w' : World} {v : Value} {p : List Ins} (h : Instrs w v p) (hb : Below w.heap.size w w') : Instrs w' v p := ⟨h.1.below hb, h.2⟩
theorem Instrs.form {w : World} {v : Value} {p : List Ins} (h : Instrs w v p) : ∃ a c, v = .slice a p.length c ∧ (∀ (k : Nat) (x : Ins), p[k]? = some x → ∃ g off, a = some ⟨g, off, none⟩ ∧ g < w.heap.size ∧ p.length ≤ c ∧ c ≤ maxLen ∧
    w.cell? ⟨g, off + k * 5, none⟩ = some (.int .i64 x.op) ∧ w.cell? ⟨g, off + k * 5 + 1, none⟩ = some (.int .i64 x.a) ∧ w.cell? ⟨g, off + k * 5 + 2, none⟩ = some (.int .i64 x.b) ∧ w.cell? ⟨g, off + k * 5 + 3, none⟩ = some (.int .i64 x.c) ∧ w.cell? ⟨g, off + k * 5 + 4, none⟩ = some (.int .i32 x.imm)) := by
  rcases h.1.2 with ⟨h0, a, c, rfl⟩ | ⟨b, off, cap, hv, h0, hl, hm, hb, hc⟩
  · have : p = [] := by simpa using h0
    subst this
    exact ⟨a, c, rfl, fun k x hx => by simp at hx⟩
  · simp only [List.length_map] at hv hl
    refine ⟨_, _, hv, fun k x hx => ⟨b, off, rfl, hb, hl, hm, ?_⟩⟩
    have g := hc k x.cells.toList
    have hi : (p.map fun x => x.cells.toList)[k]? = some x.cells.toList := by rw [List.getElem?_map, hx]; rfl
    exact ⟨g 0 _ hi rfl, g 1 _ hi rfl, g 2 _ hi rfl, g 3 _ hi rfl, g 4 _ hi rfl⟩
theorem firstErr_at {n : Int} : ∀ {p : List Ins} {k : Nat} {x : Ins}, (∀ y ∈ p.take k, insErr y n = 0) → p[k]? = some x → ¬ insErr x n = 0 → firstErr n p = insErr x n
  | [], _, _, _, h, _ => by simp at h
  | y :: p, 0, x, _, h, hx => by
    simp only [List.getElem?_cons_zero, Option.some.injEq] at h
    subst h
    simp only [firstErr]; rw [if_neg hx]
  | y :: p, k + 1, x, ha, h, hx => by
    simp only [firstErr]
    rw [if_pos (ha y (by simp)), firstErr_at (fun z hz => ha z (by rw [List.take_succ_cons]; exact List.mem_cons_of_mem _ hz)) (by simpa using h) hx]
theorem firstErr_zero {n : Int} : ∀ {p : List Ins}, (∀ y ∈ p, insErr y n = 0) → firstErr n p = 0
  | [], _ => rfl
  | y :: p, h => by
    simp only [firstErr]
    rw [if_pos (h y (by simp)), firstErr_zero (fun z hz => h z (by simp [hz]))]
theorem progErr_ok {p : List Ins} (h : ¬ (p.length = 0 ∨ 4096 < p.length)) : progErr p = firstErr p.length p := by unfold progErr; rw [if_neg h]

set_option maxRecDepth 100000 in
set_option maxHeartbeats 2000000 in
theorem Validate_any (va : Value) (p : List Ins) (w : World) (h : Instrs w va p) :
    Calls Tryd.prog 14 #[va] w fun e w' => e = .returned (.int .i64 (progErr p)) ∧ Below w.heap.size w w' := by
  obtain ⟨a, c, rfl, _⟩ := h.form
  have hm := h.1.1
  simp only [List.length_map] at hm
  unfold maxLen at hm
  obtain ⟨n, hn⟩ : ∃ n, n = p.length := ⟨_, rfl⟩
  have HN := Lib.hid hn
  have H := Lib.hid h
  rw [← hn] at hm ⊢
  by_cases hbad : n = 0 ∨ 4096 < n
  · have he : progErr p = 15 := by unfold progErr; rw [if_pos (by rw [← hn]; exact hbad)]
    have HE := Lib.hid he
    clear he hn h
    rcases hbad with h0 | h0
    · subst h0
      go_enter Tryd.func14, Tryd.ntmps14
      go_wp2
      go_ret
      exact ⟨ret_int HE.out.symm, Below.refl _ _⟩
    · go_enter Tryd.func14, Tryd.ntmps14
      go_wp2
      go_ret
      exact ⟨ret_int HE.out.symm, Below.refl _ _⟩
  · have he : progErr p = firstErr p.length p := progErr_ok (by rw [← hn]; exact hbad)
    have HE := Lib.hid he
    have n0 : 1 ≤ n := by omega
    have n1 : n ≤ 4096 := by omega
    clear he hn h hbad
    go_enter Tryd.func14, Tryd.ntmps14
    go_wp2_with fail
    refine (formats_any _).mono ?_
    rintro e w1 ⟨rfl, hft, hb1, hz1⟩
    have HFT := Lib.hid hft
    have HB1 := Lib.hid hb1
    clear hft hb1
    go_wp2_with fail
    go_loopw [18] (fun i wr => ∃ k : Nat, k ≤ n ∧ i = .int .i64 k ∧ (∀ y ∈ p.take k, insErr y n = 0) ∧ Below w.heap.size w wr ∧ FT wr w.heap.size) (fun i _ => n - (intOf i).toNat)
    case atStart => exact ⟨0, Nat.zero_le _, rfl, by simp, HB1.out, HFT.out⟩
    case round =>
      obtain ⟨k, hk, rfl, hall, hb, hft⟩ := hrel
      have HALL := Lib.hid hall
      have HB := Lib.hid hb
      have HFR := Lib.hid hft
      have hz := hb.size
      have hzt := hft.lt
      by_cases hlt : k < n
      · obtain ⟨x, hx⟩ : ∃ x, p[k]? = some x := ⟨_, List.getElem?_eq_getElem (by rw [← HN.out]; exact hlt)⟩
        obtain ⟨a', c', hv, hcells⟩ := (H.out.below hb).form
        simp only [Value.slice.injEq] at hv
        obtain ⟨g, off, hg, hgb, hc1, hc2, x0, x1, x2, x3, x4⟩ := hcells k x hx
        obtain ⟨rfl, _, rfl⟩ := hv
        subst hg
        have HX := Lib.hid hx
        have hfit := (H.out.2 x (List.mem_of_getElem? hx)).1
        have HNN := Lib.hid (show (n : Int) = p.length by rw [HN.out])
        clear hall hb hft hcells hx hc1
        unfold maxLen at hc2
        go_wp2_with fail
        refine (check_any w.heap.size x n _ (HFR.out.below (by exact (Below.refl _ _).alloc (Nat.le_refl _) _)) hfit).mono ?_
        rintro e w2 ⟨rfl, hb2⟩
        have hbb := HB.out.trans ((((Below.refl _ _).alloc (Nat.le_refl _) _).trans (hb2.mono (by simp))).mono hz)
        have hft2 := (HFR.out.below ((Below.refl _ _).alloc (Nat.le_refl _) _)).below hb2
        have HBB := Lib.hid hbb
        have HFT2 := Lib.hid hft2
        clear hbb hft2 hb2 x0 x1 x2 x3 x4
        by_cases hz0 : insErr x n = 0
        · have hb0 : (insErr x n != 0) = false := by rw [bne_eq_false_iff_eq]; exact hz0
          have HZ := Lib.hid hz0
          clear hz0
          go_wp2
          go_roundw
          case rel =>
            refine ⟨k + 1, by omega, by go_num, ?_, HBB.out, HFT2.out⟩
            intro y hy
            rw [List.take_add_one, HX.out] at hy
            simp only [Option.toList_some, List.mem_append, List.mem_singleton] at hy
            rcases hy with hy | rfl
            · exact HALL.out y hy
            · exact HZ.out
          case measure => simp [intOf]; omega
        · have hb0 : (insErr x n != 0) = true := by rw [bne_iff_ne]; exact hz0
          have HZ := Lib.hid hz0
          clear hz0
          go_wp2
          go_ret
          exact ⟨ret_int (by rw [HE.out, ← HNN.out]; exact (firstErr_at HALL.out HX.out HZ.out).symm), HBB.out⟩
      · clear hall hb hft
        go_wp2
        go_ret
        refine ⟨ret_int ?_, HB.out⟩
        rw [HE.out, firstErr_zero (fun y hy => ?_)]
        have := HALL.out y (by rw [List.take_of_length_le (by rw [← HN.out]; omega)]; exact hy)
        rw [← HN.out]; exact this
end
end Go.Proofs.YtemigcdieghkfaaDoor
