/- isa.Validate: the first error of a program. -/
import Derived.Test.YtbllialcfmpkaaaFmt
set_option linter.unusedVariables false
set_option linter.unusedSimpArgs false
set_option linter.unusedSectionVars false
namespace Go.Proofs.Ytbllialcfmpkaaa
open Go.RowKit

theorem ib_uses (op : Int) (c : UInt8) : (Lib.indexByte (str (operandsOf op)).data.toList c < 0) = ¬ uses op c = true := by
  rw [data_str, uses, Lib.contains_iff_indexByte]
  simp
/-- The register fields of an instruction, by number. -/
def Ins.reg (x : Ins) (k : Nat) : Int := if k = 0 then x.a else if k = 1 then x.b else x.c
def letterK (k : Nat) : UInt8 := if k = 0 then 97 else if k = 1 then 98 else 99

theorem IB_abc (s : ByteArray) (w : World) :
    (Calls Try.prog 93 #[.string s, .int .u8 97] w fun e w' => e = .returned (.int .i64 (Lib.indexByte s.data.toList 97)) ∧ w = w') ∧
    (Calls Try.prog 93 #[.string s, .int .u8 98] w fun e w' => e = .returned (.int .i64 (Lib.indexByte s.data.toList 98)) ∧ w = w') ∧
    (Calls Try.prog 93 #[.string s, .int .u8 99] w fun e w' => e = .returned (.int .i64 (Lib.indexByte s.data.toList 99)) ∧ w = w') :=
  ⟨IndexByte_u8 s 97 w, IndexByte_u8 s 98 w, IndexByte_u8 s 99 w⟩
theorem insErr_regs {x : Ins} {n : Int} (ho : ¬ (x.op < 0 ∨ 27 < x.op)) {k : Nat} (hk : k < 3) (h : regOk (x.reg k) (uses x.op (letterK k)) = false) : insErr x n = 70 := by
  unfold insErr
  rw [if_neg ho]
  have : (regOk x.a (uses x.op 97) && regOk x.b (uses x.op 98) && regOk x.c (uses x.op 99) && (x.imm == 0 || uses x.op 105 || uses x.op 116)) = false := by
    obtain rfl | rfl | rfl : k = 0 ∨ k = 1 ∨ k = 2 := by omega
    · rw [show regOk x.a (uses x.op 97) = false from h]; rfl
    · rw [show regOk x.b (uses x.op 98) = false from h]; simp
    · rw [show regOk x.c (uses x.op 99) = false from h]; simp
  rw [if_pos this]
/-- Behind the registers. -/
def restErr (x : Ins) (n : Int) : Int :=
  if (x.imm == 0 || uses x.op 105 || uses x.op 116) = false then 70 else if uses x.op 116 = true ∧ (x.imm < 0 ∨ n ≤ x.imm) then 71 else 0
theorem insErr_rest {x : Ins} {n : Int} (ho : ¬ (x.op < 0 ∨ 27 < x.op)) (h : ∀ j, j < 3 → regOk (x.reg j) (uses x.op (letterK j)) = true) : insErr x n = restErr x n := by
  unfold insErr restErr
  rw [if_neg ho, show regOk x.a (uses x.op 97) = true from h 0 (by omega), show regOk x.b (uses x.op 98) = true from h 1 (by omega), show regOk x.c (uses x.op 99) = true from h 2 (by omega)]
  rfl
theorem insErr_t {x : Ins} {n : Int} (h : insErr x n = restErr x n) (hu : uses x.op 116 = true) (hi : x.imm < 0 ∨ n ≤ x.imm) : insErr x n = 71 := by
  rw [h]; unfold restErr; rw [hu, if_neg (by simp), if_pos ⟨rfl, hi⟩]
theorem insErr_tok {x : Ins} {n : Int} (h : insErr x n = restErr x n) (hu : uses x.op 116 = true) (i0 : ¬ x.imm < 0) (i1 : ¬ n ≤ x.imm) : insErr x n = 0 := by
  rw [h]; unfold restErr; rw [hu, if_neg (by simp), if_neg (by omega)]
theorem insErr_i {x : Ins} {n : Int} (h : insErr x n = restErr x n) (hu : uses x.op 116 = false) (hi : uses x.op 105 = true) : insErr x n = 0 := by
  rw [h]; unfold restErr; rw [hu, hi, if_neg (by simp), if_neg (by simp)]
theorem insErr_no {x : Ins} {n : Int} (h : insErr x n = restErr x n) (hu : uses x.op 116 = false) (hi : uses x.op 105 = false) (hz : ¬ x.imm = 0) : insErr x n = 70 := by
  rw [h]; unfold restErr; rw [hu, hi, if_pos (by simp [hz])]
theorem insErr_z {x : Ins} {n : Int} (h : insErr x n = restErr x n) (hu : uses x.op 116 = false) (hz : x.imm = 0) : insErr x n = 0 := by
  rw [h]; unfold restErr; rw [hu, hz, if_neg (by simp), if_neg (by simp)]
theorem regOk_zero (u : Bool) : regOk 0 u = true := rfl
theorem regOk_no {v : Int} {u : Bool} (h : v < 0 ∨ 16 ≤ v) : regOk v u = false := by
  simp only [regOk, Bool.or_eq_false_iff, beq_eq_false_iff_ne, Bool.and_eq_false_iff, decide_eq_false_iff_not]
  exact ⟨by omega, .inr (by omega)⟩
theorem regOk_used {v : Int} (h0 : ¬ v = 0) (u : Bool) (h1 : 0 ≤ v) (h2 : v < 16) : regOk v u = u := by
  unfold regOk
  rw [show (v == 0) = false from by rw [beq_eq_false_iff_ne]; exact h0, decide_eq_true (by omega)]
  simp

set_option maxRecDepth 100000 in
set_option maxHeartbeats 2000000 in
theorem check_any (t : Nat) (x : Ins) (n : Int) (w : World) (ht : FT w t) (hi : -2147483648 ≤ x.imm ∧ x.imm ≤ 2147483647) :
    Calls Try.prog 78 #[.slice (some ⟨t, 0, none⟩) 28 28, .agg x.cells, .int .i64 n] w fun e w' => e = .returned (.int .i64 (insErr x n)) ∧ Below w.heap.size w w' := by
  unfold Ins.cells
  by_cases ho : x.op < 0 ∨ 27 < x.op
  · have he : insErr x n = 70 := by unfold insErr; rw [if_pos ho]
    have HE := Lib.hid he
    clear he ht
    rcases ho with ho | ho
    · go_enter Try.func78, Try.ntmps78
      go_wp2
      go_ret
      exact ⟨ret_int HE.out.symm, (Below.refl _ _).alloc (Nat.le_refl _) _⟩
    · have ho0 : 0 ≤ x.op := by omega
      have ho1 : 28 ≤ x.op := by omega
      clear ho
      go_enter Try.func78, Try.ntmps78
      go_wp2
      go_ret
      exact ⟨ret_int HE.out.symm, (Below.refl _ _).alloc (Nat.le_refl _) _⟩
  · have o0 : 0 ≤ x.op := by omega
    have o1 : x.op ≤ 27 := by omega
    have o2 : x.op < 28 := by omega
    obtain ⟨_, hc⟩ := ht.cell x.op o0 o1
    have hlt := ht.lt
    have HO := Lib.hid ho
    clear ho ht
    go_enter Try.func78, Try.ntmps78
    go_wp2_with fail
    go_loop [35] (fun i => ∃ k : Nat, k ≤ 3 ∧ i = .int .i64 k ∧ ∀ j, j < k → regOk (x.reg j) (uses x.op (letterK j)) = true) (fun i => 3 - (intOf i).toNat)
    case atStart => exact ⟨0, by omega, rfl, fun j hj => absurd hj (by omega)⟩
    case round =>
      obtain ⟨k, hk, rfl, hr⟩ := hrel
      have HR := Lib.hid hr
      clear hr
      by_cases h3 : k < 3
      · have snoc : regOk (x.reg k) (uses x.op (letterK k)) = true → ∀ j, j < k + 1 → regOk (x.reg j) (uses x.op (letterK j)) = true := by
          intro h j hj
          by_cases hjk : j = k
          · rw [hjk]; exact h
          · exact HR.out j (by omega)
        obtain ⟨k', hk'⟩ : ∃ k', k' = k + 1 := ⟨_, rfl⟩
        rw [← hk'] at snoc
        have SN := Lib.hid snoc
        have HK := Lib.hid hk'
        clear snoc hk'
        by_cases n0 : x.reg k < 0
        · have he := Lib.hid (insErr_regs (n := n) HO.out h3 (regOk_no (.inl n0)))
          obtain rfl | rfl | rfl : k = 0 ∨ k = 1 ∨ k = 2 := by omega
          all_goals
            simp only [Ins.reg] at n0
            simp at n0
            go_wp2
            go_ret
            exact ⟨ret_int he.out.symm, ((Below.refl _ _).alloc (Nat.le_refl _) _).alloc (by simp) _⟩
        · by_cases n1 : 16 ≤ x.reg k
          · have he := Lib.hid (insErr_regs (n := n) HO.out h3 (regOk_no (.inr n1)))
            obtain rfl | rfl | rfl : k = 0 ∨ k = 1 ∨ k = 2 := by omega
            all_goals
              simp only [Ins.reg] at n0 n1
              simp at n0 n1
              go_wp2
              go_ret
              exact ⟨ret_int he.out.symm, ((Below.refl _ _).alloc (Nat.le_refl _) _).alloc (by simp) _⟩
          · have m0 : 0 ≤ x.reg k := by omega
            have m1 : x.reg k < 16 := by omega
            clear n0 n1
            by_cases n2 : x.reg k = 0
            · have he := Lib.hid (SN.out (by rw [n2]; exact regOk_zero _))
              have n3 : (x.reg k != 0) = false := by rw [bne_eq_false_iff_eq]; exact n2
              clear n2
              obtain rfl | rfl | rfl : k = 0 ∨ k = 1 ∨ k = 2 := by omega
              all_goals
                simp only [Ins.reg] at n3 m0 m1
                simp only [Nat.reduceEqDiff, reduceIte] at n3 m0 m1
                go_wp2
                go_round
                case rel => exact ⟨k', by have := HK.out; omega, by rw [HK.out]; rfl, he.out⟩
                case measure => simp [intOf]
            · have n3 : (x.reg k != 0) = true := by rw [bne_iff_ne]; exact n2
              rcases Bool.eq_false_or_eq_true (uses x.op (letterK k)) with hu | hu
              · have he := Lib.hid (SN.out (by rw [regOk_used n2 _ m0 m1]; exact hu))
                clear n2
                obtain rfl | rfl | rfl : k = 0 ∨ k = 1 ∨ k = 2 := by omega
                · simp only [Ins.reg] at n3 m0 m1
                  simp only [Nat.reduceEqDiff, reduceIte] at n3 m0 m1
                  have ib : 0 ≤ Lib.indexByte (str (operandsOf x.op)).data.toList 97 := by rw [← Int.not_lt, ib_uses]; exact fun q => q hu
                  clear hu
                  go_wp2_with (go_at_call 93; refine (IB_abc _ _).1.mono ?_; rintro e w' ⟨rfl, rfl⟩)
                  go_round
                  case rel => exact ⟨k', by have := HK.out; omega, by rw [HK.out]; rfl, he.out⟩
                  case measure => simp [intOf]
                · simp only [Ins.reg] at n3 m0 m1
                  simp only [Nat.reduceEqDiff, reduceIte] at n3 m0 m1
                  have ib : 0 ≤ Lib.indexByte (str (operandsOf x.op)).data.toList 98 := by rw [← Int.not_lt, ib_uses]; exact fun q => q hu
                  clear hu
                  go_wp2_with (go_at_call 93; refine (IB_abc _ _).2.1.mono ?_; rintro e w' ⟨rfl, rfl⟩)
                  go_round
                  case rel => exact ⟨k', by have := HK.out; omega, by rw [HK.out]; rfl, he.out⟩
                  case measure => simp [intOf]
                · simp only [Ins.reg] at n3 m0 m1
                  simp only [Nat.reduceEqDiff, reduceIte] at n3 m0 m1
                  have ib : 0 ≤ Lib.indexByte (str (operandsOf x.op)).data.toList 99 := by rw [← Int.not_lt, ib_uses]; exact fun q => q hu
                  clear hu
                  go_wp2_with (go_at_call 93; refine (IB_abc _ _).2.2.mono ?_; rintro e w' ⟨rfl, rfl⟩)
                  go_round
                  case rel => exact ⟨k', by have := HK.out; omega, by rw [HK.out]; rfl, he.out⟩
                  case measure => simp [intOf]
              · have he := Lib.hid (insErr_regs (n := n) HO.out h3 (by rw [regOk_used n2 _ m0 m1]; exact hu))
                clear n2
                obtain rfl | rfl | rfl : k = 0 ∨ k = 1 ∨ k = 2 := by omega
                · simp only [Ins.reg] at n3 m0 m1
                  simp only [Nat.reduceEqDiff, reduceIte] at n3 m0 m1
                  have ib : Lib.indexByte (str (operandsOf x.op)).data.toList 97 < 0 := by rw [ib_uses]; show ¬ uses x.op (letterK 0) = true; rw [hu]; decide
                  clear hu
                  go_wp2_with (go_at_call 93; refine (IB_abc _ _).1.mono ?_; rintro e w' ⟨rfl, rfl⟩)
                  go_ret
                  exact ⟨ret_int he.out.symm, ((Below.refl _ _).alloc (Nat.le_refl _) _).alloc (by simp) _⟩
                · simp only [Ins.reg] at n3 m0 m1
                  simp only [Nat.reduceEqDiff, reduceIte] at n3 m0 m1
                  have ib : Lib.indexByte (str (operandsOf x.op)).data.toList 98 < 0 := by rw [ib_uses]; show ¬ uses x.op (letterK 1) = true; rw [hu]; decide
                  clear hu
                  go_wp2_with (go_at_call 93; refine (IB_abc _ _).2.1.mono ?_; rintro e w' ⟨rfl, rfl⟩)
                  go_ret
                  exact ⟨ret_int he.out.symm, ((Below.refl _ _).alloc (Nat.le_refl _) _).alloc (by simp) _⟩
                · simp only [Ins.reg] at n3 m0 m1
                  simp only [Nat.reduceEqDiff, reduceIte] at n3 m0 m1
                  have ib : Lib.indexByte (str (operandsOf x.op)).data.toList 99 < 0 := by rw [ib_uses]; show ¬ uses x.op (letterK 2) = true; rw [hu]; decide
                  clear hu
                  go_wp2_with (go_at_call 93; refine (IB_abc _ _).2.2.mono ?_; rintro e w' ⟨rfl, rfl⟩)
                  go_ret
                  exact ⟨ret_int he.out.symm, ((Below.refl _ _).alloc (Nat.le_refl _) _).alloc (by simp) _⟩
      · have hk3 : k = 3 := by omega
        subst hk3
        have hregs := insErr_rest (n := n) HO.out HR.out
        have HE := Lib.hid hregs
        clear hregs h3 hk
        rcases Bool.eq_false_or_eq_true (uses x.op 116) with hu | hu
        · by_cases i0 : x.imm < 0
          · have he := Lib.hid (insErr_t (n := n) HE.out hu (.inl i0))
            have hz : (x.imm != 0) = true := by rw [bne_iff_ne]; omega
            go_wp2_with (go_at_call 94; refine (HasSuffix_op x.op 116 (by decide) _ o0 o1).mono ?_; rintro e w' ⟨rfl, rfl⟩)
            go_ret
            exact ⟨ret_int he.out.symm, ((Below.refl _ _).alloc (Nat.le_refl _) _).alloc (by simp) _⟩
          · have i1 : 0 ≤ x.imm := by omega
            by_cases i2 : n ≤ x.imm
            · have he := Lib.hid (insErr_t (n := n) HE.out hu (.inr i2))
              rcases Bool.eq_false_or_eq_true (x.imm != 0) with hz | hz
              all_goals
                go_wp2_with (go_at_call 94; refine (HasSuffix_op x.op 116 (by decide) _ o0 o1).mono ?_; rintro e w' ⟨rfl, rfl⟩)
                go_ret
                exact ⟨ret_int he.out.symm, ((Below.refl _ _).alloc (Nat.le_refl _) _).alloc (by simp) _⟩
            · have he := Lib.hid (insErr_tok (n := n) HE.out hu i0 i2)
              have i3 : x.imm < n := by omega
              rcases Bool.eq_false_or_eq_true (x.imm != 0) with hz | hz
              all_goals
                go_wp2_with (go_at_call 94; refine (HasSuffix_op x.op 116 (by decide) _ o0 o1).mono ?_; rintro e w' ⟨rfl, rfl⟩)
                go_ret
                exact ⟨ret_int he.out.symm, ((Below.refl _ _).alloc (Nat.le_refl _) _).alloc (by simp) _⟩
        · rcases Bool.eq_false_or_eq_true (x.imm != 0) with hz | hz
          · rcases Bool.eq_false_or_eq_true (uses x.op 105) with hi5 | hi5
            · have he := Lib.hid (insErr_i (n := n) HE.out hu hi5)
              go_wp2_with fail
              refine (HasSuffix_op x.op 116 (by decide) _ o0 o1).mono ?_
              rintro e w' ⟨rfl, rfl⟩
              go_wp2_with (go_at_call 94; refine (HasSuffix_op x.op 105 (by decide) _ o0 o1).mono ?_; rintro e w' ⟨rfl, rfl⟩)
              go_ret
              exact ⟨ret_int he.out.symm, ((Below.refl _ _).alloc (Nat.le_refl _) _).alloc (by simp) _⟩
            · have he := Lib.hid (insErr_no (n := n) HE.out hu hi5 (by rw [bne_iff_ne] at hz; exact hz))
              go_wp2_with fail
              refine (HasSuffix_op x.op 116 (by decide) _ o0 o1).mono ?_
              rintro e w' ⟨rfl, rfl⟩
              go_wp2_with (go_at_call 94; refine (HasSuffix_op x.op 105 (by decide) _ o0 o1).mono ?_; rintro e w' ⟨rfl, rfl⟩)
              go_ret
              exact ⟨ret_int he.out.symm, ((Below.refl _ _).alloc (Nat.le_refl _) _).alloc (by simp) _⟩
          · have he := Lib.hid (insErr_z (n := n) HE.out hu (by rw [bne_eq_false_iff_eq] at hz; exact hz))
            go_wp2_with (go_at_call 94; refine (HasSuffix_op x.op 116 (by decide) _ o0 o1).mono ?_; rintro e w' ⟨rfl, rfl⟩)
            go_ret
            exact ⟨ret_int he.out.symm, ((Below.refl _ _).alloc (Nat.le_refl _) _).alloc (by simp) _⟩
end Go.Proofs.Ytbllialcfmpkaaa
