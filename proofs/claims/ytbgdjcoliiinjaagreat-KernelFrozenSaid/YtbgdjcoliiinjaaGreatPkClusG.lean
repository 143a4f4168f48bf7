/- Merged: Slc, Clo, Clear, MkView, Exc, Inc, CPlain, CRng, COvl. -/
import Derived.Test.YtbgdjcoliiinjaaGreatPkEngJ
import Derived.Lib.MinMax
import Derived.Test.YtbgdjcoliiinjaaGreatPkGenJ
import Derived.Lib.SliceRun
set_option linter.unusedVariables false
set_option linter.unusedSimpArgs false
set_option linter.unusedSectionVars false
namespace Go.Proofs.YtbgdjcoliiinjaaGreat
section
open Go.RowKit Go.BigFrame

end
section
open Go.RowKit Go.BigFrame

end
section
open Go Go.RowKit Go.BigFrame
section
variable {P : Program} {ops : Array Oper} {rest : List Oper} {op : Oper} {a : Act} {w W : World} {Q : Exit → Act → World → Prop} {M : List Nat} {l l' : Ents} {g o n c : Nat} {cs : Array Value} {T : TypeId}
end
end
section
open Go.RowKit Go.BigFrame

def I64s (zs : List Int) : Prop := ∀ z ∈ zs, -9223372036854775808 ≤ z ∧ z ≤ 9223372036854775807
theorem I64s.drop {zs : List Int} (h : I64s zs) (n : Nat) : I64s (zs.drop n) := fun z hz => h z (List.mem_of_mem_drop hz)
end
section
open Go.RowKit Go.BigFrame

end
section
open Go.RowKit Go.BigFrame

end
section
open Go Go.RowKit Go.BigFrame
def p2 (k : Int) : Int := 2 ^ k.toNat
theorem p2_pos (k : Int) : 0 < p2 k := by unfold p2; exact Int.pow_pos (by omega)
theorem p2_le {k : Int} (h : k ≤ 40) : p2 k ≤ 1099511627776 := by
  unfold p2
  have h2 : 2 ^ k.toNat ≤ 2 ^ 40 := Nat.pow_le_pow_right (by omega) (by omega)
  have h3 : (2 : Nat) ^ 40 = 1099511627776 := rfl
  have e : ((2 ^ k.toNat : Nat) : Int) = (2 : Int) ^ k.toNat := by simp
  rw [← e]
  omega
/-- A region: its base, its bits, whether it is a device. -/
abbrev Reg := Int × Int × Bool
def okB (b k : Int) : Prop := 6 ≤ k ∧ k ≤ 40 ∧ 0 ≤ b ∧ b % p2 k = 0 ∧ b + p2 k ≤ 1099511627776
instance (b k : Int) : Decidable (okB b k) := by unfold okB; infer_instance
abbrev okR (r : Reg) : Prop := okB r.1 r.2.1
def endB (b k : Int) : Int := if okB b k then b + p2 k else 0
def ovlB (a j b k : Int) : Prop := okB a j ∧ okB b k ∧ a < endB b k ∧ b < endB a j
instance (a j b k : Int) : Decidable (ovlB a j b k) := by unfold ovlB; infer_instance
abbrev ovlR (a b : Reg) : Prop := ovlB a.1 a.2.1 b.1 b.2.1
/-- A configuration. -/
structure Cfg where
  ws : List Int
  st : Int
  sl : Int
  rs : List Reg
  os : List Int
/-- The regions below k are fine. -/
def RegsOk (c : Cfg) (k : Nat) : Prop := ∀ (i : Nat) (r : Reg) (o : Int), i < k → c.rs[i]? = some r → c.os[i]? = some o → okR r ∧ 0 ≤ o ∧ o < c.st ∧ ∀ (j : Nat) (s : Reg), j < i → c.rs[j]? = some s → ¬ ovlR r s
theorem RegsOk.zero (c : Cfg) : RegsOk c 0 := fun i _ _ h => absurd h (Nat.not_lt_zero i)
theorem RegsOk.succ {c : Cfg} {k : Nat} (h : RegsOk c k) {r : Reg} {o : Int} (hr : c.rs[k]? = some r) (ho : c.os[k]? = some o) (h1 : okR r) (h2 : 0 ≤ o) (h3 : o < c.st) (h4 : ∀ (j : Nat) (s : Reg), j < k → c.rs[j]? = some s → ¬ ovlR r s) : RegsOk c (k + 1) := by
  intro i r' o' hi hr' ho'
  rcases Nat.lt_or_ge i k with q | q
  · exact h i r' o' q hr' ho'
  · obtain rfl : i = k := by omega
    rw [hr] at hr'; rw [ho] at ho'
    cases hr'; cases ho'
    exact ⟨h1, h2, h3, h4⟩
theorem RegsOk.of {c : Cfg} {k : Nat} (h : RegsOk c c.rs.length) {r : Reg} {o : Int} (hr : c.rs[k]? = some r) (ho : c.os[k]? = some o) : okR r ∧ 0 ≤ o ∧ o < c.st ∧ ∀ (j : Nat) (s : Reg), j < k → c.rs[j]? = some s → ¬ ovlR r s :=
  h k r o (List.getElem?_eq_some_iff.1 hr).1 hr ho
end
section
open Go.RowKit Go.BigFrame
def I64 (z : Int) : Prop := -9223372036854775808 ≤ z ∧ z ≤ 9223372036854775807
theorem wrap_p2 {k : Int} (h1 : k ≤ 40) : wrap64 (2 ^ k.toNat) = p2 k := by
  have h2 := p2_pos k
  have h3 := p2_le h1
  unfold p2 at h2 h3
  unfold p2 wrap64
  omega
abbrev cmpVP (b z : Int) : Prop := b ≤ 1099511627776 - z
abbrev cmpVR (b z : Int) : Prop := b + z ≤ 1099511627776
set_option maxRecDepth 100000 in
set_option maxHeartbeats 4000000 in
theorem PValid_any (b k : Int) (hb : I64 b) (hk : I64 k) (w : World) : Calls Tryz.prog 140 #[.agg #[.int .i64 b, .int .i64 k]] w fun e w' => e = .returned (.bool (decide (okB b k))) ∧ Below w.heap.size w w' := by
  have KN := Kn.start w
  obtain ⟨b0, b1⟩ := hb
  obtain ⟨k0, k1⟩ := hk
  by_cases h1 : k < 6
  · have HF := Lib.hid (decide_eq_false (p := okB b k) (fun q => by have := q.1; omega))
    go_enter Tryz.func140, Tryz.ntmps140
    go_wp2_with (first | ((with_reducible refine wpList_gate ?_); first | ((with_reducible refine gate_load ?_ ?_); rfl; first | (refine ks_load1 KN 3 Tryz.underlying3 ?_)) | ((with_reducible refine gate_new ?_ ?_); rfl; first | (refine ks_boxA KN 90 (q := 1) ?_; clear KN; intro g1 wx hg1 KN))))
    go_ret
    exact ⟨by rw [HF.out]; rfl, KN.toBelow⟩
  · by_cases h2 : 40 < k
    · have HF := Lib.hid (decide_eq_false (p := okB b k) (fun q => by have := q.2.1; omega))
      go_enter Tryz.func140, Tryz.ntmps140
      go_wp2_with (first | ((with_reducible refine wpList_gate ?_); first | ((with_reducible refine gate_load ?_ ?_); rfl; first | (refine ks_load1 KN 3 Tryz.underlying3 ?_)) | ((with_reducible refine gate_new ?_ ?_); rfl; first | (refine ks_boxA KN 90 (q := 1) ?_; clear KN; intro g1 wx hg1 KN))))
      go_ret
      exact ⟨by rw [HF.out]; rfl, KN.toBelow⟩
    · by_cases h3 : b < 0
      · have HF := Lib.hid (decide_eq_false (p := okB b k) (fun q => by have := q.2.2.1; omega))
        go_enter Tryz.func140, Tryz.ntmps140
        go_wp2_with (first | ((with_reducible refine wpList_gate ?_); first | ((with_reducible refine gate_load ?_ ?_); rfl; first | (refine ks_load1 KN 3 Tryz.underlying3 ?_)) | ((with_reducible refine gate_new ?_ ?_); rfl; first | (refine ks_boxA KN 90 (q := 1) ?_; clear KN; intro g1 wx hg1 KN))))
        go_ret
        exact ⟨by rw [HF.out]; rfl, KN.toBelow⟩
      · have HW := Lib.hid (wrap_p2 (k := k) (by omega))
        have hp := p2_pos k
        have hl := p2_le (k := k) (by omega)
        have HZ := Lib.hid (show okB b k ↔ b % p2 k = 0 ∧ b + p2 k ≤ 1099511627776 from ⟨fun q => q.2.2.2, fun q => ⟨by omega, by omega, by omega, q⟩⟩)
        obtain ⟨z, hz⟩ : ∃ z, z = p2 k := ⟨_, rfl⟩
        rw [← hz] at HW hp hl HZ
        clear hz
        have ht : b.tmod z = b % z := Int.tmod_eq_emod_of_nonneg (by omega)
        have hm0 := Int.emod_nonneg b (b := z) (by omega)
        have hm1 := Int.emod_lt_of_pos b hp
        go_enter Tryz.func140, Tryz.ntmps140
        go_upto_region 4 with (first | ((with_reducible refine wpList_gate ?_); first | ((with_reducible refine gate_load ?_ ?_); rfl; first | (refine ks_load1 KN 3 Tryz.underlying3 ?_)) | ((with_reducible refine gate_new ?_ ?_); rfl; first | (refine ks_boxA KN 90 (q := 1) ?_; clear KN; intro g1 wx hg1 KN))))
        (try go_frame)
        rw [HW.out]
        by_cases hq : b % z = 0
        · by_cases hr : b + z ≤ 1099511627776
          · have HF := Lib.hid (decide_eq_true (p := okB b k) (HZ.out.2 ⟨hq, hr⟩))
            have HE := Lib.hid (decide_eq_true (p := cmpVP b z) (by simp only [cmpVP]; omega))
            clear HZ HW
            go_wp2_with (first | ((with_reducible refine wpList_gate ?_); first | ((with_reducible refine gate_load ?_ ?_); rfl; first | (refine ks_load1 KN 3 Tryz.underlying3 ?_)) | ((with_reducible refine gate_new ?_ ?_); rfl; first | (refine ks_boxA KN 90 (q := 1) ?_; clear KN; intro g1 wx hg1 KN))))
            go_ret
            exact ⟨by rw [HF.out]; exact congrArg (fun x => Ending.returned (.bool x)) HE.out, KN.toBelow⟩
          · have HF := Lib.hid (decide_eq_false (p := okB b k) (fun q => hr (HZ.out.1 q).2))
            have HE := Lib.hid (decide_eq_false (p := cmpVP b z) (by simp only [cmpVP]; omega))
            clear HZ HW
            go_wp2_with (first | ((with_reducible refine wpList_gate ?_); first | ((with_reducible refine gate_load ?_ ?_); rfl; first | (refine ks_load1 KN 3 Tryz.underlying3 ?_)) | ((with_reducible refine gate_new ?_ ?_); rfl; first | (refine ks_boxA KN 90 (q := 1) ?_; clear KN; intro g1 wx hg1 KN))))
            go_ret
            exact ⟨by rw [HF.out]; exact congrArg (fun x => Ending.returned (.bool x)) HE.out, KN.toBelow⟩
        · have HF := Lib.hid (decide_eq_false (p := okB b k) (fun q => hq (HZ.out.1 q).1))
          clear HZ HW
          go_wp2_with (first | ((with_reducible refine wpList_gate ?_); first | ((with_reducible refine gate_load ?_ ?_); rfl; first | (refine ks_load1 KN 3 Tryz.underlying3 ?_)) | ((with_reducible refine gate_new ?_ ?_); rfl; first | (refine ks_boxA KN 90 (q := 1) ?_; clear KN; intro g1 wx hg1 KN))))
          go_ret
          exact ⟨by rw [HF.out]; rfl, KN.toBelow⟩
set_option maxRecDepth 100000 in
set_option maxHeartbeats 4000000 in
theorem RValid_any (b k : Int) (hb : I64 b) (hk : I64 k) (w : World) : Calls Tryz.prog 74 #[.agg #[.int .i64 b, .int .i64 k]] w fun e w' => e = .returned (.bool (decide (okB b k))) ∧ Below w.heap.size w w' := by
  have KN := Kn.start w
  obtain ⟨b0, b1⟩ := hb
  obtain ⟨k0, k1⟩ := hk
  by_cases h1 : k < 6
  · have HF := Lib.hid (decide_eq_false (p := okB b k) (fun q => by have := q.1; omega))
    go_enter Tryz.func74, Tryz.ntmps74
    go_wp2_with (first | ((with_reducible refine wpList_gate ?_); first | ((with_reducible refine gate_load ?_ ?_); rfl; first | (refine ks_load1 KN 3 Tryz.underlying3 ?_)) | ((with_reducible refine gate_new ?_ ?_); rfl; first | (refine ks_boxA KN 90 (q := 1) ?_; clear KN; intro g1 wx hg1 KN))))
    go_ret
    exact ⟨by rw [HF.out]; rfl, KN.toBelow⟩
  · by_cases h2 : 40 < k
    · have HF := Lib.hid (decide_eq_false (p := okB b k) (fun q => by have := q.2.1; omega))
      go_enter Tryz.func74, Tryz.ntmps74
      go_wp2_with (first | ((with_reducible refine wpList_gate ?_); first | ((with_reducible refine gate_load ?_ ?_); rfl; first | (refine ks_load1 KN 3 Tryz.underlying3 ?_)) | ((with_reducible refine gate_new ?_ ?_); rfl; first | (refine ks_boxA KN 90 (q := 1) ?_; clear KN; intro g1 wx hg1 KN))))
      go_ret
      exact ⟨by rw [HF.out]; rfl, KN.toBelow⟩
    · by_cases h3 : b < 0
      · have HF := Lib.hid (decide_eq_false (p := okB b k) (fun q => by have := q.2.2.1; omega))
        go_enter Tryz.func74, Tryz.ntmps74
        go_wp2_with (first | ((with_reducible refine wpList_gate ?_); first | ((with_reducible refine gate_load ?_ ?_); rfl; first | (refine ks_load1 KN 3 Tryz.underlying3 ?_)) | ((with_reducible refine gate_new ?_ ?_); rfl; first | (refine ks_boxA KN 90 (q := 1) ?_; clear KN; intro g1 wx hg1 KN))))
        go_ret
        exact ⟨by rw [HF.out]; rfl, KN.toBelow⟩
      · by_cases h4 : 1099511627776 ≤ b
        · have HF := Lib.hid (decide_eq_false (p := okB b k) (fun q => by have := q.2.2.2.2; have := p2_pos k; omega))
          go_enter Tryz.func74, Tryz.ntmps74
          go_wp2_with (first | ((with_reducible refine wpList_gate ?_); first | ((with_reducible refine gate_load ?_ ?_); rfl; first | (refine ks_load1 KN 3 Tryz.underlying3 ?_)) | ((with_reducible refine gate_new ?_ ?_); rfl; first | (refine ks_boxA KN 90 (q := 1) ?_; clear KN; intro g1 wx hg1 KN))))
          go_ret
          exact ⟨by rw [HF.out]; rfl, KN.toBelow⟩
        have h4' : b < 1099511627776 := by omega
        have HW := Lib.hid (wrap_p2 (k := k) (by omega))
        have hp := p2_pos k
        have hl := p2_le (k := k) (by omega)
        have HZ := Lib.hid (show okB b k ↔ b % p2 k = 0 ∧ b + p2 k ≤ 1099511627776 from ⟨fun q => q.2.2.2, fun q => ⟨by omega, by omega, by omega, q⟩⟩)
        obtain ⟨z, hz⟩ : ∃ z, z = p2 k := ⟨_, rfl⟩
        rw [← hz] at HW hp hl HZ
        clear hz
        have ht : b.tmod z = b % z := Int.tmod_eq_emod_of_nonneg (by omega)
        have hm0 := Int.emod_nonneg b (b := z) (by omega)
        have hm1 := Int.emod_lt_of_pos b hp
        go_enter Tryz.func74, Tryz.ntmps74
        go_upto_region 4 with (first | ((with_reducible refine wpList_gate ?_); first | ((with_reducible refine gate_load ?_ ?_); rfl; first | (refine ks_load1 KN 3 Tryz.underlying3 ?_)) | ((with_reducible refine gate_new ?_ ?_); rfl; first | (refine ks_boxA KN 90 (q := 1) ?_; clear KN; intro g1 wx hg1 KN))))
        (try go_frame)
        rw [HW.out]
        by_cases hq : b % z = 0
        · by_cases hr : b + z ≤ 1099511627776
          · have HF := Lib.hid (decide_eq_true (p := okB b k) (HZ.out.2 ⟨hq, hr⟩))
            have HE := Lib.hid (decide_eq_true (p := cmpVR b z) (by simp only [cmpVR]; omega))
            clear HZ HW
            go_wp2_with (first | ((with_reducible refine wpList_gate ?_); first | ((with_reducible refine gate_load ?_ ?_); rfl; first | (refine ks_load1 KN 3 Tryz.underlying3 ?_)) | ((with_reducible refine gate_new ?_ ?_); rfl; first | (refine ks_boxA KN 90 (q := 1) ?_; clear KN; intro g1 wx hg1 KN))))
            go_ret
            exact ⟨by rw [HF.out]; rfl, KN.toBelow⟩
          · have HF := Lib.hid (decide_eq_false (p := okB b k) (fun q => hr (HZ.out.1 q).2))
            have HE := Lib.hid (decide_eq_false (p := cmpVR b z) (by simp only [cmpVR]; omega))
            clear HZ HW
            go_wp2_with (first | ((with_reducible refine wpList_gate ?_); first | ((with_reducible refine gate_load ?_ ?_); rfl; first | (refine ks_load1 KN 3 Tryz.underlying3 ?_)) | ((with_reducible refine gate_new ?_ ?_); rfl; first | (refine ks_boxA KN 90 (q := 1) ?_; clear KN; intro g1 wx hg1 KN))))
            go_ret
            exact ⟨by rw [HF.out]; rfl, KN.toBelow⟩
        · have HF := Lib.hid (decide_eq_false (p := okB b k) (fun q => hq (HZ.out.1 q).1))
          clear HZ HW
          go_wp2_with (first | ((with_reducible refine wpList_gate ?_); first | ((with_reducible refine gate_load ?_ ?_); rfl; first | (refine ks_load1 KN 3 Tryz.underlying3 ?_)) | ((with_reducible refine gate_new ?_ ?_); rfl; first | (refine ks_boxA KN 90 (q := 1) ?_; clear KN; intro g1 wx hg1 KN))))
          go_ret
          exact ⟨by rw [HF.out]; rfl, KN.toBelow⟩
end
section
open Go.RowKit Go.BigFrame
theorem okB_lim {b k : Int} (h : okB b k) : 0 ≤ b ∧ 6 ≤ k ∧ k ≤ 40 ∧ b + p2 k ≤ 1099511627776 := ⟨h.2.2.1, h.1, h.2.1, h.2.2.2.2⟩
set_option maxRecDepth 100000 in
set_option maxHeartbeats 4000000 in
theorem REnd_any (b k : Int) (hb : I64 b) (hk : I64 k) (w : World) : Calls Tryz.prog 75 #[.agg #[.int .i64 b, .int .i64 k]] w fun e w' => e = .returned (.int .i64 (endB b k)) ∧ Below w.heap.size w w' := by
  have KN := Kn.start w
  have HB := Lib.hid hb
  have HK := Lib.hid hk
  by_cases h1 : okB b k
  · have HD := Lib.hid (decide_eq_true h1)
    have HE : Hid (endB b k = b + p2 k) := Lib.hid (by unfold endB; rw [if_pos h1])
    obtain ⟨l0, l1, l2, l3⟩ := okB_lim h1
    have HW := Lib.hid (wrap_p2 (k := k) (by omega))
    have hp := p2_pos k
    obtain ⟨z, hz⟩ : ∃ z, z = p2 k := ⟨_, rfl⟩
    rw [← hz] at HW hp l3 HE
    have HS : Hid (b + z = wrap64 (b + wrap64 (2 ^ k.toNat))) := Lib.hid (by rw [HW.out]; unfold wrap64; omega)
    clear hz h1 hb hk
    go_enter Tryz.func75, Tryz.ntmps75
    go_wp2_with (first | (go_at_call 74; refine (RValid_any b k HB.out HK.out _).mono ?_; rw [HD.out]; rintro e wx ⟨rfl, hb1⟩; replace KN := KN.below hb1) | ((with_reducible refine wpList_gate ?_); first | ((with_reducible refine gate_load ?_ ?_); rfl; first | (refine ks_loadW KN 90 Tryz.underlying90 ?_) | (refine ks_load1 KN 3 Tryz.underlying3 ?_)) | ((with_reducible refine gate_new ?_ ?_); rfl; first | (refine ks_boxA KN 90 (q := 1) ?_; clear KN; intro g1 wx hg1 KN))))
    go_ret
    exact ⟨by rw [HE.out, HS.out]; rfl, KN.toBelow⟩
  · have HD := Lib.hid (decide_eq_false h1)
    have HE : Hid (endB b k = 0) := Lib.hid (by unfold endB; rw [if_neg h1])
    clear h1 hb hk
    go_enter Tryz.func75, Tryz.ntmps75
    go_wp2_with (first | (go_at_call 74; refine (RValid_any b k HB.out HK.out _).mono ?_; rw [HD.out]; rintro e wx ⟨rfl, hb1⟩; replace KN := KN.below hb1) | ((with_reducible refine wpList_gate ?_); first | ((with_reducible refine gate_load ?_ ?_); rfl; first | (refine ks_loadW KN 90 Tryz.underlying90 ?_) | (refine ks_load1 KN 3 Tryz.underlying3 ?_)) | ((with_reducible refine gate_new ?_ ?_); rfl; first | (refine ks_boxA KN 90 (q := 1) ?_; clear KN; intro g1 wx hg1 KN))))
    go_ret
    exact ⟨by rw [HE.out]; rfl, KN.toBelow⟩
-- OVL
set_option maxRecDepth 100000 in
set_option maxHeartbeats 8000000 in
theorem ROvl_any (a j b k : Int) (ha : I64 a) (hj : I64 j) (hb : I64 b) (hk : I64 k) (w : World) : Calls Tryz.prog 152 #[.agg #[.int .i64 a, .int .i64 j], .agg #[.int .i64 b, .int .i64 k]] w fun e w' => e = .returned (.bool (decide (ovlB a j b k))) ∧ Below w.heap.size w w' := by
  have KN := Kn.start w
  have HB := Lib.hid hb
  have HK := Lib.hid hk
  have HA := Lib.hid ha
  have HJ := Lib.hid hj
  clear ha hj hb hk
  obtain ⟨ea, hea⟩ : ∃ x, x = endB a j := ⟨_, rfl⟩
  obtain ⟨eb, heb⟩ : ∃ x, x = endB b k := ⟨_, rfl⟩
  have HEA := Lib.hid hea
  have HEB := Lib.hid heb
  by_cases h1 : okB a j
  · have HD := Lib.hid (decide_eq_true h1)
    by_cases h2 : okB b k
    · have HE := Lib.hid (decide_eq_true h2)
      by_cases h3 : a < eb
      · have e3 : decide (a < eb) = true := decide_eq_true h3
        have HF : Hid (decide (ovlB a j b k) = decide (b < ea)) := Lib.hid (decide_eq_decide.2 ⟨fun q => by rw [hea]; exact q.2.2.2, fun q => ⟨h1, h2, by rw [← heb]; exact h3, by rw [← hea]; exact q⟩⟩)
        clear hea heb h1 h2 h3
        go_enter Tryz.func152, Tryz.ntmps152
        go_upto_region 1 with (first | ((with_reducible refine wpList_gate ?_); first | ((with_reducible refine gate_load ?_ ?_); rfl; first | (refine ks_loadW KN 90 Tryz.underlying90 ?_) | (refine ks_load1 KN 3 Tryz.underlying3 ?_)) | ((with_reducible refine gate_new ?_ ?_); rfl; first | (refine ks_boxA KN 90 (q := 2) ?_; clear KN; intro g2 wx hg2 KN) | (refine ks_boxA KN 90 (q := 3) ?_; clear KN; intro g3 wx hg3 KN))))
        (try go_frame)
        replace KN := KN.drew
        refine wp_region_held_drew (S := (fun w' => BlkT w' g2 #[.int .i64 a, .int .i64 j] 90 ∧ BlkT w' g3 #[.int .i64 b, .int .i64 k] 90)) (by kernel_rfl) ?o1vhS (fun hHeld => ?o1vrest)
        case o1vhS => exact ⟨KN.at_ (by repeat (first | exact Has.here | refine Has.there ?_)), KN.at_ (by repeat (first | exact Has.here | refine Has.there ?_))⟩
        refine wpAnyH_take (i := 0) (oi := ⟨some 5, _, _, _, _, _⟩) (v := (.agg #[.int .i64 a, .int .i64 j])) rfl (by kernel_rfl) (by kernel_rfl) (by kernel_rfl) (fun _ _ _ h => h) (kn_yieldsN (by rfl) 90 _ rfl g2 0 rfl _ 90 (fun _ h => h.1) #[.int .i64 a, .int .i64 j] rfl _ Tryz.underlying90 rfl (by kernel_rfl)) hHeld ?o1vr0
        (try simp only [Act.put, List.setIfInBounds_toArray, List.set_cons_zero, List.set_cons_succ])
        refine wpAnyH_ready (rs := [1]) (by kernel_rfl) (by simp) ?o1vc1
        refine AllReadyH.cons (o := ⟨some 6, _, _, _, _, _⟩) rfl (fun K hK => ?o1vst1) AllReadyH.nil
        go_simp
        (refine (RValid_any a j HA.out HJ.out _).mono ?_; rw [HD.out]; rintro e wx ⟨rfl, hb1⟩; replace KN := KN.below hb1)
        refine hK.out _ _ ?o1vk1 (fun hHeld2 => ?o1vm1)
        case o1vk1 => exact ⟨KN.at_ (by repeat (first | exact Has.here | refine Has.there ?_)), KN.at_ (by repeat (first | exact Has.here | refine Has.there ?_))⟩
        clear hK K hHeld
        have hHeld := hHeld2; clear hHeld2
        (try simp only [Act.put, List.setIfInBounds_toArray, List.set_cons_zero, List.set_cons_succ])
        refine wpAnyH_take (i := 2) (oi := ⟨some 7, _, _, _, _, _⟩) (v := ?o1vv2) rfl (by kernel_rfl) (by kernel_rfl) (by kernel_rfl) (fun _ _ _ h => h) (Or.inl ⟨by rfl, ?o1vhy2⟩) hHeld ?o1vr2
        case o1vhy2 => (intro w hSw; (try dsimp only at hSw); go_simp; (try with_reducible rfl))
        (try simp only [Act.put, List.setIfInBounds_toArray, List.set_cons_zero, List.set_cons_succ])
        refine wpAnyH_take (i := 3) (oi := ⟨some 8, _, _, _, _, _⟩) (v := (.agg #[.int .i64 b, .int .i64 k])) rfl (by kernel_rfl) (by kernel_rfl) (by kernel_rfl) (fun _ _ _ h => h) (kn_yieldsN (by rfl) 90 _ rfl g3 0 rfl _ 90 (fun _ h => h.2) #[.int .i64 b, .int .i64 k] rfl _ Tryz.underlying90 rfl (by kernel_rfl)) hHeld ?o1vr3
        (try simp only [Act.put, List.setIfInBounds_toArray, List.set_cons_zero, List.set_cons_succ])
        refine wpAnyH_ready (rs := [4]) (by kernel_rfl) (by simp) ?o1vc4
        refine AllReadyH.cons (o := ⟨some 9, _, _, _, _, _⟩) rfl (fun K hK => ?o1vst4) AllReadyH.nil
        go_simp
        (refine (RValid_any b k HB.out HK.out _).mono ?_; rw [HE.out]; rintro e wx ⟨rfl, hb1⟩; replace KN := KN.below hb1)
        refine hK.out _ _ ?o1vk4 (fun hHeld2 => ?o1vm4)
        case o1vk4 => exact ⟨KN.at_ (by repeat (first | exact Has.here | refine Has.there ?_)), KN.at_ (by repeat (first | exact Has.here | refine Has.there ?_))⟩
        clear hK K hHeld
        have hHeld := hHeld2; clear hHeld2
        (try simp only [Act.put, List.setIfInBounds_toArray, List.set_cons_zero, List.set_cons_succ])
        refine wpAnyH_take (i := 5) (oi := ⟨some 10, _, _, _, _, _⟩) (v := ?o1vv5) rfl (by kernel_rfl) (by kernel_rfl) (by kernel_rfl) (fun _ _ _ h => h) (Or.inl ⟨by rfl, ?o1vhy5⟩) hHeld ?o1vr5
        case o1vhy5 => (intro w hSw; (try dsimp only at hSw); go_simp; (try with_reducible rfl))
        (try simp only [Act.put, List.setIfInBounds_toArray, List.set_cons_zero, List.set_cons_succ])
        refine wpAnyH_take (i := 6) (oi := ⟨some 11, _, _, _, _, _⟩) (v := ?o1vv6) rfl (by kernel_rfl) (by kernel_rfl) (by kernel_rfl) (fun _ _ _ h => h) (Or.inl ⟨by rfl, ?o1vhy6⟩) hHeld ?o1vr6
        case o1vhy6 => (intro w hSw; (try dsimp only at hSw); go_simp; (try with_reducible rfl))
        (try simp only [Act.put, List.setIfInBounds_toArray, List.set_cons_zero, List.set_cons_succ])
        refine wpAnyH_take (i := 7) (oi := ⟨some 12, _, _, _, _, _⟩) (v := ?o1vv7) rfl (by kernel_rfl) (by kernel_rfl) (by kernel_rfl) (fun _ _ _ h => h) (Or.inl ⟨by rfl, ?o1vhy7⟩) hHeld ?o1vr7
        case o1vhy7 => (intro w hSw; (try dsimp only at hSw); go_simp; (try with_reducible rfl))
        (try simp only [Act.put, List.setIfInBounds_toArray, List.set_cons_zero, List.set_cons_succ])
        refine wpAnyH_take (i := 8) (oi := ⟨some 13, _, _, _, _, _⟩) (v := (.int .i64 a)) rfl (by kernel_rfl) (by kernel_rfl) (by kernel_rfl) (fun _ _ _ h => h) (kn_yields1 (by rfl) 3 _ rfl g2 0 rfl _ 90 (fun _ h => h.1) _ rfl _ Tryz.underlying3 rfl) hHeld ?o1vr8
        (try simp only [Act.put, List.setIfInBounds_toArray, List.set_cons_zero, List.set_cons_succ])
        refine wpAnyH_take (i := 9) (oi := ⟨some 14, _, _, _, _, _⟩) (v := (.agg #[.int .i64 b, .int .i64 k])) rfl (by kernel_rfl) (by kernel_rfl) (by kernel_rfl) (fun _ _ _ h => h) (kn_yieldsN (by rfl) 90 _ rfl g3 0 rfl _ 90 (fun _ h => h.2) #[.int .i64 b, .int .i64 k] rfl _ Tryz.underlying90 rfl (by kernel_rfl)) hHeld ?o1vr9
        (try simp only [Act.put, List.setIfInBounds_toArray, List.set_cons_zero, List.set_cons_succ])
        refine wpAnyH_ready (rs := [10]) (by kernel_rfl) (by simp) ?o1vc10
        refine AllReadyH.cons (o := ⟨some 15, _, _, _, _, _⟩) rfl (fun K hK => ?o1vst10) AllReadyH.nil
        go_simp
        (refine (REnd_any b k HB.out HK.out _).mono ?_; rw [← HEB.out]; rintro e wx ⟨rfl, hb1⟩; replace KN := KN.below hb1)
        refine hK.out _ _ ?o1vk10 (fun hHeld2 => ?o1vm10)
        case o1vk10 => exact ⟨KN.at_ (by repeat (first | exact Has.here | refine Has.there ?_)), KN.at_ (by repeat (first | exact Has.here | refine Has.there ?_))⟩
        clear hK K hHeld
        have hHeld := hHeld2; clear hHeld2
        (try simp only [Act.put, List.setIfInBounds_toArray, List.set_cons_zero, List.set_cons_succ])
        refine wpAnyH_take (i := 11) (oi := ⟨some 16, _, _, _, _, _⟩) (v := ?o1vv11) rfl (by kernel_rfl) (by kernel_rfl) (by kernel_rfl) (fun _ _ _ h => h) (Or.inl ⟨by rfl, ?o1vhy11⟩) hHeld ?o1vr11
        case o1vhy11 => (intro w hSw; (try dsimp only at hSw); go_simp; (try with_reducible rfl))
        (try simp only [Act.put, List.setIfInBounds_toArray, List.set_cons_zero, List.set_cons_succ])
        refine wpAnyH_take (i := 12) (oi := ⟨some 17, _, _, _, _, _⟩) (v := ?o1vv12) rfl (by kernel_rfl) (by kernel_rfl) (by kernel_rfl) (fun _ _ _ h => h) (Or.inl ⟨by rfl, ?o1vhy12⟩) hHeld ?o1vr12
        case o1vhy12 => (intro w hSw; (try dsimp only at hSw); go_simp; (try with_reducible rfl))
        (try simp only [Act.put, List.setIfInBounds_toArray, List.set_cons_zero, List.set_cons_succ])
        refine wpAnyH_take (i := 13) (oi := ⟨some 18, _, _, _, _, _⟩) (v := ?o1vv13) rfl (by kernel_rfl) (by kernel_rfl) (by kernel_rfl) (fun _ _ _ h => h) (Or.inl ⟨by rfl, ?o1vhy13⟩) hHeld ?o1vr13
        case o1vhy13 => (intro w hSw; (try dsimp only at hSw); go_simp; (try with_reducible rfl))
        (try simp only [Act.put, List.setIfInBounds_toArray, List.set_cons_zero, List.set_cons_succ])
        refine wpAnyH_take (i := 14) (oi := ⟨some 19, _, _, _, _, _⟩) (v := ?o1vv14) rfl (by kernel_rfl) (by kernel_rfl) (by kernel_rfl) (fun _ _ _ h => h) (Or.inl ⟨by rfl, ?o1vhy14⟩) hHeld ?o1vr14
        case o1vhy14 => (intro w hSw; (try dsimp only at hSw); go_simp; (try with_reducible rfl))
        (try simp only [Act.put, List.setIfInBounds_toArray, List.set_cons_zero, List.set_cons_succ])
        refine wpAnyH_take (i := 15) (oi := ⟨some 20, _, _, _, _, _⟩) (v := (.int .i64 b)) rfl (by kernel_rfl) (by kernel_rfl) (by kernel_rfl) (fun _ _ _ h => h) (kn_yields1 (by rfl) 3 _ rfl g3 0 rfl _ 90 (fun _ h => h.2) _ rfl _ Tryz.underlying3 rfl) hHeld ?o1vr15
        (try simp only [Act.put, List.setIfInBounds_toArray, List.set_cons_zero, List.set_cons_succ])
        refine wpAnyH_take (i := 16) (oi := ⟨some 21, _, _, _, _, _⟩) (v := (.agg #[.int .i64 a, .int .i64 j])) rfl (by kernel_rfl) (by kernel_rfl) (by kernel_rfl) (fun _ _ _ h => h) (kn_yieldsN (by rfl) 90 _ rfl g2 0 rfl _ 90 (fun _ h => h.1) #[.int .i64 a, .int .i64 j] rfl _ Tryz.underlying90 rfl (by kernel_rfl)) hHeld ?o1vr16
        (try simp only [Act.put, List.setIfInBounds_toArray, List.set_cons_zero, List.set_cons_succ])
        refine wpAnyH_ready (rs := [17]) (by kernel_rfl) (by simp) ?o1vc17
        refine AllReadyH.cons (o := ⟨some 22, _, _, _, _, _⟩) rfl (fun K hK => ?o1vst17) AllReadyH.nil
        go_simp
        (refine (REnd_any a j HA.out HJ.out _).mono ?_; rw [← HEA.out]; rintro e wx ⟨rfl, hb1⟩; replace KN := KN.below hb1)
        refine hK.out _ _ ?o1vk17 (fun hHeld2 => ?o1vm17)
        case o1vk17 => exact ⟨KN.at_ (by repeat (first | exact Has.here | refine Has.there ?_)), KN.at_ (by repeat (first | exact Has.here | refine Has.there ?_))⟩
        clear hK K hHeld
        have hHeld := hHeld2; clear hHeld2
        (try simp only [Act.put, List.setIfInBounds_toArray, List.set_cons_zero, List.set_cons_succ])
        refine wpAnyH_take (i := 18) (oi := ⟨some 23, _, _, _, _, _⟩) (v := ?o1vv18) rfl (by kernel_rfl) (by kernel_rfl) (by kernel_rfl) (fun _ _ _ h => h) (Or.inl ⟨by rfl, ?o1vhy18⟩) hHeld ?o1vr18
        case o1vhy18 => (intro w hSw; (try dsimp only at hSw); go_simp; (try with_reducible rfl))
        (try simp only [Act.put, List.setIfInBounds_toArray, List.set_cons_zero, List.set_cons_succ])
        refine wpAnyH_take (i := 19) (oi := ⟨some 24, _, _, _, _, _⟩) (v := ?o1vv19) rfl (by kernel_rfl) (by kernel_rfl) (by kernel_rfl) (fun _ _ _ h => h) (Or.inl ⟨by rfl, ?o1vhy19⟩) hHeld ?o1vr19
        case o1vhy19 => (intro w hSw; (try dsimp only at hSw); go_simp; (try with_reducible rfl))
        (try simp only [Act.put, List.setIfInBounds_toArray, List.set_cons_zero, List.set_cons_succ])
        refine wpAnyH_take (i := 20) (oi := ⟨some 4, _, _, _, _, _⟩) (v := ?o1vv20) rfl (by kernel_rfl) (by kernel_rfl) (by kernel_rfl) (fun _ _ _ h => h) (Or.inl ⟨by rfl, ?o1vhy20⟩) hHeld ?o1vr20
        case o1vhy20 => (intro w hSw; (try dsimp only at hSw); go_simp; (try with_reducible rfl))
        (try simp only [Act.put, List.setIfInBounds_toArray, List.set_cons_zero, List.set_cons_succ])
        refine wpAnyH_done (by kernel_rfl) ?o1vdone _
        go_wp2_with fail
        go_ret
        exact ⟨by rw [HF.out]; rfl, KN.toBelow⟩
      · have e3 : decide (a < eb) = false := decide_eq_false h3
        have HF : Hid (decide (ovlB a j b k) = false) := Lib.hid (decide_eq_false fun q => h3 (by rw [heb]; exact q.2.2.1))
        clear hea heb h1 h2 h3
        go_enter Tryz.func152, Tryz.ntmps152
        go_upto_region 1 with (first | ((with_reducible refine wpList_gate ?_); first | ((with_reducible refine gate_load ?_ ?_); rfl; first | (refine ks_loadW KN 90 Tryz.underlying90 ?_) | (refine ks_load1 KN 3 Tryz.underlying3 ?_)) | ((with_reducible refine gate_new ?_ ?_); rfl; first | (refine ks_boxA KN 90 (q := 2) ?_; clear KN; intro g2 wx hg2 KN) | (refine ks_boxA KN 90 (q := 3) ?_; clear KN; intro g3 wx hg3 KN))))
        (try go_frame)
        replace KN := KN.drew
        refine wp_region_held_drew (S := (fun w' => BlkT w' g2 #[.int .i64 a, .int .i64 j] 90 ∧ BlkT w' g3 #[.int .i64 b, .int .i64 k] 90)) (by kernel_rfl) ?o2vhS (fun hHeld => ?o2vrest)
        case o2vhS => exact ⟨KN.at_ (by repeat (first | exact Has.here | refine Has.there ?_)), KN.at_ (by repeat (first | exact Has.here | refine Has.there ?_))⟩
        refine wpAnyH_take (i := 0) (oi := ⟨some 5, _, _, _, _, _⟩) (v := (.agg #[.int .i64 a, .int .i64 j])) rfl (by kernel_rfl) (by kernel_rfl) (by kernel_rfl) (fun _ _ _ h => h) (kn_yieldsN (by rfl) 90 _ rfl g2 0 rfl _ 90 (fun _ h => h.1) #[.int .i64 a, .int .i64 j] rfl _ Tryz.underlying90 rfl (by kernel_rfl)) hHeld ?o2vr0
        (try simp only [Act.put, List.setIfInBounds_toArray, List.set_cons_zero, List.set_cons_succ])
        refine wpAnyH_ready (rs := [1]) (by kernel_rfl) (by simp) ?o2vc1
        refine AllReadyH.cons (o := ⟨some 6, _, _, _, _, _⟩) rfl (fun K hK => ?o2vst1) AllReadyH.nil
        go_simp
        (refine (RValid_any a j HA.out HJ.out _).mono ?_; rw [HD.out]; rintro e wx ⟨rfl, hb1⟩; replace KN := KN.below hb1)
        refine hK.out _ _ ?o2vk1 (fun hHeld2 => ?o2vm1)
        case o2vk1 => exact ⟨KN.at_ (by repeat (first | exact Has.here | refine Has.there ?_)), KN.at_ (by repeat (first | exact Has.here | refine Has.there ?_))⟩
        clear hK K hHeld
        have hHeld := hHeld2; clear hHeld2
        (try simp only [Act.put, List.setIfInBounds_toArray, List.set_cons_zero, List.set_cons_succ])
        refine wpAnyH_take (i := 2) (oi := ⟨some 7, _, _, _, _, _⟩) (v := ?o2vv2) rfl (by kernel_rfl) (by kernel_rfl) (by kernel_rfl) (fun _ _ _ h => h) (Or.inl ⟨by rfl, ?o2vhy2⟩) hHeld ?o2vr2
        case o2vhy2 => (intro w hSw; (try dsimp only at hSw); go_simp; (try with_reducible rfl))
        (try simp only [Act.put, List.setIfInBounds_toArray, List.set_cons_zero, List.set_cons_succ])
        refine wpAnyH_take (i := 3) (oi := ⟨some 8, _, _, _, _, _⟩) (v := (.agg #[.int .i64 b, .int .i64 k])) rfl (by kernel_rfl) (by kernel_rfl) (by kernel_rfl) (fun _ _ _ h => h) (kn_yieldsN (by rfl) 90 _ rfl g3 0 rfl _ 90 (fun _ h => h.2) #[.int .i64 b, .int .i64 k] rfl _ Tryz.underlying90 rfl (by kernel_rfl)) hHeld ?o2vr3
        (try simp only [Act.put, List.setIfInBounds_toArray, List.set_cons_zero, List.set_cons_succ])
        refine wpAnyH_ready (rs := [4]) (by kernel_rfl) (by simp) ?o2vc4
        refine AllReadyH.cons (o := ⟨some 9, _, _, _, _, _⟩) rfl (fun K hK => ?o2vst4) AllReadyH.nil
        go_simp
        (refine (RValid_any b k HB.out HK.out _).mono ?_; rw [HE.out]; rintro e wx ⟨rfl, hb1⟩; replace KN := KN.below hb1)
        refine hK.out _ _ ?o2vk4 (fun hHeld2 => ?o2vm4)
        case o2vk4 => exact ⟨KN.at_ (by repeat (first | exact Has.here | refine Has.there ?_)), KN.at_ (by repeat (first | exact Has.here | refine Has.there ?_))⟩
        clear hK K hHeld
        have hHeld := hHeld2; clear hHeld2
        (try simp only [Act.put, List.setIfInBounds_toArray, List.set_cons_zero, List.set_cons_succ])
        refine wpAnyH_take (i := 5) (oi := ⟨some 10, _, _, _, _, _⟩) (v := ?o2vv5) rfl (by kernel_rfl) (by kernel_rfl) (by kernel_rfl) (fun _ _ _ h => h) (Or.inl ⟨by rfl, ?o2vhy5⟩) hHeld ?o2vr5
        case o2vhy5 => (intro w hSw; (try dsimp only at hSw); go_simp; (try with_reducible rfl))
        (try simp only [Act.put, List.setIfInBounds_toArray, List.set_cons_zero, List.set_cons_succ])
        refine wpAnyH_take (i := 6) (oi := ⟨some 11, _, _, _, _, _⟩) (v := ?o2vv6) rfl (by kernel_rfl) (by kernel_rfl) (by kernel_rfl) (fun _ _ _ h => h) (Or.inl ⟨by rfl, ?o2vhy6⟩) hHeld ?o2vr6
        case o2vhy6 => (intro w hSw; (try dsimp only at hSw); go_simp; (try with_reducible rfl))
        (try simp only [Act.put, List.setIfInBounds_toArray, List.set_cons_zero, List.set_cons_succ])
        refine wpAnyH_take (i := 7) (oi := ⟨some 12, _, _, _, _, _⟩) (v := ?o2vv7) rfl (by kernel_rfl) (by kernel_rfl) (by kernel_rfl) (fun _ _ _ h => h) (Or.inl ⟨by rfl, ?o2vhy7⟩) hHeld ?o2vr7
        case o2vhy7 => (intro w hSw; (try dsimp only at hSw); go_simp; (try with_reducible rfl))
        (try simp only [Act.put, List.setIfInBounds_toArray, List.set_cons_zero, List.set_cons_succ])
        refine wpAnyH_take (i := 8) (oi := ⟨some 13, _, _, _, _, _⟩) (v := (.int .i64 a)) rfl (by kernel_rfl) (by kernel_rfl) (by kernel_rfl) (fun _ _ _ h => h) (kn_yields1 (by rfl) 3 _ rfl g2 0 rfl _ 90 (fun _ h => h.1) _ rfl _ Tryz.underlying3 rfl) hHeld ?o2vr8
        (try simp only [Act.put, List.setIfInBounds_toArray, List.set_cons_zero, List.set_cons_succ])
        refine wpAnyH_take (i := 9) (oi := ⟨some 14, _, _, _, _, _⟩) (v := (.agg #[.int .i64 b, .int .i64 k])) rfl (by kernel_rfl) (by kernel_rfl) (by kernel_rfl) (fun _ _ _ h => h) (kn_yieldsN (by rfl) 90 _ rfl g3 0 rfl _ 90 (fun _ h => h.2) #[.int .i64 b, .int .i64 k] rfl _ Tryz.underlying90 rfl (by kernel_rfl)) hHeld ?o2vr9
        (try simp only [Act.put, List.setIfInBounds_toArray, List.set_cons_zero, List.set_cons_succ])
        refine wpAnyH_ready (rs := [10]) (by kernel_rfl) (by simp) ?o2vc10
        refine AllReadyH.cons (o := ⟨some 15, _, _, _, _, _⟩) rfl (fun K hK => ?o2vst10) AllReadyH.nil
        go_simp
        (refine (REnd_any b k HB.out HK.out _).mono ?_; rw [← HEB.out]; rintro e wx ⟨rfl, hb1⟩; replace KN := KN.below hb1)
        refine hK.out _ _ ?o2vk10 (fun hHeld2 => ?o2vm10)
        case o2vk10 => exact ⟨KN.at_ (by repeat (first | exact Has.here | refine Has.there ?_)), KN.at_ (by repeat (first | exact Has.here | refine Has.there ?_))⟩
        clear hK K hHeld
        have hHeld := hHeld2; clear hHeld2
        (try simp only [Act.put, List.setIfInBounds_toArray, List.set_cons_zero, List.set_cons_succ])
        refine wpAnyH_take (i := 11) (oi := ⟨some 16, _, _, _, _, _⟩) (v := ?o2vv11) rfl (by kernel_rfl) (by kernel_rfl) (by kernel_rfl) (fun _ _ _ h => h) (Or.inl ⟨by rfl, ?o2vhy11⟩) hHeld ?o2vr11
        case o2vhy11 => (intro w hSw; (try dsimp only at hSw); go_simp; (try with_reducible rfl))
        (try simp only [Act.put, List.setIfInBounds_toArray, List.set_cons_zero, List.set_cons_succ])
        refine wpAnyH_take (i := 12) (oi := ⟨some 17, _, _, _, _, _⟩) (v := ?o2vv12) rfl (by kernel_rfl) (by kernel_rfl) (by kernel_rfl) (fun _ _ _ h => h) (Or.inl ⟨by rfl, ?o2vhy12⟩) hHeld ?o2vr12
        case o2vhy12 => (intro w hSw; (try dsimp only at hSw); go_simp; (try with_reducible rfl))
        (try simp only [Act.put, List.setIfInBounds_toArray, List.set_cons_zero, List.set_cons_succ])
        refine wpAnyH_take (i := 13) (oi := ⟨some 18, _, _, _, _, _⟩) (v := ?o2vv13) rfl (by kernel_rfl) (by kernel_rfl) (by kernel_rfl) (fun _ _ _ h => h) (Or.inl ⟨by rfl, ?o2vhy13⟩) hHeld ?o2vr13
        case o2vhy13 => (intro w hSw; (try dsimp only at hSw); go_simp; (try with_reducible rfl))
        (try simp only [Act.put, List.setIfInBounds_toArray, List.set_cons_zero, List.set_cons_succ])
        refine wpAnyH_take (i := 14) (oi := ⟨some 19, _, _, _, _, _⟩) (v := undef) rfl (by kernel_rfl) (by kernel_rfl) (by kernel_rfl) (fun _ _ _ h => h) (Or.inr ⟨by rfl, rfl⟩) hHeld ?o2vr14
        (try simp only [Act.put, List.setIfInBounds_toArray, List.set_cons_zero, List.set_cons_succ])
        refine wpAnyH_take (i := 15) (oi := ⟨some 20, _, _, _, _, _⟩) (v := undef) rfl (by kernel_rfl) (by kernel_rfl) (by kernel_rfl) (fun _ _ _ h => h) (Or.inr ⟨by rfl, rfl⟩) hHeld ?o2vr15
        (try simp only [Act.put, List.setIfInBounds_toArray, List.set_cons_zero, List.set_cons_succ])
        refine wpAnyH_take (i := 16) (oi := ⟨some 21, _, _, _, _, _⟩) (v := undef) rfl (by kernel_rfl) (by kernel_rfl) (by kernel_rfl) (fun _ _ _ h => h) (Or.inr ⟨by rfl, rfl⟩) hHeld ?o2vr16
        (try simp only [Act.put, List.setIfInBounds_toArray, List.set_cons_zero, List.set_cons_succ])
        refine wpAnyH_take (i := 17) (oi := ⟨some 22, _, _, _, _, _⟩) (v := undef) rfl (by kernel_rfl) (by kernel_rfl) (by kernel_rfl) (fun _ _ _ h => h) (Or.inr ⟨by rfl, rfl⟩) hHeld ?o2vr17
        (try simp only [Act.put, List.setIfInBounds_toArray, List.set_cons_zero, List.set_cons_succ])
        refine wpAnyH_take (i := 18) (oi := ⟨some 23, _, _, _, _, _⟩) (v := undef) rfl (by kernel_rfl) (by kernel_rfl) (by kernel_rfl) (fun _ _ _ h => h) (Or.inr ⟨by rfl, rfl⟩) hHeld ?o2vr18
        (try simp only [Act.put, List.setIfInBounds_toArray, List.set_cons_zero, List.set_cons_succ])
        refine wpAnyH_take (i := 19) (oi := ⟨some 24, _, _, _, _, _⟩) (v := ?o2vv19) rfl (by kernel_rfl) (by kernel_rfl) (by kernel_rfl) (fun _ _ _ h => h) (Or.inl ⟨by rfl, ?o2vhy19⟩) hHeld ?o2vr19
        case o2vhy19 => (intro w hSw; (try dsimp only at hSw); go_simp; (try with_reducible rfl))
        (try simp only [Act.put, List.setIfInBounds_toArray, List.set_cons_zero, List.set_cons_succ])
        refine wpAnyH_take (i := 20) (oi := ⟨some 4, _, _, _, _, _⟩) (v := ?o2vv20) rfl (by kernel_rfl) (by kernel_rfl) (by kernel_rfl) (fun _ _ _ h => h) (Or.inl ⟨by rfl, ?o2vhy20⟩) hHeld ?o2vr20
        case o2vhy20 => (intro w hSw; (try dsimp only at hSw); go_simp; (try with_reducible rfl))
        (try simp only [Act.put, List.setIfInBounds_toArray, List.set_cons_zero, List.set_cons_succ])
        refine wpAnyH_done (by kernel_rfl) ?o2vdone _
        go_wp2_with fail
        go_ret
        exact ⟨by rw [HF.out]; rfl, KN.toBelow⟩
    · have HE := Lib.hid (decide_eq_false h2)
      have HF : Hid (decide (ovlB a j b k) = false) := Lib.hid (decide_eq_false fun q => h2 q.2.1)
      clear hea heb h1 h2
      go_enter Tryz.func152, Tryz.ntmps152
      go_upto_region 1 with (first | ((with_reducible refine wpList_gate ?_); first | ((with_reducible refine gate_load ?_ ?_); rfl; first | (refine ks_loadW KN 90 Tryz.underlying90 ?_) | (refine ks_load1 KN 3 Tryz.underlying3 ?_)) | ((with_reducible refine gate_new ?_ ?_); rfl; first | (refine ks_boxA KN 90 (q := 2) ?_; clear KN; intro g2 wx hg2 KN) | (refine ks_boxA KN 90 (q := 3) ?_; clear KN; intro g3 wx hg3 KN))))
      (try go_frame)
      replace KN := KN.drew
      refine wp_region_held_drew (S := (fun w' => BlkT w' g2 #[.int .i64 a, .int .i64 j] 90 ∧ BlkT w' g3 #[.int .i64 b, .int .i64 k] 90)) (by kernel_rfl) ?o3vhS (fun hHeld => ?o3vrest)
      case o3vhS => exact ⟨KN.at_ (by repeat (first | exact Has.here | refine Has.there ?_)), KN.at_ (by repeat (first | exact Has.here | refine Has.there ?_))⟩
      refine wpAnyH_take (i := 0) (oi := ⟨some 5, _, _, _, _, _⟩) (v := (.agg #[.int .i64 a, .int .i64 j])) rfl (by kernel_rfl) (by kernel_rfl) (by kernel_rfl) (fun _ _ _ h => h) (kn_yieldsN (by rfl) 90 _ rfl g2 0 rfl _ 90 (fun _ h => h.1) #[.int .i64 a, .int .i64 j] rfl _ Tryz.underlying90 rfl (by kernel_rfl)) hHeld ?o3vr0
      (try simp only [Act.put, List.setIfInBounds_toArray, List.set_cons_zero, List.set_cons_succ])
      refine wpAnyH_ready (rs := [1]) (by kernel_rfl) (by simp) ?o3vc1
      refine AllReadyH.cons (o := ⟨some 6, _, _, _, _, _⟩) rfl (fun K hK => ?o3vst1) AllReadyH.nil
      go_simp
      (refine (RValid_any a j HA.out HJ.out _).mono ?_; rw [HD.out]; rintro e wx ⟨rfl, hb1⟩; replace KN := KN.below hb1)
      refine hK.out _ _ ?o3vk1 (fun hHeld2 => ?o3vm1)
      case o3vk1 => exact ⟨KN.at_ (by repeat (first | exact Has.here | refine Has.there ?_)), KN.at_ (by repeat (first | exact Has.here | refine Has.there ?_))⟩
      clear hK K hHeld
      have hHeld := hHeld2; clear hHeld2
      (try simp only [Act.put, List.setIfInBounds_toArray, List.set_cons_zero, List.set_cons_succ])
      refine wpAnyH_take (i := 2) (oi := ⟨some 7, _, _, _, _, _⟩) (v := ?o3vv2) rfl (by kernel_rfl) (by kernel_rfl) (by kernel_rfl) (fun _ _ _ h => h) (Or.inl ⟨by rfl, ?o3vhy2⟩) hHeld ?o3vr2
      case o3vhy2 => (intro w hSw; (try dsimp only at hSw); go_simp; (try with_reducible rfl))
      (try simp only [Act.put, List.setIfInBounds_toArray, List.set_cons_zero, List.set_cons_succ])
      refine wpAnyH_take (i := 3) (oi := ⟨some 8, _, _, _, _, _⟩) (v := (.agg #[.int .i64 b, .int .i64 k])) rfl (by kernel_rfl) (by kernel_rfl) (by kernel_rfl) (fun _ _ _ h => h) (kn_yieldsN (by rfl) 90 _ rfl g3 0 rfl _ 90 (fun _ h => h.2) #[.int .i64 b, .int .i64 k] rfl _ Tryz.underlying90 rfl (by kernel_rfl)) hHeld ?o3vr3
      (try simp only [Act.put, List.setIfInBounds_toArray, List.set_cons_zero, List.set_cons_succ])
      refine wpAnyH_ready (rs := [4]) (by kernel_rfl) (by simp) ?o3vc4
      refine AllReadyH.cons (o := ⟨some 9, _, _, _, _, _⟩) rfl (fun K hK => ?o3vst4) AllReadyH.nil
      go_simp
      (refine (RValid_any b k HB.out HK.out _).mono ?_; rw [HE.out]; rintro e wx ⟨rfl, hb1⟩; replace KN := KN.below hb1)
      refine hK.out _ _ ?o3vk4 (fun hHeld2 => ?o3vm4)
      case o3vk4 => exact ⟨KN.at_ (by repeat (first | exact Has.here | refine Has.there ?_)), KN.at_ (by repeat (first | exact Has.here | refine Has.there ?_))⟩
      clear hK K hHeld
      have hHeld := hHeld2; clear hHeld2
      (try simp only [Act.put, List.setIfInBounds_toArray, List.set_cons_zero, List.set_cons_succ])
      refine wpAnyH_take (i := 5) (oi := ⟨some 10, _, _, _, _, _⟩) (v := ?o3vv5) rfl (by kernel_rfl) (by kernel_rfl) (by kernel_rfl) (fun _ _ _ h => h) (Or.inl ⟨by rfl, ?o3vhy5⟩) hHeld ?o3vr5
      case o3vhy5 => (intro w hSw; (try dsimp only at hSw); go_simp; (try with_reducible rfl))
      (try simp only [Act.put, List.setIfInBounds_toArray, List.set_cons_zero, List.set_cons_succ])
      refine wpAnyH_take (i := 6) (oi := ⟨some 11, _, _, _, _, _⟩) (v := ?o3vv6) rfl (by kernel_rfl) (by kernel_rfl) (by kernel_rfl) (fun _ _ _ h => h) (Or.inl ⟨by rfl, ?o3vhy6⟩) hHeld ?o3vr6
      case o3vhy6 => (intro w hSw; (try dsimp only at hSw); go_simp; (try with_reducible rfl))
      (try simp only [Act.put, List.setIfInBounds_toArray, List.set_cons_zero, List.set_cons_succ])
      refine wpAnyH_take (i := 7) (oi := ⟨some 12, _, _, _, _, _⟩) (v := undef) rfl (by kernel_rfl) (by kernel_rfl) (by kernel_rfl) (fun _ _ _ h => h) (Or.inr ⟨by rfl, rfl⟩) hHeld ?o3vr7
      (try simp only [Act.put, List.setIfInBounds_toArray, List.set_cons_zero, List.set_cons_succ])
      refine wpAnyH_take (i := 8) (oi := ⟨some 13, _, _, _, _, _⟩) (v := undef) rfl (by kernel_rfl) (by kernel_rfl) (by kernel_rfl) (fun _ _ _ h => h) (Or.inr ⟨by rfl, rfl⟩) hHeld ?o3vr8
      (try simp only [Act.put, List.setIfInBounds_toArray, List.set_cons_zero, List.set_cons_succ])
      refine wpAnyH_take (i := 9) (oi := ⟨some 14, _, _, _, _, _⟩) (v := undef) rfl (by kernel_rfl) (by kernel_rfl) (by kernel_rfl) (fun _ _ _ h => h) (Or.inr ⟨by rfl, rfl⟩) hHeld ?o3vr9
      (try simp only [Act.put, List.setIfInBounds_toArray, List.set_cons_zero, List.set_cons_succ])
      refine wpAnyH_take (i := 10) (oi := ⟨some 15, _, _, _, _, _⟩) (v := undef) rfl (by kernel_rfl) (by kernel_rfl) (by kernel_rfl) (fun _ _ _ h => h) (Or.inr ⟨by rfl, rfl⟩) hHeld ?o3vr10
      (try simp only [Act.put, List.setIfInBounds_toArray, List.set_cons_zero, List.set_cons_succ])
      refine wpAnyH_take (i := 11) (oi := ⟨some 16, _, _, _, _, _⟩) (v := undef) rfl (by kernel_rfl) (by kernel_rfl) (by kernel_rfl) (fun _ _ _ h => h) (Or.inr ⟨by rfl, rfl⟩) hHeld ?o3vr11
      (try simp only [Act.put, List.setIfInBounds_toArray, List.set_cons_zero, List.set_cons_succ])
      refine wpAnyH_take (i := 12) (oi := ⟨some 17, _, _, _, _, _⟩) (v := ?o3vv12) rfl (by kernel_rfl) (by kernel_rfl) (by kernel_rfl) (fun _ _ _ h => h) (Or.inl ⟨by rfl, ?o3vhy12⟩) hHeld ?o3vr12
      case o3vhy12 => (intro w hSw; (try dsimp only at hSw); go_simp; (try with_reducible rfl))
      (try simp only [Act.put, List.setIfInBounds_toArray, List.set_cons_zero, List.set_cons_succ])
      refine wpAnyH_take (i := 13) (oi := ⟨some 18, _, _, _, _, _⟩) (v := ?o3vv13) rfl (by kernel_rfl) (by kernel_rfl) (by kernel_rfl) (fun _ _ _ h => h) (Or.inl ⟨by rfl, ?o3vhy13⟩) hHeld ?o3vr13
      case o3vhy13 => (intro w hSw; (try dsimp only at hSw); go_simp; (try with_reducible rfl))
      (try simp only [Act.put, List.setIfInBounds_toArray, List.set_cons_zero, List.set_cons_succ])
      refine wpAnyH_take (i := 14) (oi := ⟨some 19, _, _, _, _, _⟩) (v := undef) rfl (by kernel_rfl) (by kernel_rfl) (by kernel_rfl) (fun _ _ _ h => h) (Or.inr ⟨by rfl, rfl⟩) hHeld ?o3vr14
      (try simp only [Act.put, List.setIfInBounds_toArray, List.set_cons_zero, List.set_cons_succ])
      refine wpAnyH_take (i := 15) (oi := ⟨some 20, _, _, _, _, _⟩) (v := undef) rfl (by kernel_rfl) (by kernel_rfl) (by kernel_rfl) (fun _ _ _ h => h) (Or.inr ⟨by rfl, rfl⟩) hHeld ?o3vr15
      (try simp only [Act.put, List.setIfInBounds_toArray, List.set_cons_zero, List.set_cons_succ])
      refine wpAnyH_take (i := 16) (oi := ⟨some 21, _, _, _, _, _⟩) (v := undef) rfl (by kernel_rfl) (by kernel_rfl) (by kernel_rfl) (fun _ _ _ h => h) (Or.inr ⟨by rfl, rfl⟩) hHeld ?o3vr16
      (try simp only [Act.put, List.setIfInBounds_toArray, List.set_cons_zero, List.set_cons_succ])
      refine wpAnyH_take (i := 17) (oi := ⟨some 22, _, _, _, _, _⟩) (v := undef) rfl (by kernel_rfl) (by kernel_rfl) (by kernel_rfl) (fun _ _ _ h => h) (Or.inr ⟨by rfl, rfl⟩) hHeld ?o3vr17
      (try simp only [Act.put, List.setIfInBounds_toArray, List.set_cons_zero, List.set_cons_succ])
      refine wpAnyH_take (i := 18) (oi := ⟨some 23, _, _, _, _, _⟩) (v := undef) rfl (by kernel_rfl) (by kernel_rfl) (by kernel_rfl) (fun _ _ _ h => h) (Or.inr ⟨by rfl, rfl⟩) hHeld ?o3vr18
      (try simp only [Act.put, List.setIfInBounds_toArray, List.set_cons_zero, List.set_cons_succ])
      refine wpAnyH_take (i := 19) (oi := ⟨some 24, _, _, _, _, _⟩) (v := ?o3vv19) rfl (by kernel_rfl) (by kernel_rfl) (by kernel_rfl) (fun _ _ _ h => h) (Or.inl ⟨by rfl, ?o3vhy19⟩) hHeld ?o3vr19
      case o3vhy19 => (intro w hSw; (try dsimp only at hSw); go_simp; (try with_reducible rfl))
      (try simp only [Act.put, List.setIfInBounds_toArray, List.set_cons_zero, List.set_cons_succ])
      refine wpAnyH_take (i := 20) (oi := ⟨some 4, _, _, _, _, _⟩) (v := ?o3vv20) rfl (by kernel_rfl) (by kernel_rfl) (by kernel_rfl) (fun _ _ _ h => h) (Or.inl ⟨by rfl, ?o3vhy20⟩) hHeld ?o3vr20
      case o3vhy20 => (intro w hSw; (try dsimp only at hSw); go_simp; (try with_reducible rfl))
      (try simp only [Act.put, List.setIfInBounds_toArray, List.set_cons_zero, List.set_cons_succ])
      refine wpAnyH_done (by kernel_rfl) ?o3vdone _
      go_wp2_with fail
      go_ret
      exact ⟨by rw [HF.out]; rfl, KN.toBelow⟩
  · have HD := Lib.hid (decide_eq_false h1)
    have HF : Hid (decide (ovlB a j b k) = false) := Lib.hid (decide_eq_false fun q => h1 q.1)
    clear hea heb h1
    go_enter Tryz.func152, Tryz.ntmps152
    go_upto_region 1 with (first | ((with_reducible refine wpList_gate ?_); first | ((with_reducible refine gate_load ?_ ?_); rfl; first | (refine ks_loadW KN 90 Tryz.underlying90 ?_) | (refine ks_load1 KN 3 Tryz.underlying3 ?_)) | ((with_reducible refine gate_new ?_ ?_); rfl; first | (refine ks_boxA KN 90 (q := 2) ?_; clear KN; intro g2 wx hg2 KN) | (refine ks_boxA KN 90 (q := 3) ?_; clear KN; intro g3 wx hg3 KN))))
    (try go_frame)
    replace KN := KN.drew
    refine wp_region_held_drew (S := (fun w' => BlkT w' g2 #[.int .i64 a, .int .i64 j] 90 ∧ BlkT w' g3 #[.int .i64 b, .int .i64 k] 90)) (by kernel_rfl) ?o4vhS (fun hHeld => ?o4vrest)
    case o4vhS => exact ⟨KN.at_ (by repeat (first | exact Has.here | refine Has.there ?_)), KN.at_ (by repeat (first | exact Has.here | refine Has.there ?_))⟩
    refine wpAnyH_take (i := 0) (oi := ⟨some 5, _, _, _, _, _⟩) (v := (.agg #[.int .i64 a, .int .i64 j])) rfl (by kernel_rfl) (by kernel_rfl) (by kernel_rfl) (fun _ _ _ h => h) (kn_yieldsN (by rfl) 90 _ rfl g2 0 rfl _ 90 (fun _ h => h.1) #[.int .i64 a, .int .i64 j] rfl _ Tryz.underlying90 rfl (by kernel_rfl)) hHeld ?o4vr0
    (try simp only [Act.put, List.setIfInBounds_toArray, List.set_cons_zero, List.set_cons_succ])
    refine wpAnyH_ready (rs := [1]) (by kernel_rfl) (by simp) ?o4vc1
    refine AllReadyH.cons (o := ⟨some 6, _, _, _, _, _⟩) rfl (fun K hK => ?o4vst1) AllReadyH.nil
    go_simp
    (refine (RValid_any a j HA.out HJ.out _).mono ?_; rw [HD.out]; rintro e wx ⟨rfl, hb1⟩; replace KN := KN.below hb1)
    refine hK.out _ _ ?o4vk1 (fun hHeld2 => ?o4vm1)
    case o4vk1 => exact ⟨KN.at_ (by repeat (first | exact Has.here | refine Has.there ?_)), KN.at_ (by repeat (first | exact Has.here | refine Has.there ?_))⟩
    clear hK K hHeld
    have hHeld := hHeld2; clear hHeld2
    (try simp only [Act.put, List.setIfInBounds_toArray, List.set_cons_zero, List.set_cons_succ])
    refine wpAnyH_take (i := 2) (oi := ⟨some 7, _, _, _, _, _⟩) (v := ?o4vv2) rfl (by kernel_rfl) (by kernel_rfl) (by kernel_rfl) (fun _ _ _ h => h) (Or.inl ⟨by rfl, ?o4vhy2⟩) hHeld ?o4vr2
    case o4vhy2 => (intro w hSw; (try dsimp only at hSw); go_simp; (try with_reducible rfl))
    (try simp only [Act.put, List.setIfInBounds_toArray, List.set_cons_zero, List.set_cons_succ])
    refine wpAnyH_take (i := 3) (oi := ⟨some 8, _, _, _, _, _⟩) (v := undef) rfl (by kernel_rfl) (by kernel_rfl) (by kernel_rfl) (fun _ _ _ h => h) (Or.inr ⟨by rfl, rfl⟩) hHeld ?o4vr3
    (try simp only [Act.put, List.setIfInBounds_toArray, List.set_cons_zero, List.set_cons_succ])
    refine wpAnyH_take (i := 4) (oi := ⟨some 9, _, _, _, _, _⟩) (v := undef) rfl (by kernel_rfl) (by kernel_rfl) (by kernel_rfl) (fun _ _ _ h => h) (Or.inr ⟨by rfl, rfl⟩) hHeld ?o4vr4
    (try simp only [Act.put, List.setIfInBounds_toArray, List.set_cons_zero, List.set_cons_succ])
    refine wpAnyH_take (i := 5) (oi := ⟨some 10, _, _, _, _, _⟩) (v := ?o4vv5) rfl (by kernel_rfl) (by kernel_rfl) (by kernel_rfl) (fun _ _ _ h => h) (Or.inl ⟨by rfl, ?o4vhy5⟩) hHeld ?o4vr5
    case o4vhy5 => (intro w hSw; (try dsimp only at hSw); go_simp; (try with_reducible rfl))
    (try simp only [Act.put, List.setIfInBounds_toArray, List.set_cons_zero, List.set_cons_succ])
    refine wpAnyH_take (i := 6) (oi := ⟨some 11, _, _, _, _, _⟩) (v := ?o4vv6) rfl (by kernel_rfl) (by kernel_rfl) (by kernel_rfl) (fun _ _ _ h => h) (Or.inl ⟨by rfl, ?o4vhy6⟩) hHeld ?o4vr6
    case o4vhy6 => (intro w hSw; (try dsimp only at hSw); go_simp; (try with_reducible rfl))
    (try simp only [Act.put, List.setIfInBounds_toArray, List.set_cons_zero, List.set_cons_succ])
    refine wpAnyH_take (i := 7) (oi := ⟨some 12, _, _, _, _, _⟩) (v := undef) rfl (by kernel_rfl) (by kernel_rfl) (by kernel_rfl) (fun _ _ _ h => h) (Or.inr ⟨by rfl, rfl⟩) hHeld ?o4vr7
    (try simp only [Act.put, List.setIfInBounds_toArray, List.set_cons_zero, List.set_cons_succ])
    refine wpAnyH_take (i := 8) (oi := ⟨some 13, _, _, _, _, _⟩) (v := undef) rfl (by kernel_rfl) (by kernel_rfl) (by kernel_rfl) (fun _ _ _ h => h) (Or.inr ⟨by rfl, rfl⟩) hHeld ?o4vr8
    (try simp only [Act.put, List.setIfInBounds_toArray, List.set_cons_zero, List.set_cons_succ])
    refine wpAnyH_take (i := 9) (oi := ⟨some 14, _, _, _, _, _⟩) (v := undef) rfl (by kernel_rfl) (by kernel_rfl) (by kernel_rfl) (fun _ _ _ h => h) (Or.inr ⟨by rfl, rfl⟩) hHeld ?o4vr9
    (try simp only [Act.put, List.setIfInBounds_toArray, List.set_cons_zero, List.set_cons_succ])
    refine wpAnyH_take (i := 10) (oi := ⟨some 15, _, _, _, _, _⟩) (v := undef) rfl (by kernel_rfl) (by kernel_rfl) (by kernel_rfl) (fun _ _ _ h => h) (Or.inr ⟨by rfl, rfl⟩) hHeld ?o4vr10
    (try simp only [Act.put, List.setIfInBounds_toArray, List.set_cons_zero, List.set_cons_succ])
    refine wpAnyH_take (i := 11) (oi := ⟨some 16, _, _, _, _, _⟩) (v := undef) rfl (by kernel_rfl) (by kernel_rfl) (by kernel_rfl) (fun _ _ _ h => h) (Or.inr ⟨by rfl, rfl⟩) hHeld ?o4vr11
    (try simp only [Act.put, List.setIfInBounds_toArray, List.set_cons_zero, List.set_cons_succ])
    refine wpAnyH_take (i := 12) (oi := ⟨some 17, _, _, _, _, _⟩) (v := ?o4vv12) rfl (by kernel_rfl) (by kernel_rfl) (by kernel_rfl) (fun _ _ _ h => h) (Or.inl ⟨by rfl, ?o4vhy12⟩) hHeld ?o4vr12
    case o4vhy12 => (intro w hSw; (try dsimp only at hSw); go_simp; (try with_reducible rfl))
    (try simp only [Act.put, List.setIfInBounds_toArray, List.set_cons_zero, List.set_cons_succ])
    refine wpAnyH_take (i := 13) (oi := ⟨some 18, _, _, _, _, _⟩) (v := ?o4vv13) rfl (by kernel_rfl) (by kernel_rfl) (by kernel_rfl) (fun _ _ _ h => h) (Or.inl ⟨by rfl, ?o4vhy13⟩) hHeld ?o4vr13
    case o4vhy13 => (intro w hSw; (try dsimp only at hSw); go_simp; (try with_reducible rfl))
    (try simp only [Act.put, List.setIfInBounds_toArray, List.set_cons_zero, List.set_cons_succ])
    refine wpAnyH_take (i := 14) (oi := ⟨some 19, _, _, _, _, _⟩) (v := undef) rfl (by kernel_rfl) (by kernel_rfl) (by kernel_rfl) (fun _ _ _ h => h) (Or.inr ⟨by rfl, rfl⟩) hHeld ?o4vr14
    (try simp only [Act.put, List.setIfInBounds_toArray, List.set_cons_zero, List.set_cons_succ])
    refine wpAnyH_take (i := 15) (oi := ⟨some 20, _, _, _, _, _⟩) (v := undef) rfl (by kernel_rfl) (by kernel_rfl) (by kernel_rfl) (fun _ _ _ h => h) (Or.inr ⟨by rfl, rfl⟩) hHeld ?o4vr15
    (try simp only [Act.put, List.setIfInBounds_toArray, List.set_cons_zero, List.set_cons_succ])
    refine wpAnyH_take (i := 16) (oi := ⟨some 21, _, _, _, _, _⟩) (v := undef) rfl (by kernel_rfl) (by kernel_rfl) (by kernel_rfl) (fun _ _ _ h => h) (Or.inr ⟨by rfl, rfl⟩) hHeld ?o4vr16
    (try simp only [Act.put, List.setIfInBounds_toArray, List.set_cons_zero, List.set_cons_succ])
    refine wpAnyH_take (i := 17) (oi := ⟨some 22, _, _, _, _, _⟩) (v := undef) rfl (by kernel_rfl) (by kernel_rfl) (by kernel_rfl) (fun _ _ _ h => h) (Or.inr ⟨by rfl, rfl⟩) hHeld ?o4vr17
    (try simp only [Act.put, List.setIfInBounds_toArray, List.set_cons_zero, List.set_cons_succ])
    refine wpAnyH_take (i := 18) (oi := ⟨some 23, _, _, _, _, _⟩) (v := undef) rfl (by kernel_rfl) (by kernel_rfl) (by kernel_rfl) (fun _ _ _ h => h) (Or.inr ⟨by rfl, rfl⟩) hHeld ?o4vr18
    (try simp only [Act.put, List.setIfInBounds_toArray, List.set_cons_zero, List.set_cons_succ])
    refine wpAnyH_take (i := 19) (oi := ⟨some 24, _, _, _, _, _⟩) (v := ?o4vv19) rfl (by kernel_rfl) (by kernel_rfl) (by kernel_rfl) (fun _ _ _ h => h) (Or.inl ⟨by rfl, ?o4vhy19⟩) hHeld ?o4vr19
    case o4vhy19 => (intro w hSw; (try dsimp only at hSw); go_simp; (try with_reducible rfl))
    (try simp only [Act.put, List.setIfInBounds_toArray, List.set_cons_zero, List.set_cons_succ])
    refine wpAnyH_take (i := 20) (oi := ⟨some 4, _, _, _, _, _⟩) (v := ?o4vv20) rfl (by kernel_rfl) (by kernel_rfl) (by kernel_rfl) (fun _ _ _ h => h) (Or.inl ⟨by rfl, ?o4vhy20⟩) hHeld ?o4vr20
    case o4vhy20 => (intro w hSw; (try dsimp only at hSw); go_simp; (try with_reducible rfl))
    (try simp only [Act.put, List.setIfInBounds_toArray, List.set_cons_zero, List.set_cons_succ])
    refine wpAnyH_done (by kernel_rfl) ?o4vdone _
    go_wp2_with fail
    go_ret
    exact ⟨by rw [HF.out]; rfl, KN.toBelow⟩
end
end Go.Proofs.YtbgdjcoliiinjaaGreat
