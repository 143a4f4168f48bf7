/- IsaSpoilt. -/
import Derived.Test.YtemigcdieghkfaaDoorPkAwakeI
import Derived.Test.YtemigcdieghkfaaDoorPkProgG
import Derived.Test.YtemigcdieghkfaaDoorPkKnAll
set_option linter.unusedVariables false
set_option linter.unusedSimpArgs false
set_option linter.unusedSectionVars false
namespace Go.Proofs.YtemigcdieghkfaaDoor
open Go.RowKit Go.BigFrame

theorem firstErr_all {n : Int} : ∀ {p : List Ins}, firstErr n p = 0 → ∀ x ∈ p, insErr x n = 0
  | [], _, x, hx => by cases hx
  | y :: p, h, x, hx => by
    rw [firstErr] at h
    by_cases hy : insErr y n = 0
    · rw [if_pos hy] at h
      rcases List.mem_cons.1 hx with rfl | hx
      · exact hy
      · exact firstErr_all h x hx
    · rw [if_neg hy] at h; exact absurd h hy
theorem progErr_all {p : List Ins} (h : progErr p = 0) : ∀ x ∈ p, insErr x p.length = 0 := by
  unfold progErr at h
  split at h
  · cases h
  · exact firstErr_all h
theorem progErr_set {p : List Ins} {k : Nat} {y : Ins} (h : progErr p = 0) (hk : k < p.length) (hy : ¬ insErr y p.length = 0) : progErr (p.set k y) = insErr y p.length := by
  have hl := progErr_len h
  rw [progErr_ok (by rw [List.length_set]; omega), List.length_set]
  refine firstErr_at (k := k) (x := y) (fun z hz => ?_) (by rw [List.getElem?_set_self hk]) hy
  rw [List.take_set_of_le (Nat.le_refl k)] at hz
  exact progErr_all h z (List.mem_of_mem_take hz)
theorem spoilt_0 (x : Ins) (v n : Int) (h : 0 ≤ v) : insErr { x with op := 28 + v } n = 70 := by
  unfold insErr; rw [if_pos]; show 28 + v < 0 ∨ 27 < 28 + v; omega
theorem spoilt_1 (x : Ins) (v n : Int) (h : 0 ≤ v) : insErr { x with op := -1 - v } n = 70 := by
  unfold insErr; rw [if_pos]; show -1 - v < 0 ∨ 27 < -1 - v; omega
theorem spoilt_2 (x : Ins) (v n : Int) (h : 0 ≤ v) (hx : insErr x n = 0) : insErr { x with a := 16 + v } n = 70 := by
  refine insErr_regs (k := 0) (fun ho => ?_) (by decide) (regOk_no (.inr ?_))
  · unfold insErr at hx; rw [if_pos ho] at hx; cases hx
  · show 16 ≤ 16 + v; omega
theorem spoilt_3 (v n : Int) (h : 0 ≤ v) : insErr ⟨0, 0, 0, 1 + v, 0⟩ n = 70 := by
  refine insErr_regs (k := 2) (fun ho => ?_) (by decide) ?_
  · have : (0 : Int) < 0 ∨ 27 < (0 : Int) := ho; omega
  · show regOk (1 + v) (uses 0 99) = false
    rw [show uses 0 99 = false from by decide]
    unfold regOk
    rw [Bool.false_and, Bool.or_false, beq_eq_false_iff_ne]; omega
theorem spoilt_4 (v n : Int) (h : n ≤ v) (hn : 0 ≤ n) : insErr ⟨18, 0, 0, 0, v⟩ n = 71 := by
  unfold insErr
  rw [if_neg (by show ¬ ((18 : Int) < 0 ∨ 27 < (18 : Int)); omega)]
  dsimp only
  rw [show uses 18 116 = true from by decide, show uses 18 97 = false from by decide, show uses 18 98 = false from by decide, show uses 18 99 = false from by decide]
  rw [if_neg (by simp [regOk]), if_pos ⟨rfl, .inr h⟩]
set_option maxRecDepth 100000 in
set_option maxHeartbeats 4000000 in
theorem Disassemble_bad (va : Value) (p : List Ins) (w : World) (h : Instrs w va p) (he : ¬ progErr p = 0) :
    Calls Tryd.prog 15 #[va] w fun e w' => e = .returned (.string ByteArray.empty) ∧ Below w.heap.size w w' := by
  have hb0 : (progErr p != 0) = true := by rw [bne_iff_ne]; exact he
  have H := Lib.hid h
  clear h he
  go_enter Tryd.func15, Tryd.ntmps15
  go_wp2_with (go_at_call 14; refine (Validate_any _ p _ H.out).mono ?_; rintro e wx ⟨rfl, hb⟩)
  go_ret
  exact ⟨rfl, hb⟩
theorem Encode_bad (va : Value) (p : List Ins) (w : World) (h : Instrs w va p) (he : ¬ progErr p = 0) :
    Calls Tryd.prog 13 #[va] w fun e w' => (∃ a c, e = .returned (.tuple #[.slice a 0 c, .int .i64 (progErr p)])) ∧ Below w.heap.size w w' := by
  refine (Encode_any va p w h).mono ?_
  rintro e w' ⟨v, ol, rfl, HV, KN⟩
  unfold encR at HV
  rw [if_neg he] at HV
  obtain ⟨a, c, rfl⟩ := HV.form
  exact ⟨⟨a, c, rfl⟩, KN.toBelow⟩
theorem Instrs.of_kn' {M : List Nat} {W w : World} {l : Ents} (KN : Kn M W w l) {g cap n : Nat} {p : List Ins} (m : Has l g (CapAt 35 5 cap (p.map fun x => x.cells.toList))) (h : p.length = n) (h1 : p.length ≤ cap) (h2 : cap ≤ maxLen) (hf : ∀ x ∈ p, x.fits) : Instrs w (.slice (some ⟨g, 0, none⟩) n cap) p := by
  subst h
  have := OwnT.blk (e := 35) (sz := 5) (g := g) (cap := cap) (L := p.map fun x => x.cells.toList) (by rw [List.length_map]; exact h1) h2 (insLen _)
  rw [List.length_map] at this
  exact Instrs.ofT (f := fun o => o) this (KN.onlyK m) .id hf
set_option maxRecDepth 100000 in
set_option maxHeartbeats 40000000 in
theorem spoilt_near (va : Value) (zs : List Int) (b c d : Int) (w : World) (hz : Ints w va zs) (hzl : zs.length ≤ 200) (b0 : -9223372036854775808 ≤ b) (b1 : b ≤ 9223372036854775807) (c0 : -9223372036854775808 ≤ c) (c1 : c ≤ 9223372036854775807) (d0 : -9223372036854775808 ≤ d) (d1 : d ≤ 9223372036854775807) :
    Calls Tryd.prog 4 #[va, .int .i64 b, .int .i64 c, .int .i64 d] w fun e w' => e = .returned (.bool true) ∧ Below w.heap.size w w' := by
  have KN := Kn.start w
  obtain ⟨za, zc, rfl, hzm⟩ := hz.form
  have HZ := Lib.hid hz
  obtain ⟨v, hv⟩ : ∃ v, v = d % 1000 := ⟨_, rfl⟩
  obtain ⟨m, hm⟩ : ∃ m, m = c % 5 := ⟨_, rfl⟩
  have v0 : 0 ≤ v := by omega
  have v1 : v < 1000 := by omega
  have m0 : m = 0 ∨ m = 1 ∨ m = 2 ∨ m = 3 ∨ m = 4 := by omega
  obtain ⟨zn, hzn⟩ : ∃ zn, zn = zs.length := ⟨_, rfl⟩
  rw [← hzn] at hzl ⊢
  have HZN := Lib.hid hzn
  have HV := Lib.hid hv
  have HM := Lib.hid hm
  clear hz hv hm hzn hzm
  go_enter Tryd.func4, Tryd.ntmps4
  go_upto_region 4 with (first | (go_at_call 11; refine (Program_any _ zs _ (by rw [HZN.out]; exact HZ.out)).mono ?_; rintro e wx ⟨g, cap, p, rfl, h1, h2, h3, h4, h5, h6, K2⟩; replace KN := KN.call0 K2; clear K2; simp only [List.append_nil] at KN) | ((with_reducible refine wpList_gate ?_); first | ((refine gate_store (by rfl) ?_); first | (refine wpList_kn_store1 KN (by rfl) 3 _ _ rfl _ _ rfl _ (by conv => lhs; whnf) (by rfl) _ _ (by repeat (first | exact Repl.here | apply Repl.there)) (by (try simp only [Array.size_setIfInBounds, putL_size]); first | exact Nat.le_of_ble_eq_true rfl | (simp; omega)) (by kernel_rfl) (by rfl) ?_; clear KN; intro wx KN) | (refine wpList_kn_storeW KN (by rfl) 35 _ _ rfl _ rfl _ rfl _ _ (by repeat (first | exact Repl.here | apply Repl.there)) (by kernel_rfl) (by kernel_rfl) (by kernel_rfl) ?_; clear KN; intro wx KN) | (refine wpList_kn_storeA KN (by rfl) 35 _ _ rfl _ _ rfl _ rfl _ _ (by repeat (first | exact Repl.here | apply Repl.there)) (by (try simp only [Array.size_setIfInBounds, putL_size]); first | exact Nat.le_of_ble_eq_true rfl | (simp; omega)) (by kernel_rfl) (by kernel_rfl) ?_; clear KN; intro wx KN))))
  obtain ⟨n, hn⟩ : ∃ n, n = p.length := ⟨_, rfl⟩
  rw [← hn] at h1 h3 h4 ⊢
  obtain ⟨k, hk⟩ := Int.eq_ofNat_of_zero_le (show 0 ≤ b % (n : Int) by exact Int.emod_nonneg _ (by omega))
  have hkn : k < n := by have := Int.emod_lt_of_pos b (show (0 : Int) < n by omega); omega
  obtain ⟨x, hx⟩ : ∃ x, p[k]? = some x := ⟨_, List.getElem?_eq_getElem (by omega)⟩
  have HK := Lib.hid hk
  have HX := Lib.hid hx
  have HN := Lib.hid hn
  have H5 := Lib.hid h5
  have H6 := Lib.hid h6
  clear hk hx hn h5 h6
  go_upto_region 10 with (first | (go_at_call 12; refine (Place_any _ _ _ (by omega) (by omega) (by omega) (by omega)).mono ?_; rintro e w' ⟨rfl, rfl⟩; first | rw [HK.out] | rw [← HV.out] | rw [← HM.out]) | ((with_reducible refine wpList_gate ?_); first | ((refine gate_store (by rfl) ?_); first | (refine wpList_kn_store1 KN (by rfl) 3 _ _ rfl _ _ rfl _ (by conv => lhs; whnf) (by rfl) _ _ (by repeat (first | exact Repl.here | apply Repl.there)) (by (try simp only [Array.size_setIfInBounds, putL_size]); first | exact Nat.le_of_ble_eq_true rfl | (simp; omega)) (by kernel_rfl) (by rfl) ?_; clear KN; intro wx KN) | (refine wpList_kn_storeW KN (by rfl) 35 _ _ rfl _ rfl _ rfl _ _ (by repeat (first | exact Repl.here | apply Repl.there)) (by kernel_rfl) (by kernel_rfl) (by kernel_rfl) ?_; clear KN; intro wx KN) | (refine wpList_kn_storeA KN (by rfl) 35 _ _ rfl _ _ rfl _ rfl _ _ (by repeat (first | exact Repl.here | apply Repl.there)) (by (try simp only [Array.size_setIfInBounds, putL_size]); first | exact Nat.le_of_ble_eq_true rfl | (simp; omega)) (by kernel_rfl) (by kernel_rfl) ?_; clear KN; intro wx KN))))
  have hxo := progErr_all H5.out x (List.mem_of_getElem? HX.out)
  have hxf := H6.out x (List.mem_of_getElem? HX.out)
  rw [← HN.out] at hxo
  have HXO := Lib.hid hxo
  have HXF := Lib.hid hxf
  have HC : Hid ((p.map fun x => x.cells.toList)[k]? = some x.cells.toList) := Lib.hid (by rw [List.getElem?_map, HX.out]; rfl)
  have HPL : Hid ((p.map fun x => x.cells.toList).length = n) := Lib.hid (by rw [List.length_map, ← HN.out])
  have HI := Lib.hid hxf.2
  clear hxo hxf
  rcases m0 with rfl | rfl | rfl | rfl | rfl
  · have HE : Hid (progErr (p.set k ({ x with op := 28 + v })) = 70) := Lib.hid (by rw [progErr_set H5.out (by rw [← HN.out]; exact hkn) (by rw [← HN.out, spoilt_0 x v n v0]; decide), ← HN.out]; exact spoilt_0 x v n v0)
    have HF : Hid (∀ z ∈ p.set k ({ x with op := 28 + v }), z.fits) := Lib.hid (fun z hz => by
      rcases List.mem_or_eq_of_mem_set hz with h | rfl
      · exact H6.out z h
      · refine ⟨HXF.out.1, ?_⟩; first | exact HXF.out.2 | (dsimp only; omega))
    go_upto_region 18 with (first | ((with_reducible refine wpList_gate ?_); first | (refine wpList_kn_elemC KN (by rfl) 3 (.tmp 45) (.tmp 43) rfl g (k*5) rfl (.int .i64 (28 + v)) rfl rfl k 0 x.cells.toList HC.out (by omega) (by repeat (first | exact Repl.here | apply Repl.there)) (insLen p) (by rw [HPL.out]; exact h1) (by decide) (by kernel_rfl) rfl ?_; clear KN; intro wx KN) | ((refine gate_store (by rfl) ?_); first | (refine wpList_kn_store1 KN (by rfl) 3 _ _ rfl _ _ rfl _ (by conv => lhs; whnf) (by rfl) _ _ (by repeat (first | exact Repl.here | apply Repl.there)) (by (try simp only [Array.size_setIfInBounds, putL_size]); first | exact Nat.le_of_ble_eq_true rfl | (simp; omega)) (by kernel_rfl) (by rfl) ?_; clear KN; intro wx KN) | (refine wpList_kn_storeW KN (by rfl) 35 _ _ rfl _ rfl _ rfl _ _ (by repeat (first | exact Repl.here | apply Repl.there)) (by kernel_rfl) (by kernel_rfl) (by kernel_rfl) ?_; clear KN; intro wx KN) | (refine wpList_kn_storeA KN (by rfl) 35 _ _ rfl _ _ rfl _ rfl _ _ (by repeat (first | exact Repl.here | apply Repl.there)) (by (try simp only [Array.size_setIfInBounds, putL_size]); first | exact Nat.le_of_ble_eq_true rfl | (simp; omega)) (by kernel_rfl) (by kernel_rfl) ?_; clear KN; intro wx KN))))
    replace KN : Kn [] w wx [(g, CapAt 35 5 cap ((p.set k ({ x with op := 28 + v })).map fun x => x.cells.toList))] := by rw [List.map_set]; exact KN
    go_wp2_with (first | (go_at_call 13; refine (Encode_bad _ _ _ (by rw [HN.out]; exact Instrs.of_kn' KN (by repeat (first | exact Has.here | refine Has.there ?_)) (by rw [List.length_set]) (by rw [List.length_set, ← HN.out]; exact h1) h2 HF.out) (by rw [HE.out]; decide)).mono ?_; rw [HE.out]; rintro e wx ⟨⟨ba, bc, rfl⟩, hb⟩; replace KN := KN.below hb; clear hb) | (go_at_call 14; refine (Validate_any _ _ _ (by rw [HN.out]; exact Instrs.of_kn' KN (by repeat (first | exact Has.here | refine Has.there ?_)) (by rw [List.length_set]) (by rw [List.length_set, ← HN.out]; exact h1) h2 HF.out)).mono ?_; rw [HE.out]; rintro e wx ⟨rfl, hb⟩; replace KN := KN.below hb; clear hb) | (go_at_call 15; refine (Disassemble_bad _ _ _ (by rw [HN.out]; exact Instrs.of_kn' KN (by repeat (first | exact Has.here | refine Has.there ?_)) (by rw [List.length_set]) (by rw [List.length_set, ← HN.out]; exact h1) h2 HF.out) (by rw [HE.out]; decide)).mono ?_; rintro e wx ⟨rfl, hb⟩; replace KN := KN.below hb; clear hb) | (go_at_call 7; refine (awake_any _).mono ?_; rintro e wx ⟨rfl, hb⟩; replace KN := KN.below hb; clear hb) | ((with_reducible refine wpList_gate ?_); first | ((refine gate_store (by rfl) ?_); first | (refine wpList_kn_store1 KN (by rfl) 3 _ _ rfl _ _ rfl _ (by conv => lhs; whnf) (by rfl) _ _ (by repeat (first | exact Repl.here | apply Repl.there)) (by (try simp only [Array.size_setIfInBounds, putL_size]); first | exact Nat.le_of_ble_eq_true rfl | (simp; omega)) (by kernel_rfl) (by rfl) ?_; clear KN; intro wx KN) | (refine wpList_kn_storeW KN (by rfl) 35 _ _ rfl _ rfl _ rfl _ _ (by repeat (first | exact Repl.here | apply Repl.there)) (by kernel_rfl) (by kernel_rfl) (by kernel_rfl) ?_; clear KN; intro wx KN) | (refine wpList_kn_storeA KN (by rfl) 35 _ _ rfl _ _ rfl _ rfl _ _ (by repeat (first | exact Repl.here | apply Repl.there)) (by (try simp only [Array.size_setIfInBounds, putL_size]); first | exact Nat.le_of_ble_eq_true rfl | (simp; omega)) (by kernel_rfl) (by kernel_rfl) ?_; clear KN; intro wx KN))))
    go_ret
    exact ⟨rfl, KN.toBelow⟩
  · have HE : Hid (progErr (p.set k ({ x with op := -1 - v })) = 70) := Lib.hid (by rw [progErr_set H5.out (by rw [← HN.out]; exact hkn) (by rw [← HN.out, spoilt_1 x v n v0]; decide), ← HN.out]; exact spoilt_1 x v n v0)
    have HF : Hid (∀ z ∈ p.set k ({ x with op := -1 - v }), z.fits) := Lib.hid (fun z hz => by
      rcases List.mem_or_eq_of_mem_set hz with h | rfl
      · exact H6.out z h
      · refine ⟨HXF.out.1, ?_⟩; first | exact HXF.out.2 | (dsimp only; omega))
    go_upto_region 18 with (first | ((with_reducible refine wpList_gate ?_); first | (refine wpList_kn_elemC KN (by rfl) 3 (.tmp 53) (.tmp 51) rfl g (k*5) rfl (.int .i64 (-1 - v)) rfl rfl k 0 x.cells.toList HC.out (by omega) (by repeat (first | exact Repl.here | apply Repl.there)) (insLen p) (by rw [HPL.out]; exact h1) (by decide) (by kernel_rfl) rfl ?_; clear KN; intro wx KN) | ((refine gate_store (by rfl) ?_); first | (refine wpList_kn_store1 KN (by rfl) 3 _ _ rfl _ _ rfl _ (by conv => lhs; whnf) (by rfl) _ _ (by repeat (first | exact Repl.here | apply Repl.there)) (by (try simp only [Array.size_setIfInBounds, putL_size]); first | exact Nat.le_of_ble_eq_true rfl | (simp; omega)) (by kernel_rfl) (by rfl) ?_; clear KN; intro wx KN) | (refine wpList_kn_storeW KN (by rfl) 35 _ _ rfl _ rfl _ rfl _ _ (by repeat (first | exact Repl.here | apply Repl.there)) (by kernel_rfl) (by kernel_rfl) (by kernel_rfl) ?_; clear KN; intro wx KN) | (refine wpList_kn_storeA KN (by rfl) 35 _ _ rfl _ _ rfl _ rfl _ _ (by repeat (first | exact Repl.here | apply Repl.there)) (by (try simp only [Array.size_setIfInBounds, putL_size]); first | exact Nat.le_of_ble_eq_true rfl | (simp; omega)) (by kernel_rfl) (by kernel_rfl) ?_; clear KN; intro wx KN))))
    replace KN : Kn [] w wx [(g, CapAt 35 5 cap ((p.set k ({ x with op := -1 - v })).map fun x => x.cells.toList))] := by rw [List.map_set]; exact KN
    go_wp2_with (first | (go_at_call 13; refine (Encode_bad _ _ _ (by rw [HN.out]; exact Instrs.of_kn' KN (by repeat (first | exact Has.here | refine Has.there ?_)) (by rw [List.length_set]) (by rw [List.length_set, ← HN.out]; exact h1) h2 HF.out) (by rw [HE.out]; decide)).mono ?_; rw [HE.out]; rintro e wx ⟨⟨ba, bc, rfl⟩, hb⟩; replace KN := KN.below hb; clear hb) | (go_at_call 14; refine (Validate_any _ _ _ (by rw [HN.out]; exact Instrs.of_kn' KN (by repeat (first | exact Has.here | refine Has.there ?_)) (by rw [List.length_set]) (by rw [List.length_set, ← HN.out]; exact h1) h2 HF.out)).mono ?_; rw [HE.out]; rintro e wx ⟨rfl, hb⟩; replace KN := KN.below hb; clear hb) | (go_at_call 15; refine (Disassemble_bad _ _ _ (by rw [HN.out]; exact Instrs.of_kn' KN (by repeat (first | exact Has.here | refine Has.there ?_)) (by rw [List.length_set]) (by rw [List.length_set, ← HN.out]; exact h1) h2 HF.out) (by rw [HE.out]; decide)).mono ?_; rintro e wx ⟨rfl, hb⟩; replace KN := KN.below hb; clear hb) | (go_at_call 7; refine (awake_any _).mono ?_; rintro e wx ⟨rfl, hb⟩; replace KN := KN.below hb; clear hb) | ((with_reducible refine wpList_gate ?_); first | ((refine gate_store (by rfl) ?_); first | (refine wpList_kn_store1 KN (by rfl) 3 _ _ rfl _ _ rfl _ (by conv => lhs; whnf) (by rfl) _ _ (by repeat (first | exact Repl.here | apply Repl.there)) (by (try simp only [Array.size_setIfInBounds, putL_size]); first | exact Nat.le_of_ble_eq_true rfl | (simp; omega)) (by kernel_rfl) (by rfl) ?_; clear KN; intro wx KN) | (refine wpList_kn_storeW KN (by rfl) 35 _ _ rfl _ rfl _ rfl _ _ (by repeat (first | exact Repl.here | apply Repl.there)) (by kernel_rfl) (by kernel_rfl) (by kernel_rfl) ?_; clear KN; intro wx KN) | (refine wpList_kn_storeA KN (by rfl) 35 _ _ rfl _ _ rfl _ rfl _ _ (by repeat (first | exact Repl.here | apply Repl.there)) (by (try simp only [Array.size_setIfInBounds, putL_size]); first | exact Nat.le_of_ble_eq_true rfl | (simp; omega)) (by kernel_rfl) (by kernel_rfl) ?_; clear KN; intro wx KN))))
    go_ret
    exact ⟨rfl, KN.toBelow⟩
  · have HE : Hid (progErr (p.set k ({ x with a := 16 + v })) = 70) := Lib.hid (by rw [progErr_set H5.out (by rw [← HN.out]; exact hkn) (by rw [← HN.out, spoilt_2 x v n v0 HXO.out]; decide), ← HN.out]; exact spoilt_2 x v n v0 HXO.out)
    have HF : Hid (∀ z ∈ p.set k ({ x with a := 16 + v }), z.fits) := Lib.hid (fun z hz => by
      rcases List.mem_or_eq_of_mem_set hz with h | rfl
      · exact H6.out z h
      · refine ⟨HXF.out.1, ?_⟩; first | exact HXF.out.2 | (dsimp only; omega))
    go_upto_region 18 with (first | ((with_reducible refine wpList_gate ?_); first | (refine wpList_kn_elemC KN (by rfl) 3 (.tmp 61) (.tmp 59) rfl g (k*5+1) rfl (.int .i64 (16 + v)) rfl rfl k 1 x.cells.toList HC.out (by omega) (by repeat (first | exact Repl.here | apply Repl.there)) (insLen p) (by rw [HPL.out]; exact h1) (by decide) (by kernel_rfl) rfl ?_; clear KN; intro wx KN) | ((refine gate_store (by rfl) ?_); first | (refine wpList_kn_store1 KN (by rfl) 3 _ _ rfl _ _ rfl _ (by conv => lhs; whnf) (by rfl) _ _ (by repeat (first | exact Repl.here | apply Repl.there)) (by (try simp only [Array.size_setIfInBounds, putL_size]); first | exact Nat.le_of_ble_eq_true rfl | (simp; omega)) (by kernel_rfl) (by rfl) ?_; clear KN; intro wx KN) | (refine wpList_kn_storeW KN (by rfl) 35 _ _ rfl _ rfl _ rfl _ _ (by repeat (first | exact Repl.here | apply Repl.there)) (by kernel_rfl) (by kernel_rfl) (by kernel_rfl) ?_; clear KN; intro wx KN) | (refine wpList_kn_storeA KN (by rfl) 35 _ _ rfl _ _ rfl _ rfl _ _ (by repeat (first | exact Repl.here | apply Repl.there)) (by (try simp only [Array.size_setIfInBounds, putL_size]); first | exact Nat.le_of_ble_eq_true rfl | (simp; omega)) (by kernel_rfl) (by kernel_rfl) ?_; clear KN; intro wx KN))))
    replace KN : Kn [] w wx [(g, CapAt 35 5 cap ((p.set k ({ x with a := 16 + v })).map fun x => x.cells.toList))] := by rw [List.map_set]; exact KN
    go_wp2_with (first | (go_at_call 13; refine (Encode_bad _ _ _ (by rw [HN.out]; exact Instrs.of_kn' KN (by repeat (first | exact Has.here | refine Has.there ?_)) (by rw [List.length_set]) (by rw [List.length_set, ← HN.out]; exact h1) h2 HF.out) (by rw [HE.out]; decide)).mono ?_; rw [HE.out]; rintro e wx ⟨⟨ba, bc, rfl⟩, hb⟩; replace KN := KN.below hb; clear hb) | (go_at_call 14; refine (Validate_any _ _ _ (by rw [HN.out]; exact Instrs.of_kn' KN (by repeat (first | exact Has.here | refine Has.there ?_)) (by rw [List.length_set]) (by rw [List.length_set, ← HN.out]; exact h1) h2 HF.out)).mono ?_; rw [HE.out]; rintro e wx ⟨rfl, hb⟩; replace KN := KN.below hb; clear hb) | (go_at_call 15; refine (Disassemble_bad _ _ _ (by rw [HN.out]; exact Instrs.of_kn' KN (by repeat (first | exact Has.here | refine Has.there ?_)) (by rw [List.length_set]) (by rw [List.length_set, ← HN.out]; exact h1) h2 HF.out) (by rw [HE.out]; decide)).mono ?_; rintro e wx ⟨rfl, hb⟩; replace KN := KN.below hb; clear hb) | (go_at_call 7; refine (awake_any _).mono ?_; rintro e wx ⟨rfl, hb⟩; replace KN := KN.below hb; clear hb) | ((with_reducible refine wpList_gate ?_); first | ((refine gate_store (by rfl) ?_); first | (refine wpList_kn_store1 KN (by rfl) 3 _ _ rfl _ _ rfl _ (by conv => lhs; whnf) (by rfl) _ _ (by repeat (first | exact Repl.here | apply Repl.there)) (by (try simp only [Array.size_setIfInBounds, putL_size]); first | exact Nat.le_of_ble_eq_true rfl | (simp; omega)) (by kernel_rfl) (by rfl) ?_; clear KN; intro wx KN) | (refine wpList_kn_storeW KN (by rfl) 35 _ _ rfl _ rfl _ rfl _ _ (by repeat (first | exact Repl.here | apply Repl.there)) (by kernel_rfl) (by kernel_rfl) (by kernel_rfl) ?_; clear KN; intro wx KN) | (refine wpList_kn_storeA KN (by rfl) 35 _ _ rfl _ _ rfl _ rfl _ _ (by repeat (first | exact Repl.here | apply Repl.there)) (by (try simp only [Array.size_setIfInBounds, putL_size]); first | exact Nat.le_of_ble_eq_true rfl | (simp; omega)) (by kernel_rfl) (by kernel_rfl) ?_; clear KN; intro wx KN))))
    go_ret
    exact ⟨rfl, KN.toBelow⟩
  · have hw32 : wrap32 ((n : Int) + v) = n + v := by unfold wrap32; omega
    have HW := Lib.hid hw32
    clear hw32
    have HE : Hid (progErr (p.set k (Ins.mk 0 0 0 (1 + v) 0)) = 70) := Lib.hid (by rw [progErr_set H5.out (by rw [← HN.out]; exact hkn) (by rw [← HN.out, spoilt_3 v n v0]; decide), ← HN.out]; exact spoilt_3 v n v0)
    have HF : Hid (∀ z ∈ p.set k (Ins.mk 0 0 0 (1 + v) 0), z.fits) := Lib.hid (fun z hz => by
      rcases List.mem_or_eq_of_mem_set hz with h | rfl
      · exact H6.out z h
      · unfold Ins.fits; dsimp only; omega)
    go_upto_region 18 with (first | ((with_reducible refine wpList_gate ?_); first | (refine wpList_kn_elemS KN (by rfl) 35 (.tmp 69) (.tmp 68) rfl g (k*5) rfl (.agg (Ins.mk 0 0 0 (1 + v) 0).cells) rfl k rfl (by repeat (first | exact Repl.here | apply Repl.there)) (insLen p) (by rw [HPL.out]; exact h1) (by rw [HPL.out]; exact hkn) rfl (by kernel_rfl) (by kernel_rfl) ?_; clear KN; intro wx KN) | ((refine gate_store (by rfl) ?_); first | (refine wpList_kn_store1 KN (by rfl) 3 _ _ rfl _ _ rfl _ (by conv => lhs; whnf) (by rfl) _ _ (by repeat (first | exact Repl.here | apply Repl.there)) (by (try simp only [Array.size_setIfInBounds, putL_size]); first | exact Nat.le_of_ble_eq_true rfl | (simp; omega)) (by kernel_rfl) (by rfl) ?_; clear KN; intro wx KN) | (refine wpList_kn_storeW KN (by rfl) 35 _ _ rfl _ rfl _ rfl _ _ (by repeat (first | exact Repl.here | apply Repl.there)) (by kernel_rfl) (by kernel_rfl) (by kernel_rfl) ?_; clear KN; intro wx KN) | (refine wpList_kn_storeA KN (by rfl) 35 _ _ rfl _ _ rfl _ rfl _ _ (by repeat (first | exact Repl.here | apply Repl.there)) (by (try simp only [Array.size_setIfInBounds, putL_size]); first | exact Nat.le_of_ble_eq_true rfl | (simp; omega)) (by kernel_rfl) (by kernel_rfl) ?_; clear KN; intro wx KN)) | ((refine gate_new (by rfl) ?_); first | (refine wpList_built rfl 35 _ rfl (Ins.mk 0 0 0 (1 + v) 0).cells (by kernel_rfl) ?_))))
    replace KN : Kn [] w wx [(g, CapAt 35 5 cap ((p.set k (Ins.mk 0 0 0 (1 + v) 0)).map fun x => x.cells.toList))] := by rw [List.map_set]; first | exact KN | (rw [HW.out] at KN; exact KN)
    go_wp2_with (first | (go_at_call 13; refine (Encode_bad _ _ _ (by rw [HN.out]; exact Instrs.of_kn' KN (by repeat (first | exact Has.here | refine Has.there ?_)) (by rw [List.length_set]) (by rw [List.length_set, ← HN.out]; exact h1) h2 HF.out) (by rw [HE.out]; decide)).mono ?_; rw [HE.out]; rintro e wx ⟨⟨ba, bc, rfl⟩, hb⟩; replace KN := KN.below hb; clear hb) | (go_at_call 14; refine (Validate_any _ _ _ (by rw [HN.out]; exact Instrs.of_kn' KN (by repeat (first | exact Has.here | refine Has.there ?_)) (by rw [List.length_set]) (by rw [List.length_set, ← HN.out]; exact h1) h2 HF.out)).mono ?_; rw [HE.out]; rintro e wx ⟨rfl, hb⟩; replace KN := KN.below hb; clear hb) | (go_at_call 15; refine (Disassemble_bad _ _ _ (by rw [HN.out]; exact Instrs.of_kn' KN (by repeat (first | exact Has.here | refine Has.there ?_)) (by rw [List.length_set]) (by rw [List.length_set, ← HN.out]; exact h1) h2 HF.out) (by rw [HE.out]; decide)).mono ?_; rintro e wx ⟨rfl, hb⟩; replace KN := KN.below hb; clear hb) | (go_at_call 7; refine (awake_any _).mono ?_; rintro e wx ⟨rfl, hb⟩; replace KN := KN.below hb; clear hb) | ((with_reducible refine wpList_gate ?_); first | ((refine gate_store (by rfl) ?_); first | (refine wpList_kn_store1 KN (by rfl) 3 _ _ rfl _ _ rfl _ (by conv => lhs; whnf) (by rfl) _ _ (by repeat (first | exact Repl.here | apply Repl.there)) (by (try simp only [Array.size_setIfInBounds, putL_size]); first | exact Nat.le_of_ble_eq_true rfl | (simp; omega)) (by kernel_rfl) (by rfl) ?_; clear KN; intro wx KN) | (refine wpList_kn_storeW KN (by rfl) 35 _ _ rfl _ rfl _ rfl _ _ (by repeat (first | exact Repl.here | apply Repl.there)) (by kernel_rfl) (by kernel_rfl) (by kernel_rfl) ?_; clear KN; intro wx KN) | (refine wpList_kn_storeA KN (by rfl) 35 _ _ rfl _ _ rfl _ rfl _ _ (by repeat (first | exact Repl.here | apply Repl.there)) (by (try simp only [Array.size_setIfInBounds, putL_size]); first | exact Nat.le_of_ble_eq_true rfl | (simp; omega)) (by kernel_rfl) (by kernel_rfl) ?_; clear KN; intro wx KN))))
    go_ret
    exact ⟨rfl, KN.toBelow⟩
  · have hw32 : wrap32 ((n : Int) + v) = n + v := by unfold wrap32; omega
    have HW := Lib.hid hw32
    clear hw32
    have HE : Hid (progErr (p.set k (Ins.mk 18 0 0 0 (n + v))) = 71) := Lib.hid (by rw [progErr_set H5.out (by rw [← HN.out]; exact hkn) (by rw [← HN.out, spoilt_4 (n + v) n (by omega) (by omega)]; decide), ← HN.out]; exact spoilt_4 (n + v) n (by omega) (by omega))
    have HF : Hid (∀ z ∈ p.set k (Ins.mk 18 0 0 0 (n + v)), z.fits) := Lib.hid (fun z hz => by
      rcases List.mem_or_eq_of_mem_set hz with h | rfl
      · exact H6.out z h
      · unfold Ins.fits; dsimp only; omega)
    go_upto_region 18 with (first | ((with_reducible refine wpList_gate ?_); first | (refine wpList_kn_elemS KN (by rfl) 35 (.tmp 37) (.tmp 36) rfl g (k*5) rfl (.agg (Ins.mk 18 0 0 0 (n + v)).cells) rfl k rfl (by repeat (first | exact Repl.here | apply Repl.there)) (insLen p) (by rw [HPL.out]; exact h1) (by rw [HPL.out]; exact hkn) rfl (by kernel_rfl) (by kernel_rfl) ?_; clear KN; intro wx KN) | ((refine gate_store (by rfl) ?_); first | (refine wpList_kn_store1 KN (by rfl) 3 _ _ rfl _ _ rfl _ (by conv => lhs; whnf) (by rfl) _ _ (by repeat (first | exact Repl.here | apply Repl.there)) (by (try simp only [Array.size_setIfInBounds, putL_size]); first | exact Nat.le_of_ble_eq_true rfl | (simp; omega)) (by kernel_rfl) (by rfl) ?_; clear KN; intro wx KN) | (refine wpList_kn_storeW KN (by rfl) 35 _ _ rfl _ rfl _ rfl _ _ (by repeat (first | exact Repl.here | apply Repl.there)) (by kernel_rfl) (by kernel_rfl) (by kernel_rfl) ?_; clear KN; intro wx KN) | (refine wpList_kn_storeA KN (by rfl) 35 _ _ rfl _ _ rfl _ rfl _ _ (by repeat (first | exact Repl.here | apply Repl.there)) (by (try simp only [Array.size_setIfInBounds, putL_size]); first | exact Nat.le_of_ble_eq_true rfl | (simp; omega)) (by kernel_rfl) (by kernel_rfl) ?_; clear KN; intro wx KN)) | ((refine gate_new (by rfl) ?_); first | (refine wpList_built rfl 35 _ rfl (Ins.mk 18 0 0 0 (n + v)).cells (by kernel_rfl) ?_))))
    replace KN : Kn [] w wx [(g, CapAt 35 5 cap ((p.set k (Ins.mk 18 0 0 0 (n + v))).map fun x => x.cells.toList))] := by rw [List.map_set]; first | exact KN | (rw [HW.out] at KN; exact KN)
    go_wp2_with (first | (go_at_call 13; refine (Encode_bad _ _ _ (by rw [HN.out]; exact Instrs.of_kn' KN (by repeat (first | exact Has.here | refine Has.there ?_)) (by rw [List.length_set]) (by rw [List.length_set, ← HN.out]; exact h1) h2 HF.out) (by rw [HE.out]; decide)).mono ?_; rw [HE.out]; rintro e wx ⟨⟨ba, bc, rfl⟩, hb⟩; replace KN := KN.below hb; clear hb) | (go_at_call 14; refine (Validate_any _ _ _ (by rw [HN.out]; exact Instrs.of_kn' KN (by repeat (first | exact Has.here | refine Has.there ?_)) (by rw [List.length_set]) (by rw [List.length_set, ← HN.out]; exact h1) h2 HF.out)).mono ?_; rw [HE.out]; rintro e wx ⟨rfl, hb⟩; replace KN := KN.below hb; clear hb) | (go_at_call 15; refine (Disassemble_bad _ _ _ (by rw [HN.out]; exact Instrs.of_kn' KN (by repeat (first | exact Has.here | refine Has.there ?_)) (by rw [List.length_set]) (by rw [List.length_set, ← HN.out]; exact h1) h2 HF.out) (by rw [HE.out]; decide)).mono ?_; rintro e wx ⟨rfl, hb⟩; replace KN := KN.below hb; clear hb) | (go_at_call 7; refine (awake_any _).mono ?_; rintro e wx ⟨rfl, hb⟩; replace KN := KN.below hb; clear hb) | ((with_reducible refine wpList_gate ?_); first | ((refine gate_store (by rfl) ?_); first | (refine wpList_kn_store1 KN (by rfl) 3 _ _ rfl _ _ rfl _ (by conv => lhs; whnf) (by rfl) _ _ (by repeat (first | exact Repl.here | apply Repl.there)) (by (try simp only [Array.size_setIfInBounds, putL_size]); first | exact Nat.le_of_ble_eq_true rfl | (simp; omega)) (by kernel_rfl) (by rfl) ?_; clear KN; intro wx KN) | (refine wpList_kn_storeW KN (by rfl) 35 _ _ rfl _ rfl _ rfl _ _ (by repeat (first | exact Repl.here | apply Repl.there)) (by kernel_rfl) (by kernel_rfl) (by kernel_rfl) ?_; clear KN; intro wx KN) | (refine wpList_kn_storeA KN (by rfl) 35 _ _ rfl _ _ rfl _ rfl _ _ (by repeat (first | exact Repl.here | apply Repl.there)) (by (try simp only [Array.size_setIfInBounds, putL_size]); first | exact Nat.le_of_ble_eq_true rfl | (simp; omega)) (by kernel_rfl) (by kernel_rfl) ?_; clear KN; intro wx KN))))
    go_ret
    exact ⟨rfl, KN.toBelow⟩
theorem isaSpoilt_any (va : Value) (zs : List Int) (b c d : Int) (w : World) (hz : Ints w va zs) (b0 : -9223372036854775808 ≤ b) (b1 : b ≤ 9223372036854775807) (c0 : -9223372036854775808 ≤ c) (c1 : c ≤ 9223372036854775807) (d0 : -9223372036854775808 ≤ d) (d1 : d ≤ 9223372036854775807) :
    Calls Tryd.prog 4 #[va, .int .i64 b, .int .i64 c, .int .i64 d] w fun e w' => e = .returned (.bool true) ∧ Below w.heap.size w w' := by
  by_cases h : zs.length ≤ 200
  · exact spoilt_near va zs b c d w hz h b0 b1 c0 c1 d0 d1
  · obtain ⟨za, zc, rfl, hzm⟩ := hz.form
    obtain ⟨n, hn⟩ : ∃ n, n = zs.length := ⟨_, rfl⟩
    rw [← hn] at h hzm ⊢
    unfold maxLen at hzm
    clear hz hn
    go_enter Tryd.func4, Tryd.ntmps4
    go_wp2_with (go_at_call 7; refine (awake_any _).mono ?_; rintro e wx ⟨rfl, hb⟩)
    go_ret
    exact ⟨rfl, hb⟩
end Go.Proofs.YtemigcdieghkfaaDoor
