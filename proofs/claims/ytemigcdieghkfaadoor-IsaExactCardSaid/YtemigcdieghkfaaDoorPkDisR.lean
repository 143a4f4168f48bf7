/- The reference's Disassemble. -/
import Derived.Test.YtemigcdieghkfaaDoorPkDisG
import Derived.Test.YtemigcdieghkfaaDoorPkRefVal2
import Derived.Test.YtemigcdieghkfaaDoorPkKnAll
set_option linter.unusedVariables false
set_option linter.unusedSimpArgs false
set_option linter.unusedSectionVars false
namespace Go.Proofs.YtemigcdieghkfaaDoor
open Go.RowKit Go.BigFrame

/-- The targets of these instructions among n places. -/
def tgA (r : List Ins) (n : Nat) : Array Value := ((List.range n).map fun (i : Nat) => Value.bool (r.any fun x => uses x.op 116 && decide (x.imm = (i : Int)))).toArray
theorem tgA_size (r : List Ins) (n : Nat) : (tgA r n).size = n := by simp [tgA]
theorem tgA_get (r : List Ins) {n i : Nat} (h : i < n) : (tgA r n)[i]? = some (.bool (r.any fun x => uses x.op 116 && decide (x.imm = (i : Int)))) := by
  unfold tgA
  rw [List.getElem?_toArray, List.getElem?_map, List.getElem?_range h]; rfl
theorem tgA_nil (n : Nat) : madeCells #[.bool false] n = tgA [] n := by
  apply Array.ext
  · rw [size_madeCells, tgA_size]
  · intro i h1 h2
    rw [size_madeCells] at h1
    have h3 := tgA_get [] (n := n) (i := i) h1
    rw [Array.getElem?_eq_getElem h2] at h3
    injection h3 with h3
    rw [h3]
    simp only [madeCells, Array.getElem_map, Array.getElem_range, List.any_nil]
    show #[Value.bool false][i % 1]! = _
    rw [Nat.mod_one]; rfl
theorem tgA_set (r : List Ins) (n : Nat) (x : Ins) (hu : uses x.op 116 = true) (m : Nat) (hm : x.imm = (m : Int)) : (tgA r n).setIfInBounds m (.bool true) = tgA (r ++ [x]) n := by
  apply Array.ext
  · rw [Array.size_setIfInBounds, tgA_size, tgA_size]
  · intro i h1 h2
    rw [tgA_size] at h2
    have h3 := tgA_get (r ++ [x]) (n := n) (i := i) h2
    have h4 := tgA_get r (n := n) (i := i) h2
    rw [Array.getElem?_eq_getElem (by rw [tgA_size]; exact h2)] at h3 h4
    injection h3 with h3
    injection h4 with h4
    rw [Array.getElem_setIfInBounds (by rw [tgA_size]; exact h2), h3, h4, List.any_append]
    by_cases e : m = i
    · subst e
      rw [if_pos rfl]
      simp [hu, hm]
    · rw [if_neg e]
      have : ¬ x.imm = (i : Int) := by omega
      simp [this]
theorem tgA_skip (r : List Ins) (n : Nat) (x : Ins) (hu : uses x.op 116 = false) : tgA (r ++ [x]) n = tgA r n := by
  unfold tgA; simp [hu]
theorem index0_any (a b : ByteArray) (w : World) : Sem.run Tryd.prog (Instr.index 115 (.agg #[.string a, .string b]) (.int .i64 0)) w = .ok (.string a) w := by kernel_rfl
def DisR2 (p : List Ins) (n gt : Nat) (w : World) (s i : Value) (wr : World) : Prop :=
  ∃ k : Nat, s = .string (str (txtK p k)) ∧ i = .int .i64 (k : Int) ∧ k ≤ n ∧ Kn [] w wr [(gt, At (tgA p n) 4)]
def DisR1 (p : List Ins) (n gt : Nat) (w : World) (i : Value) (wr : World) : Prop :=
  ∃ k : Nat, i = .int .i64 (k : Int) ∧ k ≤ n ∧ Kn [] w wr [(gt, At (tgA (p.take k) n) 4)]
theorem Decimal_imm (v : Int) (h0 : 0 ≤ v) (h1 : v ≤ 18446744073709551615) (w : World) :
    Calls Tryd.prog 53 #[.int .u64 v] w fun e w' => e = .returned (.string (str (immText v))) ∧ w = w' := by
  rw [imm_nat h0]
  obtain ⟨m, rfl⟩ := Int.eq_ofNat_of_zero_le h0
  rw [Int.toNat_natCast]
  exact Decimal_any m h1 w
theorem op_arm (x : Ins) (h : InsOk x) {j : Nat} (hj : j < (operandsOf x.op).length) :
    ((operandsOf x.op).getD j 0 = 97 ∧ opText ((operandsOf x.op).getD j 0) x = [114] ++ immText x.a) ∨
    ((operandsOf x.op).getD j 0 = 98 ∧ opText ((operandsOf x.op).getD j 0) x = [114] ++ immText x.b) ∨
    ((operandsOf x.op).getD j 0 = 99 ∧ opText ((operandsOf x.op).getD j 0) x = [114] ++ immText x.c) ∨
    ((operandsOf x.op).getD j 0 = 105 ∧ 0 ≤ x.imm ∧ opText ((operandsOf x.op).getD j 0) x = immText x.imm) ∨
    ((operandsOf x.op).getD j 0 = 105 ∧ x.imm < 0 ∧ opText ((operandsOf x.op).getD j 0) x = [45] ++ immText (-x.imm)) ∨
    ((operandsOf x.op).getD j 0 = 116 ∧ 0 ≤ x.imm ∧ opText ((operandsOf x.op).getD j 0) x = [76] ++ immText x.imm) := by
  obtain ⟨q, hq⟩ := Int.eq_ofNat_of_zero_le h.op.1
  have hm : (operandsOf x.op).getD j 0 ∈ operandsOf x.op := by
    rw [List.getD_eq_getElem?_getD, List.getElem?_eq_getElem hj]; exact List.getElem_mem _
  have hl := (opsOf_nat q (by have := h.op.2; omega)).2
  rw [← hq] at hl
  rcases hl _ hm with e | e | e | e | e
  · exact .inl ⟨e, by rw [e, op_0 x h.a.1]⟩
  · exact .inr (.inl ⟨e, by rw [e, op_1 x h.b.1]⟩)
  · exact .inr (.inr (.inl ⟨e, by rw [e, op_2 x h.c.1]⟩))
  · by_cases hi : 0 ≤ x.imm
    · exact .inr (.inr (.inr (.inl ⟨e, hi, by rw [e, op_3]⟩)))
    · refine .inr (.inr (.inr (.inr (.inl ⟨e, by omega, ?_⟩))))
      rw [e, op_3, imm_nat (show 0 ≤ -x.imm by omega)]
      unfold immText; rw [if_pos (by omega)]; rfl
  · have hu : uses x.op 116 = true := by
      rw [e] at hm
      exact List.contains_iff_mem.2 hm
    exact .inr (.inr (.inr (.inr (.inr ⟨e, h.tgt hu, by rw [e, op_4]⟩))))
def DisR3 (p : List Ins) (n gt g7 : Nat) (x : Ins) (uo : ByteArray) (b : List UInt8) (w : World) (s i : Value) (wr : World) : Prop :=
  ∃ j : Nat, s = .string (str (b ++ opsK x j)) ∧ i = .int .i64 (j : Int) ∧ j ≤ uo.size ∧ Kn [] w wr [(g7, At x.cells 35), (gt, At (tgA p n) 4)]
set_option maxRecDepth 100000 in
set_option maxHeartbeats 40000000 in
theorem DisR_ok (va : Value) (p : List Ins) (w : World) (h : Instrs w va p) (he : progErr p = 0) :
    Calls Tryd.prog 21 #[va] w fun e w' => e = .returned (.string (str (linesT p 0 p))) ∧ Below w.heap.size w w' := by
  have KN := Kn.start w
  have hlen := progErr_len he
  have hall := progErr_all he
  have hok : ∀ x ∈ p, InsOk x := fun x hx => InsOk.of (hall x hx) (h.2 x hx).1
  have htg : ∀ x ∈ p, uses x.op 116 = true → 0 ≤ x.imm ∧ x.imm < p.length := fun x hx hu => by
    have := hall x hx
    unfold insErr at this
    split at this
    · cases this
    · split at this
      · cases this
      · split at this
        · cases this
        · rename_i h3
          have : ¬ (x.imm < 0 ∨ (p.length : Int) ≤ x.imm) := fun q => h3 ⟨hu, q⟩
          omega
  obtain ⟨a, c, rfl, _⟩ := h.form
  obtain ⟨n, hn⟩ : ∃ n, n = p.length := ⟨_, rfl⟩
  rw [← hn] at htg
  have HN := Lib.hid hn
  have H := Lib.hid h
  have HE := Lib.hid he
  have HOK := Lib.hid hok
  have HTG := Lib.hid htg
  rw [← hn] at hlen ⊢
  obtain ⟨n1, n2⟩ := hlen
  clear h he hok hall hn htg
  go_enter Tryd.func21, Tryd.ntmps21
  go_wp2_with (first | (go_at_call 20; refine (RValidate_any _ p _ (by rw [HN.out]; exact H.out)).mono ?_; rintro e wx ⟨rfl, hb⟩; rw [HE.out]; replace KN := KN.below hb; clear hb) | ((with_reducible refine wpList_gate ?_); first | (refine wpList_kn_make KN rfl 113 (.tmp 14) (.tmp 14) rfl 4 1 1 Tryd.underlying113 (by kernel_rfl) n n .i64 .i64 rfl rfl (by omega) (by omega) (by unfold maxLen; omega) ?_; clear KN; intro gt wx cs hg hcs KN) | ((refine gate_load (by rfl) ?_); first | (refine wpList_kn_loadW KN (by rfl) 35 _ rfl _ rfl _ _ (by repeat (first | exact Has.here | refine Has.there ?_)) _ Tryd.underlying35 rfl (by kernel_rfl) ?_) | (refine wpList_kn_load1 KN (by rfl) 21 _ rfl _ _ rfl _ _ (by repeat (first | exact Has.here | refine Has.there ?_)) _ (by (repeat (first | ((with_reducible refine get_hit ?_); exact Nat.le_of_ble_eq_true (by kernel_rfl)) | ((with_reducible refine (get_miss ?_).trans ?_); (focus kernel_rfl)) | ((with_reducible refine (get_pmiss ?_).trans ?_); (focus kernel_rfl)))); all_goals (conv => lhs; whnf; arg 1; whnf)) _ Tryd.underlying21 rfl ?_) | (refine wpList_kn_load1 KN (by rfl) 4 _ rfl _ _ rfl _ _ (by repeat (first | exact Has.here | refine Has.there ?_)) _ (by (repeat (first | ((with_reducible refine get_hit ?_); exact Nat.le_of_ble_eq_true (by kernel_rfl)) | ((with_reducible refine (get_miss ?_).trans ?_); (focus kernel_rfl)) | ((with_reducible refine (get_pmiss ?_).trans ?_); (focus kernel_rfl)))); all_goals (conv => lhs; whnf; arg 1; whnf)) _ Tryd.underlying4 rfl ?_) | (refine wpList_kn_load1 KN (by rfl) 3 _ rfl _ _ rfl _ _ (by repeat (first | exact Has.here | refine Has.there ?_)) _ (by (repeat (first | ((with_reducible refine get_hit ?_); exact Nat.le_of_ble_eq_true (by kernel_rfl)) | ((with_reducible refine (get_miss ?_).trans ?_); (focus kernel_rfl)) | ((with_reducible refine (get_pmiss ?_).trans ?_); (focus kernel_rfl)))); all_goals (conv => lhs; whnf; arg 1; whnf)) _ Tryd.underlying3 rfl ?_)) | ((refine gate_store (by rfl) ?_); first | (refine wpList_kn_store1 KN (by rfl) 4 _ _ rfl _ _ rfl _ (by conv => lhs; whnf) (by rfl) _ _ (by repeat (first | exact Repl.here | apply Repl.there)) (by (try simp only [Array.size_setIfInBounds, putL_size]); first | exact Nat.le_of_ble_eq_true rfl | (simp; omega)) (by kernel_rfl) (by rfl) ?_; clear KN; intro wx KN) | (refine wpList_kn_storeW KN (by rfl) 35 _ _ rfl _ rfl _ rfl _ _ (by repeat (first | exact Repl.here | apply Repl.there)) (by kernel_rfl) (by kernel_rfl) (by kernel_rfl) ?_; clear KN; intro wx KN) | (refine wpList_kn_storeA KN (by rfl) 35 _ _ rfl _ _ rfl _ rfl _ _ (by repeat (first | exact Repl.here | apply Repl.there)) (by (try simp only [Array.size_setIfInBounds, putL_size]); first | exact Nat.le_of_ble_eq_true rfl | (simp; omega)) (by kernel_rfl) (by kernel_rfl) ?_; clear KN; intro wx KN)) | ((refine gate_new (by rfl) ?_); first | (refine wpList_kn_alloc KN (by rfl) 35 rfl 7 rfl #[.int .i64 0, .int .i64 0, .int .i64 0, .int .i64 0, .int .i32 0] (by kernel_rfl) ?_; clear KN; intro g7 wx hg7 KN))))
  have hz : (((Tryd.prog.info? 4).bind (fun i => i.zero)).map (fun v => v.cells)).getD #[] = #[.bool false] := by kernel_rfl
  have hcs2 : cs = tgA [] n := by rw [hcs, hz, Nat.mul_one, tgA_nil]
  clear hz
  subst hcs2
  have HREL : Hid (DisR1 p n gt w (.int .i64 0) wx) := Lib.hid ⟨0, rfl, Nat.zero_le _, KN⟩
  clear KN hg hcs
  go_loopw [4] (fun i wr => DisR1 p n gt w i wr) (fun i _ => n - (intOf i).toNat)
  case atStart => exact HREL.out
  case round =>
    obtain ⟨k, rfl, hk, KN⟩ := hrel
    by_cases hlt : k < n
    · obtain ⟨x, hx⟩ : ∃ x, p[k]? = some x := ⟨_, List.getElem?_eq_getElem (by rw [← HN.out]; exact hlt)⟩
      have cel : ∀ (wz : World) (lz : Ents), Kn [] w wz lz → ∃ g2 off, a = some ⟨g2, off, none⟩ ∧ c ≤ maxLen ∧ wz.cell? ⟨g2, off + k * 5, none⟩ = some (.int .i64 x.op) ∧ wz.cell? ⟨g2, off + k * 5 + 1, none⟩ = some (.int .i64 x.a) ∧ wz.cell? ⟨g2, off + k * 5 + 2, none⟩ = some (.int .i64 x.b) ∧ wz.cell? ⟨g2, off + k * 5 + 3, none⟩ = some (.int .i64 x.c) ∧ wz.cell? ⟨g2, off + k * 5 + 4, none⟩ = some (.int .i32 x.imm) := by
        intro wz lz K
        obtain ⟨a', c', hv, hcells⟩ := (H.out.below K.toBelow).form
        simp only [Value.slice.injEq] at hv
        obtain ⟨g2, off, hg2, hgb, hc1, hc2, x0, x1, x2, x3, x4⟩ := hcells k x hx
        obtain ⟨rfl, _, rfl⟩ := hv
        exact ⟨g2, off, hg2, hc2, x0, x1, x2, x3, x4⟩
      obtain ⟨g2, off, rfl, hc2, x0, x1, x2, x3, x4⟩ := cel wr _ KN
      have hxo := HOK.out x (List.mem_of_getElem? hx)
      obtain ⟨o0, o1⟩ := hxo.op
      have HX := Lib.hid hx
      have HCEL := Lib.hid cel
      clear hx hxo cel
      unfold maxLen at hc2
      rcases Bool.eq_false_or_eq_true (uses x.op 116) with hu | hu
      · have HU := Lib.hid hu
        obtain ⟨i0, i1⟩ := HTG.out x (List.mem_of_getElem? HX.out) hu
        obtain ⟨mi, hmi⟩ := Int.eq_ofNat_of_zero_le i0
        have HMI := Lib.hid hmi
        clear hu hmi
        go_upto_region 8 with (first | (go_at_call 36; refine (Jumps_any x _ o0 o1).mono ?_; rintro e wx ⟨rfl, hb⟩; rw [HU.out]; replace KN := KN.below hb; clear hb) | ((with_reducible refine wpList_gate ?_); first | ((refine gate_load (by rfl) ?_); first | (refine wpList_kn_loadW KN (by rfl) 35 _ rfl _ rfl _ _ (by repeat (first | exact Has.here | refine Has.there ?_)) _ Tryd.underlying35 rfl (by kernel_rfl) ?_) | (refine wpList_kn_load1 KN (by rfl) 21 _ rfl _ _ rfl _ _ (by repeat (first | exact Has.here | refine Has.there ?_)) _ (by (repeat (first | ((with_reducible refine get_hit ?_); exact Nat.le_of_ble_eq_true (by kernel_rfl)) | ((with_reducible refine (get_miss ?_).trans ?_); (focus kernel_rfl)) | ((with_reducible refine (get_pmiss ?_).trans ?_); (focus kernel_rfl)))); all_goals (conv => lhs; whnf; arg 1; whnf)) _ Tryd.underlying21 rfl ?_) | (refine wpList_kn_load1 KN (by rfl) 4 _ rfl _ _ rfl _ _ (by repeat (first | exact Has.here | refine Has.there ?_)) _ (by (repeat (first | ((with_reducible refine get_hit ?_); exact Nat.le_of_ble_eq_true (by kernel_rfl)) | ((with_reducible refine (get_miss ?_).trans ?_); (focus kernel_rfl)) | ((with_reducible refine (get_pmiss ?_).trans ?_); (focus kernel_rfl)))); all_goals (conv => lhs; whnf; arg 1; whnf)) _ Tryd.underlying4 rfl ?_) | (refine wpList_kn_load1 KN (by rfl) 3 _ rfl _ _ rfl _ _ (by repeat (first | exact Has.here | refine Has.there ?_)) _ (by (repeat (first | ((with_reducible refine get_hit ?_); exact Nat.le_of_ble_eq_true (by kernel_rfl)) | ((with_reducible refine (get_miss ?_).trans ?_); (focus kernel_rfl)) | ((with_reducible refine (get_pmiss ?_).trans ?_); (focus kernel_rfl)))); all_goals (conv => lhs; whnf; arg 1; whnf)) _ Tryd.underlying3 rfl ?_)) | ((refine gate_store (by rfl) ?_); first | (refine wpList_kn_store1 KN (by rfl) 4 _ _ rfl _ _ rfl _ (by conv => lhs; whnf) (by rfl) _ _ (by repeat (first | exact Repl.here | apply Repl.there)) (by (try simp only [Array.size_setIfInBounds, putL_size]); first | exact Nat.le_of_ble_eq_true rfl | (simp; omega)) (by kernel_rfl) (by rfl) ?_; clear KN; intro wx KN) | (refine wpList_kn_storeW KN (by rfl) 35 _ _ rfl _ rfl _ rfl _ _ (by repeat (first | exact Repl.here | apply Repl.there)) (by kernel_rfl) (by kernel_rfl) (by kernel_rfl) ?_; clear KN; intro wx KN) | (refine wpList_kn_storeA KN (by rfl) 35 _ _ rfl _ _ rfl _ rfl _ _ (by repeat (first | exact Repl.here | apply Repl.there)) (by (try simp only [Array.size_setIfInBounds, putL_size]); first | exact Nat.le_of_ble_eq_true rfl | (simp; omega)) (by kernel_rfl) (by kernel_rfl) ?_; clear KN; intro wx KN)) | ((refine gate_new (by rfl) ?_); first | (refine wpList_kn_alloc KN (by rfl) 35 rfl 7 rfl #[.int .i64 0, .int .i64 0, .int .i64 0, .int .i64 0, .int .i32 0] (by kernel_rfl) ?_; clear KN; intro g7 wx hg7 KN))))
        (try go_frame)
        clear x0 x1 x2 x3 x4
        obtain ⟨g3, off3, e3, _, _, _, _, _, x4⟩ := HCEL.out _ _ KN
        cases e3
        rw [HMI.out] at x4 i0 i1
        go_wp2_with (first | ((with_reducible refine wpList_gate ?_); first | ((refine gate_load (by rfl) ?_); first | (refine wpList_kn_loadW KN (by rfl) 35 _ rfl _ rfl _ _ (by repeat (first | exact Has.here | refine Has.there ?_)) _ Tryd.underlying35 rfl (by kernel_rfl) ?_) | (refine wpList_kn_load1 KN (by rfl) 21 _ rfl _ _ rfl _ _ (by repeat (first | exact Has.here | refine Has.there ?_)) _ (by (repeat (first | ((with_reducible refine get_hit ?_); exact Nat.le_of_ble_eq_true (by kernel_rfl)) | ((with_reducible refine (get_miss ?_).trans ?_); (focus kernel_rfl)) | ((with_reducible refine (get_pmiss ?_).trans ?_); (focus kernel_rfl)))); all_goals (conv => lhs; whnf; arg 1; whnf)) _ Tryd.underlying21 rfl ?_) | (refine wpList_kn_load1 KN (by rfl) 4 _ rfl _ _ rfl _ _ (by repeat (first | exact Has.here | refine Has.there ?_)) _ (by (repeat (first | ((with_reducible refine get_hit ?_); exact Nat.le_of_ble_eq_true (by kernel_rfl)) | ((with_reducible refine (get_miss ?_).trans ?_); (focus kernel_rfl)) | ((with_reducible refine (get_pmiss ?_).trans ?_); (focus kernel_rfl)))); all_goals (conv => lhs; whnf; arg 1; whnf)) _ Tryd.underlying4 rfl ?_) | (refine wpList_kn_load1 KN (by rfl) 3 _ rfl _ _ rfl _ _ (by repeat (first | exact Has.here | refine Has.there ?_)) _ (by (repeat (first | ((with_reducible refine get_hit ?_); exact Nat.le_of_ble_eq_true (by kernel_rfl)) | ((with_reducible refine (get_miss ?_).trans ?_); (focus kernel_rfl)) | ((with_reducible refine (get_pmiss ?_).trans ?_); (focus kernel_rfl)))); all_goals (conv => lhs; whnf; arg 1; whnf)) _ Tryd.underlying3 rfl ?_)) | ((refine gate_store (by rfl) ?_); first | (refine wpList_kn_store1 KN (by rfl) 4 _ _ rfl gt mi rfl (.bool true) rfl rfl _ _ (by repeat (first | exact Repl.here | apply Repl.there)) (by rw [tgA_size]; omega) (by kernel_rfl) (by rfl) ?_; clear KN; intro wx KN) | (refine wpList_kn_store1 KN (by rfl) 4 _ _ rfl _ _ rfl _ (by conv => lhs; whnf) (by rfl) _ _ (by repeat (first | exact Repl.here | apply Repl.there)) (by (try simp only [Array.size_setIfInBounds, putL_size]); first | exact Nat.le_of_ble_eq_true rfl | (simp; omega)) (by kernel_rfl) (by rfl) ?_; clear KN; intro wx KN) | (refine wpList_kn_storeW KN (by rfl) 35 _ _ rfl _ rfl _ rfl _ _ (by repeat (first | exact Repl.here | apply Repl.there)) (by kernel_rfl) (by kernel_rfl) (by kernel_rfl) ?_; clear KN; intro wx KN) | (refine wpList_kn_storeA KN (by rfl) 35 _ _ rfl _ _ rfl _ rfl _ _ (by repeat (first | exact Repl.here | apply Repl.there)) (by (try simp only [Array.size_setIfInBounds, putL_size]); first | exact Nat.le_of_ble_eq_true rfl | (simp; omega)) (by kernel_rfl) (by kernel_rfl) ?_; clear KN; intro wx KN)) | ((refine gate_new (by rfl) ?_); first | (refine wpList_kn_alloc KN (by rfl) 35 rfl 7 rfl #[.int .i64 0, .int .i64 0, .int .i64 0, .int .i64 0, .int .i32 0] (by kernel_rfl) ?_; clear KN; intro g7 wx hg7 KN))))
        go_roundw
        case rel => exact ⟨k + 1, by go_num, by omega, by rw [take_snoc' HX.out, ← tgA_set _ _ _ HU.out mi HMI.out]; exact KN⟩
        case measure => simp [intOf]; omega
      · have HU := Lib.hid hu
        clear hu
        go_wp2_with (first | (go_at_call 36; refine (Jumps_any x _ o0 o1).mono ?_; rintro e wx ⟨rfl, hb⟩; rw [HU.out]; replace KN := KN.below hb; clear hb) | ((with_reducible refine wpList_gate ?_); first | ((refine gate_load (by rfl) ?_); first | (refine wpList_kn_loadW KN (by rfl) 35 _ rfl _ rfl _ _ (by repeat (first | exact Has.here | refine Has.there ?_)) _ Tryd.underlying35 rfl (by kernel_rfl) ?_) | (refine wpList_kn_load1 KN (by rfl) 21 _ rfl _ _ rfl _ _ (by repeat (first | exact Has.here | refine Has.there ?_)) _ (by (repeat (first | ((with_reducible refine get_hit ?_); exact Nat.le_of_ble_eq_true (by kernel_rfl)) | ((with_reducible refine (get_miss ?_).trans ?_); (focus kernel_rfl)) | ((with_reducible refine (get_pmiss ?_).trans ?_); (focus kernel_rfl)))); all_goals (conv => lhs; whnf; arg 1; whnf)) _ Tryd.underlying21 rfl ?_) | (refine wpList_kn_load1 KN (by rfl) 4 _ rfl _ _ rfl _ _ (by repeat (first | exact Has.here | refine Has.there ?_)) _ (by (repeat (first | ((with_reducible refine get_hit ?_); exact Nat.le_of_ble_eq_true (by kernel_rfl)) | ((with_reducible refine (get_miss ?_).trans ?_); (focus kernel_rfl)) | ((with_reducible refine (get_pmiss ?_).trans ?_); (focus kernel_rfl)))); all_goals (conv => lhs; whnf; arg 1; whnf)) _ Tryd.underlying4 rfl ?_) | (refine wpList_kn_load1 KN (by rfl) 3 _ rfl _ _ rfl _ _ (by repeat (first | exact Has.here | refine Has.there ?_)) _ (by (repeat (first | ((with_reducible refine get_hit ?_); exact Nat.le_of_ble_eq_true (by kernel_rfl)) | ((with_reducible refine (get_miss ?_).trans ?_); (focus kernel_rfl)) | ((with_reducible refine (get_pmiss ?_).trans ?_); (focus kernel_rfl)))); all_goals (conv => lhs; whnf; arg 1; whnf)) _ Tryd.underlying3 rfl ?_)) | ((refine gate_store (by rfl) ?_); first | (refine wpList_kn_store1 KN (by rfl) 4 _ _ rfl _ _ rfl _ (by conv => lhs; whnf) (by rfl) _ _ (by repeat (first | exact Repl.here | apply Repl.there)) (by (try simp only [Array.size_setIfInBounds, putL_size]); first | exact Nat.le_of_ble_eq_true rfl | (simp; omega)) (by kernel_rfl) (by rfl) ?_; clear KN; intro wx KN) | (refine wpList_kn_storeW KN (by rfl) 35 _ _ rfl _ rfl _ rfl _ _ (by repeat (first | exact Repl.here | apply Repl.there)) (by kernel_rfl) (by kernel_rfl) (by kernel_rfl) ?_; clear KN; intro wx KN) | (refine wpList_kn_storeA KN (by rfl) 35 _ _ rfl _ _ rfl _ rfl _ _ (by repeat (first | exact Repl.here | apply Repl.there)) (by (try simp only [Array.size_setIfInBounds, putL_size]); first | exact Nat.le_of_ble_eq_true rfl | (simp; omega)) (by kernel_rfl) (by kernel_rfl) ?_; clear KN; intro wx KN)) | ((refine gate_new (by rfl) ?_); first | (refine wpList_kn_alloc KN (by rfl) 35 rfl 7 rfl #[.int .i64 0, .int .i64 0, .int .i64 0, .int .i64 0, .int .i32 0] (by kernel_rfl) ?_; clear KN; intro g7 wx hg7 KN))))
        go_roundw
        case rel => exact ⟨k + 1, by go_num, by omega, by rw [take_snoc' HX.out, tgA_skip _ _ _ HU.out]; exact KN⟩
        case measure => simp [intOf]; omega
    · have hkn : k = n := by omega
      rw [List.take_of_length_le (show p.length ≤ k by rw [← HN.out]; omega)] at KN
      clear hkn
      go_wp2_with fail
      clear hk hlt
      have HREL2 : Hid (DisR2 p n gt w (.string ByteArray.empty) (.int .i64 0) wr) := Lib.hid ⟨0, rfl, rfl, Nat.zero_le _, KN⟩
      clear KN
      go_loopw [5, 6] (fun s i wr => DisR2 p n gt w s i wr) (fun _ i _ => n - (intOf i).toNat)
      case atStart => exact HREL2.out
      case round =>
        obtain ⟨k, rfl, rfl, hk, KN⟩ := hrel
        by_cases hlt : k < n
        · obtain ⟨x, hx⟩ : ∃ x, p[k]? = some x := ⟨_, List.getElem?_eq_getElem (by rw [← HN.out]; exact hlt)⟩
          obtain ⟨a', c', hv, hcells⟩ := (H.out.below KN.toBelow).form
          simp only [Value.slice.injEq] at hv
          obtain ⟨g2, off, hg2, hgb, hc1, hc2, x0, x1, x2, x3, x4⟩ := hcells k x hx
          obtain ⟨rfl, _, rfl⟩ := hv
          subst hg2
          have hxo := HOK.out x (List.mem_of_getElem? hx)
          obtain ⟨o0, o1⟩ := hxo.op
          have HXO := Lib.hid hxo
          have HX := Lib.hid hx
          have HTL : Hid ((txtK p k).length ≤ 103 * k) := Lib.hid (txtK_len HOK.out (by rw [← HN.out]; exact n2) k (by rw [← HN.out]; exact hk))
          have HLL : Hid ((labText p k).length ≤ 24) := Lib.hid (labText_len p k (by omega))
          obtain ⟨sv, hsv⟩ : ∃ s, s = str (txtK p k) := ⟨_, rfl⟩
          have ss : sv.size ≤ 500000 := by rw [hsv, str_size]; have := HTL.out; omega
          rw [← hsv]
          have HSV := Lib.hid hsv
          clear hx hcells hc1 hxo hsv
          unfold maxLen at hc2
          go_upto_region 14 with (first | ((with_reducible refine wpList_gate ?_); first | ((refine gate_load (by rfl) ?_); first | (refine wpList_kn_loadW KN (by rfl) 35 _ rfl _ rfl _ _ (by repeat (first | exact Has.here | refine Has.there ?_)) _ Tryd.underlying35 rfl (by kernel_rfl) ?_) | (refine wpList_kn_load1 KN (by rfl) 21 _ rfl _ _ rfl _ _ (by repeat (first | exact Has.here | refine Has.there ?_)) _ (by (repeat (first | ((with_reducible refine get_hit ?_); exact Nat.le_of_ble_eq_true (by kernel_rfl)) | ((with_reducible refine (get_miss ?_).trans ?_); (focus kernel_rfl)) | ((with_reducible refine (get_pmiss ?_).trans ?_); (focus kernel_rfl)))); all_goals (conv => lhs; whnf; arg 1; whnf)) _ Tryd.underlying21 rfl ?_) | (refine wpList_kn_load1 KN (by rfl) 4 _ rfl _ _ rfl _ _ (by repeat (first | exact Has.here | refine Has.there ?_)) _ (by (repeat (first | ((with_reducible refine get_hit ?_); exact Nat.le_of_ble_eq_true (by kernel_rfl)) | ((with_reducible refine (get_miss ?_).trans ?_); (focus kernel_rfl)) | ((with_reducible refine (get_pmiss ?_).trans ?_); (focus kernel_rfl)))); all_goals (conv => lhs; whnf; arg 1; whnf)) _ Tryd.underlying4 rfl ?_) | (refine wpList_kn_load1 KN (by rfl) 3 _ rfl _ _ rfl _ _ (by repeat (first | exact Has.here | refine Has.there ?_)) _ (by (repeat (first | ((with_reducible refine get_hit ?_); exact Nat.le_of_ble_eq_true (by kernel_rfl)) | ((with_reducible refine (get_miss ?_).trans ?_); (focus kernel_rfl)) | ((with_reducible refine (get_pmiss ?_).trans ?_); (focus kernel_rfl)))); all_goals (conv => lhs; whnf; arg 1; whnf)) _ Tryd.underlying3 rfl ?_)) | ((refine gate_store (by rfl) ?_); first | (refine wpList_kn_store1 KN (by rfl) 4 _ _ rfl _ _ rfl _ (by conv => lhs; whnf) (by rfl) _ _ (by repeat (first | exact Repl.here | apply Repl.there)) (by (try simp only [Array.size_setIfInBounds, putL_size]); first | exact Nat.le_of_ble_eq_true rfl | (simp; omega)) (by kernel_rfl) (by rfl) ?_; clear KN; intro wx KN) | (refine wpList_kn_storeW KN (by rfl) 35 _ _ rfl _ rfl _ rfl _ _ (by repeat (first | exact Repl.here | apply Repl.there)) (by kernel_rfl) (by kernel_rfl) (by kernel_rfl) ?_; clear KN; intro wx KN) | (refine wpList_kn_storeA KN (by rfl) 35 _ _ rfl _ _ rfl _ rfl _ _ (by repeat (first | exact Repl.here | apply Repl.there)) (by (try simp only [Array.size_setIfInBounds, putL_size]); first | exact Nat.le_of_ble_eq_true rfl | (simp; omega)) (by kernel_rfl) (by kernel_rfl) ?_; clear KN; intro wx KN)) | ((refine gate_new (by rfl) ?_); first | (refine wpList_kn_alloc KN (by rfl) 35 rfl 7 rfl #[.int .i64 0, .int .i64 0, .int .i64 0, .int .i64 0, .int .i32 0] (by kernel_rfl) ?_; clear KN; intro g7 wx hg7 KN))))
          (try go_frame)
          clear x0 x1 x2 x3 x4
          have ct := KN.cell (g := gt) (cs := tgA p n) (T := 4) (o := k) (by repeat (first | exact Has.here | refine Has.there ?_)) (tgA_get p hlt)
          have hlabb : targeted p k = true ∨ targeted p k = false := by cases targeted p k <;> simp
          rcases hlabb with ht | ht
          · have ct2 : wx.cell? ⟨gt, k, none⟩ = some (.bool true) := ct.trans (congrArg (fun b => some (Value.bool b)) ht)
            have hlab : labText p k = [76] ++ numL 10 k ++ [58, 32] := by unfold labText; rw [if_pos ht]; rfl
            obtain ⟨ui, hui⟩ : ∃ u, u = str (numL 10 k) := ⟨_, rfl⟩
            have us : ui.size ≤ 21 := by
              have := immText_len (k : Int) (by omega) (by omega)
              rw [imm_nat (by omega), Int.toNat_natCast] at this
              rw [hui, str_size]; exact this
            have HUI := Lib.hid hui
            clear ht ct hui
            go_upto_region 16 with (first | (go_at_call 53; refine (Decimal_any k (by omega) _).mono ?_; rintro e w' ⟨rfl, rfl⟩; rw [← HUI.out]) | ((with_reducible refine wpList_gate ?_); first | ((refine gate_load (by rfl) ?_); first | (refine wpList_kn_loadW KN (by rfl) 35 _ rfl _ rfl _ _ (by repeat (first | exact Has.here | refine Has.there ?_)) _ Tryd.underlying35 rfl (by kernel_rfl) ?_) | (refine wpList_kn_load1 KN (by rfl) 21 _ rfl _ _ rfl _ _ (by repeat (first | exact Has.here | refine Has.there ?_)) _ (by (repeat (first | ((with_reducible refine get_hit ?_); exact Nat.le_of_ble_eq_true (by kernel_rfl)) | ((with_reducible refine (get_miss ?_).trans ?_); (focus kernel_rfl)) | ((with_reducible refine (get_pmiss ?_).trans ?_); (focus kernel_rfl)))); all_goals (conv => lhs; whnf; arg 1; whnf)) _ Tryd.underlying21 rfl ?_) | (refine wpList_kn_load1 KN (by rfl) 4 _ rfl _ _ rfl _ _ (by repeat (first | exact Has.here | refine Has.there ?_)) _ (by (repeat (first | ((with_reducible refine get_hit ?_); exact Nat.le_of_ble_eq_true (by kernel_rfl)) | ((with_reducible refine (get_miss ?_).trans ?_); (focus kernel_rfl)) | ((with_reducible refine (get_pmiss ?_).trans ?_); (focus kernel_rfl)))); all_goals (conv => lhs; whnf; arg 1; whnf)) _ Tryd.underlying4 rfl ?_) | (refine wpList_kn_load1 KN (by rfl) 3 _ rfl _ _ rfl _ _ (by repeat (first | exact Has.here | refine Has.there ?_)) _ (by (repeat (first | ((with_reducible refine get_hit ?_); exact Nat.le_of_ble_eq_true (by kernel_rfl)) | ((with_reducible refine (get_miss ?_).trans ?_); (focus kernel_rfl)) | ((with_reducible refine (get_pmiss ?_).trans ?_); (focus kernel_rfl)))); all_goals (conv => lhs; whnf; arg 1; whnf)) _ Tryd.underlying3 rfl ?_)) | ((refine gate_store (by rfl) ?_); first | (refine wpList_kn_store1 KN (by rfl) 4 _ _ rfl _ _ rfl _ (by conv => lhs; whnf) (by rfl) _ _ (by repeat (first | exact Repl.here | apply Repl.there)) (by (try simp only [Array.size_setIfInBounds, putL_size]); first | exact Nat.le_of_ble_eq_true rfl | (simp; omega)) (by kernel_rfl) (by rfl) ?_; clear KN; intro wx KN) | (refine wpList_kn_storeW KN (by rfl) 35 _ _ rfl _ rfl _ rfl _ _ (by repeat (first | exact Repl.here | apply Repl.there)) (by kernel_rfl) (by kernel_rfl) (by kernel_rfl) ?_; clear KN; intro wx KN) | (refine wpList_kn_storeA KN (by rfl) 35 _ _ rfl _ _ rfl _ rfl _ _ (by repeat (first | exact Repl.here | apply Repl.there)) (by (try simp only [Array.size_setIfInBounds, putL_size]); first | exact Nat.le_of_ble_eq_true rfl | (simp; omega)) (by kernel_rfl) (by kernel_rfl) ?_; clear KN; intro wx KN)) | ((refine gate_new (by rfl) ?_); first | (refine wpList_kn_alloc KN (by rfl) 35 rfl 7 rfl #[.int .i64 0, .int .i64 0, .int .i64 0, .int .i64 0, .int .i32 0] (by kernel_rfl) ?_; clear KN; intro g7 wx hg7 KN))))
            obtain ⟨sv2, hsv2⟩ : ∃ s, s = ((sv ++ ({ data := #[76] } : ByteArray)) ++ ui) ++ ({ data := #[58, 32] } : ByteArray) := ⟨_, rfl⟩
            have ss2 : sv2.size ≤ 500030 := by
              rw [hsv2, ByteArray.size_append, ByteArray.size_append, ByteArray.size_append]
              show sv.size + 1 + ui.size + 2 ≤ 500030
              omega
            (try go_frame)
            rw [← hsv2]
            replace hsv2 : sv2 = str (txtK p k ++ labText p k) := by rw [hsv2, HSV.out, HUI.out, hlab, ← str_app, ← str_app, ← str_app, ByteArray.append_assoc, ByteArray.append_assoc]; rfl
            clear hlab ct2
            have HSV2 := Lib.hid hsv2
            clear hsv2
            (try go_frame)
            obtain ⟨um, hum⟩ : ∃ u, u = str (mnemOf x.op) := ⟨_, rfl⟩
            obtain ⟨uo, huo⟩ : ∃ u, u = str (operandsOf x.op) := ⟨_, rfl⟩
            have sm : um.size ≤ 5 := by rw [hum, str_size]; exact mnemOf_len o0 o1
            have so : uo.size ≤ 3 := by rw [huo, str_size]; exact operands_len x.op o0 o1
            obtain ⟨fa, hfa⟩ : ∃ fa, fa = fmtA := ⟨_, rfl⟩
            have hix : ∀ w, Sem.run Tryd.prog (Instr.index 116 (.agg fa) (.int .i64 x.op)) w = .ok (.agg #[.string um, .string uo]) w := fun w => by rw [hfa, hum, huo]; exact index_any x.op o0 o1 w
            have hiy : ∀ w, Sem.run Tryd.prog (Instr.index 115 (.agg #[.string um, .string uo]) (.int .i64 0)) w = .ok (.string um) w := fun w => index0_any um uo w
            have HFA := Lib.hid hfa
            have HUM := Lib.hid hum
            have HUO := Lib.hid huo
            clear hfa hum huo
            have hsum : sv2.size + um.size ≤ 9223372036854775807 := by omega
            replace KN := KN.drew
            refine wp_region_held_drew (S := (fun w' => BlkT w' g7 x.cells 35)) (by kernel_rfl) ?rahS (fun hHeld => ?rarest)
            case rahS => exact KN.at_ (by repeat (first | exact Has.here | refine Has.there ?_))
            refine wpAnyH_take (i := 0) (oi := ⟨some 55, _, _, _, _, _⟩) (v := ?rav0) rfl (by kernel_rfl) (by kernel_rfl) (by kernel_rfl) (fun _ _ _ h => h) (Or.inl ⟨by rfl, ?rahy0⟩) hHeld ?rar0
            case rahy0 => (intro w hSw; (try dsimp only at hSw); go_simp; (try with_reducible rfl))
            (try simp only [Act.put, List.setIfInBounds_toArray, List.set_cons_zero, List.set_cons_succ])
            refine wpAnyH_take (i := 2) (oi := ⟨some 57, _, _, _, _, _⟩) (v := ?rav2) rfl (by kernel_rfl) (by kernel_rfl) (by kernel_rfl) (fun _ _ _ h => h) (Or.inl ⟨by rfl, ?rahy2⟩) hHeld ?rar2
            case rahy2 => (intro w hSw; (try dsimp only at hSw); go_simp; (try with_reducible rfl))
            (try simp only [Act.put, List.setIfInBounds_toArray, List.set_cons_zero, List.set_cons_succ])
            refine wpAnyH_take (i := 3) (oi := ⟨some 58, _, _, _, _, _⟩) (v := (.int .i64 x.op)) rfl (by kernel_rfl) (by kernel_rfl) (by kernel_rfl) (fun _ _ _ h => h) (kn_yields1 (by rfl) 3 _ rfl g7 0 rfl _ 35 (fun _ h => h) _ rfl _ Tryd.underlying3 rfl) hHeld ?rar3
            (try simp only [Act.put, List.setIfInBounds_toArray, List.set_cons_zero, List.set_cons_succ])
            refine wpAnyH_ready (rs := [1]) (by kernel_rfl) (by simp) ?rac1
            refine AllReadyH.cons (o := ⟨some 56, _, _, _, _, _⟩) rfl (fun K hK => ?rast1) AllReadyH.nil
            go_simp
            (refine (table_any _).mono ?_; rintro e wx ⟨rfl, hb⟩; rw [← HFA.out]; replace KN := KN.below hb; clear hb)
            refine hK.out _ _ ?rak1 (fun hHeld2 => ?ram1)
            case rak1 => exact KN.at_ (by repeat (first | exact Has.here | refine Has.there ?_))
            clear hK K hHeld
            have hHeld := hHeld2; clear hHeld2
            (try simp only [Act.put, List.setIfInBounds_toArray, List.set_cons_zero, List.set_cons_succ])
            refine wpAnyH_take (i := 4) (oi := ⟨some 59, _, _, _, _, _⟩) (v := (.agg #[.string um, .string uo])) rfl (by kernel_rfl) (by kernel_rfl) (by kernel_rfl) (fun _ _ _ h => h) (Or.inl ⟨by rfl, ?rahy4⟩) hHeld ?rar4
            case rahy4 => (intro w hSw; (try dsimp only at hSw); go_simp; (try rfl))
            (try simp only [Act.put, List.setIfInBounds_toArray, List.set_cons_zero, List.set_cons_succ])
            refine wpAnyH_take (i := 5) (oi := ⟨some 60, _, _, _, _, _⟩) (v := (.string um)) rfl (by kernel_rfl) (by kernel_rfl) (by kernel_rfl) (fun _ _ _ h => h) (Or.inl ⟨by rfl, ?rahy5⟩) hHeld ?rar5
            case rahy5 => (intro w hSw; (try dsimp only at hSw); go_simp; (try rfl))
            (try simp only [Act.put, List.setIfInBounds_toArray, List.set_cons_zero, List.set_cons_succ])
            refine wpAnyH_take (i := 6) (oi := ⟨some 61, _, _, _, _, _⟩) (v := (.string (sv2 ++ um))) rfl (by kernel_rfl) (by kernel_rfl) (by kernel_rfl) (fun _ _ _ h => h) (Or.inl ⟨by rfl, ?rahy6⟩) hHeld ?rar6
            case rahy6 => (intro w hSw; (try dsimp only at hSw); go_simp; (try rfl))
            (try simp only [Act.put, List.setIfInBounds_toArray, List.set_cons_zero, List.set_cons_succ])
            refine wpAnyH_take (i := 7) (oi := ⟨some 5, _, _, _, _, _⟩) (v := ?rav7) rfl (by kernel_rfl) (by kernel_rfl) (by kernel_rfl) (fun _ _ _ h => h) (Or.inl ⟨by rfl, ?rahy7⟩) hHeld ?rar7
            case rahy7 => (intro w hSw; (try dsimp only at hSw); go_simp; (try with_reducible rfl))
            (try simp only [Act.put, List.setIfInBounds_toArray, List.set_cons_zero, List.set_cons_succ])
            refine wpAnyH_done (by kernel_rfl) ?radone _
            clear hix hiy
            go_wp2_with (first | (go_at_call 55; refine (Operands_any x.op _ o0 o1).mono ?_; rintro e wx ⟨rfl, hb⟩; rw [← HUO.out]; replace KN := KN.below hb; clear hb) | ((with_reducible refine wpList_gate ?_); first | ((refine gate_load (by rfl) ?_); first | (refine wpList_kn_loadW KN (by rfl) 35 _ rfl _ rfl _ _ (by repeat (first | exact Has.here | refine Has.there ?_)) _ Tryd.underlying35 rfl (by kernel_rfl) ?_) | (refine wpList_kn_load1 KN (by rfl) 21 _ rfl _ _ rfl _ _ (by repeat (first | exact Has.here | refine Has.there ?_)) _ (by (repeat (first | ((with_reducible refine get_hit ?_); exact Nat.le_of_ble_eq_true (by kernel_rfl)) | ((with_reducible refine (get_miss ?_).trans ?_); (focus kernel_rfl)) | ((with_reducible refine (get_pmiss ?_).trans ?_); (focus kernel_rfl)))); all_goals (conv => lhs; whnf; arg 1; whnf)) _ Tryd.underlying21 rfl ?_) | (refine wpList_kn_load1 KN (by rfl) 4 _ rfl _ _ rfl _ _ (by repeat (first | exact Has.here | refine Has.there ?_)) _ (by (repeat (first | ((with_reducible refine get_hit ?_); exact Nat.le_of_ble_eq_true (by kernel_rfl)) | ((with_reducible refine (get_miss ?_).trans ?_); (focus kernel_rfl)) | ((with_reducible refine (get_pmiss ?_).trans ?_); (focus kernel_rfl)))); all_goals (conv => lhs; whnf; arg 1; whnf)) _ Tryd.underlying4 rfl ?_) | (refine wpList_kn_load1 KN (by rfl) 3 _ rfl _ _ rfl _ _ (by repeat (first | exact Has.here | refine Has.there ?_)) _ (by (repeat (first | ((with_reducible refine get_hit ?_); exact Nat.le_of_ble_eq_true (by kernel_rfl)) | ((with_reducible refine (get_miss ?_).trans ?_); (focus kernel_rfl)) | ((with_reducible refine (get_pmiss ?_).trans ?_); (focus kernel_rfl)))); all_goals (conv => lhs; whnf; arg 1; whnf)) _ Tryd.underlying3 rfl ?_)) | ((refine gate_store (by rfl) ?_); first | (refine wpList_kn_store1 KN (by rfl) 4 _ _ rfl _ _ rfl _ (by conv => lhs; whnf) (by rfl) _ _ (by repeat (first | exact Repl.here | apply Repl.there)) (by (try simp only [Array.size_setIfInBounds, putL_size]); first | exact Nat.le_of_ble_eq_true rfl | (simp; omega)) (by kernel_rfl) (by rfl) ?_; clear KN; intro wx KN) | (refine wpList_kn_storeW KN (by rfl) 35 _ _ rfl _ rfl _ rfl _ _ (by repeat (first | exact Repl.here | apply Repl.there)) (by kernel_rfl) (by kernel_rfl) (by kernel_rfl) ?_; clear KN; intro wx KN) | (refine wpList_kn_storeA KN (by rfl) 35 _ _ rfl _ _ rfl _ rfl _ _ (by repeat (first | exact Repl.here | apply Repl.there)) (by (try simp only [Array.size_setIfInBounds, putL_size]); first | exact Nat.le_of_ble_eq_true rfl | (simp; omega)) (by kernel_rfl) (by kernel_rfl) ?_; clear KN; intro wx KN)) | ((refine gate_new (by rfl) ?_); first | (refine wpList_kn_alloc KN (by rfl) 35 rfl 7 rfl #[.int .i64 0, .int .i64 0, .int .i64 0, .int .i64 0, .int .i32 0] (by kernel_rfl) ?_; clear KN; intro g7 wx hg7 KN))))
            have HREL3 : Hid (DisR3 p n gt g7 x uo (txtK p k ++ labText p k ++ mnemOf x.op) w (.string (sv2 ++ um)) (.int .i64 0) wx) := Lib.hid ⟨0, by rw [HSV2.out, HUM.out, str_app, show opsK x 0 = [] from rfl, List.append_nil], rfl, Nat.zero_le _, KN⟩
            obtain ⟨bs, hbs⟩ : ∃ bs, bs = txtK p k ++ labText p k ++ mnemOf x.op := ⟨_, rfl⟩
            have HBL : Hid (bs.length ≤ 500030) := Lib.hid (by have h1 := HTL.out; have h2 := HLL.out; have h3 := mnemOf_len o0 o1; rw [hbs, List.length_append, List.length_append]; omega)
            rw [← hbs] at HREL3
            have HBS := Lib.hid hbs
            clear hbs KN
            go_loopw [5, 9] (fun s i wr => DisR3 p n gt g7 x uo bs w s i wr) (fun _ i _ => uo.size - (intOf i).toNat)
            case atStart => exact HREL3.out
            case round =>
              obtain ⟨j, rfl, rfl, hj, KN⟩ := hrel
              by_cases hjl : j < uo.size
              · have hul : uo.size = (operandsOf x.op).length := by rw [HUO.out, str_size]
                have HARM := Lib.hid (op_arm x HXO.out (j := j) (by rw [← hul]; exact hjl))
                have hg := Lib.hid (str_get HUO.out j hjl)
                have HK3 : Hid ((opsK x j).length ≤ 72) := Lib.hid (by have := opsK_len x HXO.out j; omega)
                obtain ⟨sv3, hsv3⟩ : ∃ s, s = str (bs ++ opsK x j) := ⟨_, rfl⟩
                have ss3 : sv3.size ≤ 500120 := by rw [hsv3, str_size, List.length_append]; have h1 := HBL.out; have h2 := HK3.out; omega
                have HSV3 := Lib.hid hsv3
                rw [← hsv3]
                clear hul hsv3
                rcases Nat.eq_zero_or_pos j with hj0 | hj0
                · have hjb : decide (0 < j) = false := by rw [decide_eq_false_iff_not]; omega
                  have hsp : opsK x (j + 1) = opsK x j ++ ([32] ++ opText ((operandsOf x.op).getD j 0) x) := by rw [hj0]; rfl
                  have HSP := Lib.hid hsp
                  clear hsp
                  go_upto_region 24 with fail
                  (try go_frame)
                  obtain ⟨sv4, hsv4⟩ : ∃ s, s = sv3 ++ ({ data := #[32] } : ByteArray) := ⟨_, rfl⟩
                  have ss4 : sv4.size ≤ 500130 := by
                    rw [hsv4]; simp only [ByteArray.size_append]
                    show sv3.size + 1 ≤ _
                    omega
                  rw [← hsv4]
                  replace hsv4 : sv4 = str (bs ++ opsK x j ++ [32]) := by
                    rw [hsv4, HSV3.out]
                    show str (bs ++ opsK x j) ++ str [32] = _
                    simp only [str_app, List.append_assoc]
                    try rfl
                  have HSV4 := Lib.hid hsv4
                  clear hsv4 hjb hj0
                  rcases HARM.out with ⟨hl, hot⟩ | ⟨hl, hot⟩ | ⟨hl, hot⟩ | ⟨hl, hi, hot⟩ | ⟨hl, hi, hot⟩ | ⟨hl, hi, hot⟩
                  · have hg2 : ((uo[j]'hjl).toNat : Int) = 97 := by rw [hg.out, hl]; rfl
                    obtain ⟨v0, v1⟩ : 0 ≤ x.a ∧ x.a ≤ 2147483648 := by have h1 := HXO.out.a; have h2 := HXO.out.b; have h3 := HXO.out.c; have h4 := HXO.out.imm; omega
                    obtain ⟨ud, hud⟩ : ∃ u, u = str (immText (x.a)) := ⟨_, rfl⟩
                    have ud1 : ud.size ≤ 21 := by rw [hud, str_size]; exact immText_len _ (by omega) (by omega)
                    have HUD := Lib.hid hud
                    have HOT := Lib.hid hot
                    clear hud hot hl
                    go_wp2_with (first | (go_at_call 53; refine (Decimal_imm (x.a) (by omega) (by omega) _).mono ?_; rintro e w' ⟨rfl, rfl⟩; rw [← HUD.out]) | ((with_reducible refine wpList_gate ?_); (refine gate_load (by rfl) ?_); (refine wpList_kn_load1 KN (by rfl) 3 _ rfl _ _ rfl _ _ (by repeat (first | exact Has.here | refine Has.there ?_)) _ (by (repeat (first | ((with_reducible refine get_hit ?_); exact Nat.le_of_ble_eq_true (by kernel_rfl)) | ((with_reducible refine (get_miss ?_).trans ?_); (focus kernel_rfl)) | ((with_reducible refine (get_pmiss ?_).trans ?_); (focus kernel_rfl)))); all_goals (conv => lhs; whnf; arg 1; whnf)) _ Tryd.underlying3 rfl ?_)))
                    go_roundw
                    case rel =>
                      refine ⟨j + 1, ?_, by go_num, by omega, KN⟩
                      rw [HSP.out, HOT.out, HSV4.out, HUD.out]
                      show Value.string (str (bs ++ opsK x j ++ [32]) ++ str [114] ++ str (immText x.a)) = _
                      simp only [str_app, List.append_assoc]
                    case measure => simp [intOf]; omega
                  · have hg2 : ((uo[j]'hjl).toNat : Int) = 98 := by rw [hg.out, hl]; rfl
                    obtain ⟨v0, v1⟩ : 0 ≤ x.b ∧ x.b ≤ 2147483648 := by have h1 := HXO.out.a; have h2 := HXO.out.b; have h3 := HXO.out.c; have h4 := HXO.out.imm; omega
                    obtain ⟨ud, hud⟩ : ∃ u, u = str (immText (x.b)) := ⟨_, rfl⟩
                    have ud1 : ud.size ≤ 21 := by rw [hud, str_size]; exact immText_len _ (by omega) (by omega)
                    have HUD := Lib.hid hud
                    have HOT := Lib.hid hot
                    clear hud hot hl
                    go_wp2_with (first | (go_at_call 53; refine (Decimal_imm (x.b) (by omega) (by omega) _).mono ?_; rintro e w' ⟨rfl, rfl⟩; rw [← HUD.out]) | ((with_reducible refine wpList_gate ?_); (refine gate_load (by rfl) ?_); (refine wpList_kn_load1 KN (by rfl) 3 _ rfl _ _ rfl _ _ (by repeat (first | exact Has.here | refine Has.there ?_)) _ (by (repeat (first | ((with_reducible refine get_hit ?_); exact Nat.le_of_ble_eq_true (by kernel_rfl)) | ((with_reducible refine (get_miss ?_).trans ?_); (focus kernel_rfl)) | ((with_reducible refine (get_pmiss ?_).trans ?_); (focus kernel_rfl)))); all_goals (conv => lhs; whnf; arg 1; whnf)) _ Tryd.underlying3 rfl ?_)))
                    go_roundw
                    case rel =>
                      refine ⟨j + 1, ?_, by go_num, by omega, KN⟩
                      rw [HSP.out, HOT.out, HSV4.out, HUD.out]
                      show Value.string (str (bs ++ opsK x j ++ [32]) ++ str [114] ++ str (immText x.b)) = _
                      simp only [str_app, List.append_assoc]
                    case measure => simp [intOf]; omega
                  · have hg2 : ((uo[j]'hjl).toNat : Int) = 99 := by rw [hg.out, hl]; rfl
                    obtain ⟨v0, v1⟩ : 0 ≤ x.c ∧ x.c ≤ 2147483648 := by have h1 := HXO.out.a; have h2 := HXO.out.b; have h3 := HXO.out.c; have h4 := HXO.out.imm; omega
                    obtain ⟨ud, hud⟩ : ∃ u, u = str (immText (x.c)) := ⟨_, rfl⟩
                    have ud1 : ud.size ≤ 21 := by rw [hud, str_size]; exact immText_len _ (by omega) (by omega)
                    have HUD := Lib.hid hud
                    have HOT := Lib.hid hot
                    clear hud hot hl
                    go_wp2_with (first | (go_at_call 53; refine (Decimal_imm (x.c) (by omega) (by omega) _).mono ?_; rintro e w' ⟨rfl, rfl⟩; rw [← HUD.out]) | ((with_reducible refine wpList_gate ?_); (refine gate_load (by rfl) ?_); (refine wpList_kn_load1 KN (by rfl) 3 _ rfl _ _ rfl _ _ (by repeat (first | exact Has.here | refine Has.there ?_)) _ (by (repeat (first | ((with_reducible refine get_hit ?_); exact Nat.le_of_ble_eq_true (by kernel_rfl)) | ((with_reducible refine (get_miss ?_).trans ?_); (focus kernel_rfl)) | ((with_reducible refine (get_pmiss ?_).trans ?_); (focus kernel_rfl)))); all_goals (conv => lhs; whnf; arg 1; whnf)) _ Tryd.underlying3 rfl ?_)))
                    go_roundw
                    case rel =>
                      refine ⟨j + 1, ?_, by go_num, by omega, KN⟩
                      rw [HSP.out, HOT.out, HSV4.out, HUD.out]
                      show Value.string (str (bs ++ opsK x j ++ [32]) ++ str [114] ++ str (immText x.c)) = _
                      simp only [str_app, List.append_assoc]
                    case measure => simp [intOf]; omega
                  · have hg2 : ((uo[j]'hjl).toNat : Int) = 105 := by rw [hg.out, hl]; rfl
                    obtain ⟨v0, v1⟩ : 0 ≤ x.imm ∧ x.imm ≤ 2147483648 := by have h1 := HXO.out.a; have h2 := HXO.out.b; have h3 := HXO.out.c; have h4 := HXO.out.imm; omega
                    obtain ⟨ud, hud⟩ : ∃ u, u = str (immText (x.imm)) := ⟨_, rfl⟩
                    have ud1 : ud.size ≤ 21 := by rw [hud, str_size]; exact immText_len _ (by omega) (by omega)
                    have HUD := Lib.hid hud
                    have HOT := Lib.hid hot
                    clear hud hot hl
                    go_wp2_with (first | (go_at_call 53; refine (Decimal_imm (x.imm) (by omega) (by omega) _).mono ?_; rintro e w' ⟨rfl, rfl⟩; rw [← HUD.out]) | ((with_reducible refine wpList_gate ?_); (refine gate_load (by rfl) ?_); (refine wpList_kn_load1 KN (by rfl) 21 _ rfl _ _ rfl _ _ (by repeat (first | exact Has.here | refine Has.there ?_)) _ (by (repeat (first | ((with_reducible refine get_hit ?_); exact Nat.le_of_ble_eq_true (by kernel_rfl)) | ((with_reducible refine (get_miss ?_).trans ?_); (focus kernel_rfl)) | ((with_reducible refine (get_pmiss ?_).trans ?_); (focus kernel_rfl)))); all_goals (conv => lhs; whnf; arg 1; whnf)) _ Tryd.underlying21 rfl ?_)))
                    go_roundw
                    case rel =>
                      refine ⟨j + 1, ?_, by go_num, by omega, KN⟩
                      rw [HSP.out, HOT.out, HSV4.out, HUD.out]
                      show Value.string (str (bs ++ opsK x j ++ [32]) ++ str (immText x.imm)) = _
                      simp only [str_app, List.append_assoc]
                    case measure => simp [intOf]; omega
                  · have hg2 : ((uo[j]'hjl).toNat : Int) = 105 := by rw [hg.out, hl]; rfl
                    obtain ⟨v0, v1⟩ : 0 ≤ (-x.imm) ∧ (-x.imm) ≤ 2147483648 := by have h1 := HXO.out.a; have h2 := HXO.out.b; have h3 := HXO.out.c; have h4 := HXO.out.imm; omega
                    obtain ⟨ud, hud⟩ : ∃ u, u = str (immText ((-x.imm))) := ⟨_, rfl⟩
                    have ud1 : ud.size ≤ 21 := by rw [hud, str_size]; exact immText_len _ (by omega) (by omega)
                    have HUD := Lib.hid hud
                    have HOT := Lib.hid hot
                    clear hud hot hl
                    go_wp2_with (first | (go_at_call 53; refine (Decimal_imm ((-x.imm)) (by omega) (by omega) _).mono ?_; rintro e w' ⟨rfl, rfl⟩; rw [← HUD.out]) | ((with_reducible refine wpList_gate ?_); (refine gate_load (by rfl) ?_); (refine wpList_kn_load1 KN (by rfl) 21 _ rfl _ _ rfl _ _ (by repeat (first | exact Has.here | refine Has.there ?_)) _ (by (repeat (first | ((with_reducible refine get_hit ?_); exact Nat.le_of_ble_eq_true (by kernel_rfl)) | ((with_reducible refine (get_miss ?_).trans ?_); (focus kernel_rfl)) | ((with_reducible refine (get_pmiss ?_).trans ?_); (focus kernel_rfl)))); all_goals (conv => lhs; whnf; arg 1; whnf)) _ Tryd.underlying21 rfl ?_)))
                    go_roundw
                    case rel =>
                      refine ⟨j + 1, ?_, by go_num, by omega, KN⟩
                      rw [HSP.out, HOT.out, HSV4.out, HUD.out]
                      show Value.string (str (bs ++ opsK x j ++ [32]) ++ str [45] ++ str (immText (-x.imm))) = _
                      simp only [str_app, List.append_assoc]
                    case measure => simp [intOf]; omega
                  · have hg2 : ((uo[j]'hjl).toNat : Int) = 116 := by rw [hg.out, hl]; rfl
                    obtain ⟨v0, v1⟩ : 0 ≤ x.imm ∧ x.imm ≤ 2147483648 := by have h1 := HXO.out.a; have h2 := HXO.out.b; have h3 := HXO.out.c; have h4 := HXO.out.imm; omega
                    obtain ⟨ud, hud⟩ : ∃ u, u = str (immText (x.imm)) := ⟨_, rfl⟩
                    have ud1 : ud.size ≤ 21 := by rw [hud, str_size]; exact immText_len _ (by omega) (by omega)
                    have HUD := Lib.hid hud
                    have HOT := Lib.hid hot
                    clear hud hot hl
                    go_wp2_with (first | (go_at_call 53; refine (Decimal_imm (x.imm) (by omega) (by omega) _).mono ?_; rintro e w' ⟨rfl, rfl⟩; rw [← HUD.out]) | ((with_reducible refine wpList_gate ?_); (refine gate_load (by rfl) ?_); (refine wpList_kn_load1 KN (by rfl) 21 _ rfl _ _ rfl _ _ (by repeat (first | exact Has.here | refine Has.there ?_)) _ (by (repeat (first | ((with_reducible refine get_hit ?_); exact Nat.le_of_ble_eq_true (by kernel_rfl)) | ((with_reducible refine (get_miss ?_).trans ?_); (focus kernel_rfl)) | ((with_reducible refine (get_pmiss ?_).trans ?_); (focus kernel_rfl)))); all_goals (conv => lhs; whnf; arg 1; whnf)) _ Tryd.underlying21 rfl ?_)))
                    go_roundw
                    case rel =>
                      refine ⟨j + 1, ?_, by go_num, by omega, KN⟩
                      rw [HSP.out, HOT.out, HSV4.out, HUD.out]
                      show Value.string (str (bs ++ opsK x j ++ [32]) ++ str [76] ++ str (immText x.imm)) = _
                      simp only [str_app, List.append_assoc]
                    case measure => simp [intOf]; omega
                · have hjb : decide (0 < j) = true := by rw [decide_eq_true_eq]; omega
                  have hsp : opsK x (j + 1) = opsK x j ++ ([44, 32] ++ opText ((operandsOf x.op).getD j 0) x) := by rw [opsK]; rw [if_neg (show ¬ j = 0 by omega)]
                  have HSP := Lib.hid hsp
                  clear hsp
                  go_upto_region 24 with fail
                  (try go_frame)
                  obtain ⟨sv4, hsv4⟩ : ∃ s, s = sv3 ++ ({ data := #[44] } : ByteArray) ++ ({ data := #[32] } : ByteArray) := ⟨_, rfl⟩
                  have ss4 : sv4.size ≤ 500130 := by
                    rw [hsv4]; simp only [ByteArray.size_append]
                    show sv3.size + (1+1) ≤ _
                    omega
                  rw [← hsv4]
                  replace hsv4 : sv4 = str (bs ++ opsK x j ++ [44, 32]) := by
                    rw [hsv4, HSV3.out]
                    show str (bs ++ opsK x j) ++ str [44] ++ str [32] = _
                    simp only [str_app, List.append_assoc]
                    try rfl
                  have HSV4 := Lib.hid hsv4
                  clear hsv4 hjb hj0
                  rcases HARM.out with ⟨hl, hot⟩ | ⟨hl, hot⟩ | ⟨hl, hot⟩ | ⟨hl, hi, hot⟩ | ⟨hl, hi, hot⟩ | ⟨hl, hi, hot⟩
                  · have hg2 : ((uo[j]'hjl).toNat : Int) = 97 := by rw [hg.out, hl]; rfl
                    obtain ⟨v0, v1⟩ : 0 ≤ x.a ∧ x.a ≤ 2147483648 := by have h1 := HXO.out.a; have h2 := HXO.out.b; have h3 := HXO.out.c; have h4 := HXO.out.imm; omega
                    obtain ⟨ud, hud⟩ : ∃ u, u = str (immText (x.a)) := ⟨_, rfl⟩
                    have ud1 : ud.size ≤ 21 := by rw [hud, str_size]; exact immText_len _ (by omega) (by omega)
                    have HUD := Lib.hid hud
                    have HOT := Lib.hid hot
                    clear hud hot hl
                    go_wp2_with (first | (go_at_call 53; refine (Decimal_imm (x.a) (by omega) (by omega) _).mono ?_; rintro e w' ⟨rfl, rfl⟩; rw [← HUD.out]) | ((with_reducible refine wpList_gate ?_); (refine gate_load (by rfl) ?_); (refine wpList_kn_load1 KN (by rfl) 3 _ rfl _ _ rfl _ _ (by repeat (first | exact Has.here | refine Has.there ?_)) _ (by (repeat (first | ((with_reducible refine get_hit ?_); exact Nat.le_of_ble_eq_true (by kernel_rfl)) | ((with_reducible refine (get_miss ?_).trans ?_); (focus kernel_rfl)) | ((with_reducible refine (get_pmiss ?_).trans ?_); (focus kernel_rfl)))); all_goals (conv => lhs; whnf; arg 1; whnf)) _ Tryd.underlying3 rfl ?_)))
                    go_roundw
                    case rel =>
                      refine ⟨j + 1, ?_, by go_num, by omega, KN⟩
                      rw [HSP.out, HOT.out, HSV4.out, HUD.out]
                      show Value.string (str (bs ++ opsK x j ++ [44, 32]) ++ str [114] ++ str (immText x.a)) = _
                      simp only [str_app, List.append_assoc]
                    case measure => simp [intOf]; omega
                  · have hg2 : ((uo[j]'hjl).toNat : Int) = 98 := by rw [hg.out, hl]; rfl
                    obtain ⟨v0, v1⟩ : 0 ≤ x.b ∧ x.b ≤ 2147483648 := by have h1 := HXO.out.a; have h2 := HXO.out.b; have h3 := HXO.out.c; have h4 := HXO.out.imm; omega
                    obtain ⟨ud, hud⟩ : ∃ u, u = str (immText (x.b)) := ⟨_, rfl⟩
                    have ud1 : ud.size ≤ 21 := by rw [hud, str_size]; exact immText_len _ (by omega) (by omega)
                    have HUD := Lib.hid hud
                    have HOT := Lib.hid hot
                    clear hud hot hl
                    go_wp2_with (first | (go_at_call 53; refine (Decimal_imm (x.b) (by omega) (by omega) _).mono ?_; rintro e w' ⟨rfl, rfl⟩; rw [← HUD.out]) | ((with_reducible refine wpList_gate ?_); (refine gate_load (by rfl) ?_); (refine wpList_kn_load1 KN (by rfl) 3 _ rfl _ _ rfl _ _ (by repeat (first | exact Has.here | refine Has.there ?_)) _ (by (repeat (first | ((with_reducible refine get_hit ?_); exact Nat.le_of_ble_eq_true (by kernel_rfl)) | ((with_reducible refine (get_miss ?_).trans ?_); (focus kernel_rfl)) | ((with_reducible refine (get_pmiss ?_).trans ?_); (focus kernel_rfl)))); all_goals (conv => lhs; whnf; arg 1; whnf)) _ Tryd.underlying3 rfl ?_)))
                    go_roundw
                    case rel =>
                      refine ⟨j + 1, ?_, by go_num, by omega, KN⟩
                      rw [HSP.out, HOT.out, HSV4.out, HUD.out]
                      show Value.string (str (bs ++ opsK x j ++ [44, 32]) ++ str [114] ++ str (immText x.b)) = _
                      simp only [str_app, List.append_assoc]
                    case measure => simp [intOf]; omega
                  · have hg2 : ((uo[j]'hjl).toNat : Int) = 99 := by rw [hg.out, hl]; rfl
                    obtain ⟨v0, v1⟩ : 0 ≤ x.c ∧ x.c ≤ 2147483648 := by have h1 := HXO.out.a; have h2 := HXO.out.b; have h3 := HXO.out.c; have h4 := HXO.out.imm; omega
                    obtain ⟨ud, hud⟩ : ∃ u, u = str (immText (x.c)) := ⟨_, rfl⟩
                    have ud1 : ud.size ≤ 21 := by rw [hud, str_size]; exact immText_len _ (by omega) (by omega)
                    have HUD := Lib.hid hud
                    have HOT := Lib.hid hot
                    clear hud hot hl
                    go_wp2_with (first | (go_at_call 53; refine (Decimal_imm (x.c) (by omega) (by omega) _).mono ?_; rintro e w' ⟨rfl, rfl⟩; rw [← HUD.out]) | ((with_reducible refine wpList_gate ?_); (refine gate_load (by rfl) ?_); (refine wpList_kn_load1 KN (by rfl) 3 _ rfl _ _ rfl _ _ (by repeat (first | exact Has.here | refine Has.there ?_)) _ (by (repeat (first | ((with_reducible refine get_hit ?_); exact Nat.le_of_ble_eq_true (by kernel_rfl)) | ((with_reducible refine (get_miss ?_).trans ?_); (focus kernel_rfl)) | ((with_reducible refine (get_pmiss ?_).trans ?_); (focus kernel_rfl)))); all_goals (conv => lhs; whnf; arg 1; whnf)) _ Tryd.underlying3 rfl ?_)))
                    go_roundw
                    case rel =>
                      refine ⟨j + 1, ?_, by go_num, by omega, KN⟩
                      rw [HSP.out, HOT.out, HSV4.out, HUD.out]
                      show Value.string (str (bs ++ opsK x j ++ [44, 32]) ++ str [114] ++ str (immText x.c)) = _
                      simp only [str_app, List.append_assoc]
                    case measure => simp [intOf]; omega
                  · have hg2 : ((uo[j]'hjl).toNat : Int) = 105 := by rw [hg.out, hl]; rfl
                    obtain ⟨v0, v1⟩ : 0 ≤ x.imm ∧ x.imm ≤ 2147483648 := by have h1 := HXO.out.a; have h2 := HXO.out.b; have h3 := HXO.out.c; have h4 := HXO.out.imm; omega
                    obtain ⟨ud, hud⟩ : ∃ u, u = str (immText (x.imm)) := ⟨_, rfl⟩
                    have ud1 : ud.size ≤ 21 := by rw [hud, str_size]; exact immText_len _ (by omega) (by omega)
                    have HUD := Lib.hid hud
                    have HOT := Lib.hid hot
                    clear hud hot hl
                    go_wp2_with (first | (go_at_call 53; refine (Decimal_imm (x.imm) (by omega) (by omega) _).mono ?_; rintro e w' ⟨rfl, rfl⟩; rw [← HUD.out]) | ((with_reducible refine wpList_gate ?_); (refine gate_load (by rfl) ?_); (refine wpList_kn_load1 KN (by rfl) 21 _ rfl _ _ rfl _ _ (by repeat (first | exact Has.here | refine Has.there ?_)) _ (by (repeat (first | ((with_reducible refine get_hit ?_); exact Nat.le_of_ble_eq_true (by kernel_rfl)) | ((with_reducible refine (get_miss ?_).trans ?_); (focus kernel_rfl)) | ((with_reducible refine (get_pmiss ?_).trans ?_); (focus kernel_rfl)))); all_goals (conv => lhs; whnf; arg 1; whnf)) _ Tryd.underlying21 rfl ?_)))
                    go_roundw
                    case rel =>
                      refine ⟨j + 1, ?_, by go_num, by omega, KN⟩
                      rw [HSP.out, HOT.out, HSV4.out, HUD.out]
                      show Value.string (str (bs ++ opsK x j ++ [44, 32]) ++ str (immText x.imm)) = _
                      simp only [str_app, List.append_assoc]
                    case measure => simp [intOf]; omega
                  · have hg2 : ((uo[j]'hjl).toNat : Int) = 105 := by rw [hg.out, hl]; rfl
                    obtain ⟨v0, v1⟩ : 0 ≤ (-x.imm) ∧ (-x.imm) ≤ 2147483648 := by have h1 := HXO.out.a; have h2 := HXO.out.b; have h3 := HXO.out.c; have h4 := HXO.out.imm; omega
                    obtain ⟨ud, hud⟩ : ∃ u, u = str (immText ((-x.imm))) := ⟨_, rfl⟩
                    have ud1 : ud.size ≤ 21 := by rw [hud, str_size]; exact immText_len _ (by omega) (by omega)
                    have HUD := Lib.hid hud
                    have HOT := Lib.hid hot
                    clear hud hot hl
                    go_wp2_with (first | (go_at_call 53; refine (Decimal_imm ((-x.imm)) (by omega) (by omega) _).mono ?_; rintro e w' ⟨rfl, rfl⟩; rw [← HUD.out]) | ((with_reducible refine wpList_gate ?_); (refine gate_load (by rfl) ?_); (refine wpList_kn_load1 KN (by rfl) 21 _ rfl _ _ rfl _ _ (by repeat (first | exact Has.here | refine Has.there ?_)) _ (by (repeat (first | ((with_reducible refine get_hit ?_); exact Nat.le_of_ble_eq_true (by kernel_rfl)) | ((with_reducible refine (get_miss ?_).trans ?_); (focus kernel_rfl)) | ((with_reducible refine (get_pmiss ?_).trans ?_); (focus kernel_rfl)))); all_goals (conv => lhs; whnf; arg 1; whnf)) _ Tryd.underlying21 rfl ?_)))
                    go_roundw
                    case rel =>
                      refine ⟨j + 1, ?_, by go_num, by omega, KN⟩
                      rw [HSP.out, HOT.out, HSV4.out, HUD.out]
                      show Value.string (str (bs ++ opsK x j ++ [44, 32]) ++ str [45] ++ str (immText (-x.imm))) = _
                      simp only [str_app, List.append_assoc]
                    case measure => simp [intOf]; omega
                  · have hg2 : ((uo[j]'hjl).toNat : Int) = 116 := by rw [hg.out, hl]; rfl
                    obtain ⟨v0, v1⟩ : 0 ≤ x.imm ∧ x.imm ≤ 2147483648 := by have h1 := HXO.out.a; have h2 := HXO.out.b; have h3 := HXO.out.c; have h4 := HXO.out.imm; omega
                    obtain ⟨ud, hud⟩ : ∃ u, u = str (immText (x.imm)) := ⟨_, rfl⟩
                    have ud1 : ud.size ≤ 21 := by rw [hud, str_size]; exact immText_len _ (by omega) (by omega)
                    have HUD := Lib.hid hud
                    have HOT := Lib.hid hot
                    clear hud hot hl
                    go_wp2_with (first | (go_at_call 53; refine (Decimal_imm (x.imm) (by omega) (by omega) _).mono ?_; rintro e w' ⟨rfl, rfl⟩; rw [← HUD.out]) | ((with_reducible refine wpList_gate ?_); (refine gate_load (by rfl) ?_); (refine wpList_kn_load1 KN (by rfl) 21 _ rfl _ _ rfl _ _ (by repeat (first | exact Has.here | refine Has.there ?_)) _ (by (repeat (first | ((with_reducible refine get_hit ?_); exact Nat.le_of_ble_eq_true (by kernel_rfl)) | ((with_reducible refine (get_miss ?_).trans ?_); (focus kernel_rfl)) | ((with_reducible refine (get_pmiss ?_).trans ?_); (focus kernel_rfl)))); all_goals (conv => lhs; whnf; arg 1; whnf)) _ Tryd.underlying21 rfl ?_)))
                    go_roundw
                    case rel =>
                      refine ⟨j + 1, ?_, by go_num, by omega, KN⟩
                      rw [HSP.out, HOT.out, HSV4.out, HUD.out]
                      show Value.string (str (bs ++ opsK x j ++ [44, 32]) ++ str [76] ++ str (immText x.imm)) = _
                      simp only [str_app, List.append_assoc]
                    case measure => simp [intOf]; omega
              · have hjn : opsK x j = opsText x true (operandsOf x.op) := by rw [← opsK_all x o0 o1, show j = (operandsOf x.op).length by rw [← str_size, ← HUO.out]; omega]
                have HK3 : Hid ((opsK x j).length ≤ 72) := Lib.hid (by have h1 := opsK_len x HXO.out j; omega)
                obtain ⟨sv3, hsv3⟩ : ∃ s, s = str (bs ++ opsK x j) := ⟨_, rfl⟩
                have ss3 : sv3.size ≤ 500120 := by rw [hsv3, str_size, List.length_append]; have h1 := HBL.out; have h2 := HK3.out; omega
                rw [← hsv3]
                rw [hjn, HBS.out] at hsv3
                have HSV3 := Lib.hid hsv3
                clear hjn hsv3
                go_wp2_with fail
                go_roundw
                case rel =>
                  refine ⟨k + 1, ?_, by go_num, by omega, KN.drop .here⟩
                  rw [HSV3.out, txtK_succ HX.out]
                  unfold insText
                  show Value.string (str (txtK p k ++ labText p k ++ mnemOf x.op ++ opsText x true (operandsOf x.op)) ++ str [59, 10]) = _
                  simp only [str_app, List.append_assoc]
                case measure => simp [intOf]; omega
          · have ct2 : wx.cell? ⟨gt, k, none⟩ = some (.bool false) := ct.trans (congrArg (fun b => some (Value.bool b)) ht)
            have hlab : labText p k = [] := by unfold labText; rw [if_neg (by rw [ht]; decide)]
            clear ht ct
            go_upto_region 16 with (first | ((with_reducible refine wpList_gate ?_); first | ((refine gate_load (by rfl) ?_); first | (refine wpList_kn_loadW KN (by rfl) 35 _ rfl _ rfl _ _ (by repeat (first | exact Has.here | refine Has.there ?_)) _ Tryd.underlying35 rfl (by kernel_rfl) ?_) | (refine wpList_kn_load1 KN (by rfl) 21 _ rfl _ _ rfl _ _ (by repeat (first | exact Has.here | refine Has.there ?_)) _ (by (repeat (first | ((with_reducible refine get_hit ?_); exact Nat.le_of_ble_eq_true (by kernel_rfl)) | ((with_reducible refine (get_miss ?_).trans ?_); (focus kernel_rfl)) | ((with_reducible refine (get_pmiss ?_).trans ?_); (focus kernel_rfl)))); all_goals (conv => lhs; whnf; arg 1; whnf)) _ Tryd.underlying21 rfl ?_) | (refine wpList_kn_load1 KN (by rfl) 4 _ rfl _ _ rfl _ _ (by repeat (first | exact Has.here | refine Has.there ?_)) _ (by (repeat (first | ((with_reducible refine get_hit ?_); exact Nat.le_of_ble_eq_true (by kernel_rfl)) | ((with_reducible refine (get_miss ?_).trans ?_); (focus kernel_rfl)) | ((with_reducible refine (get_pmiss ?_).trans ?_); (focus kernel_rfl)))); all_goals (conv => lhs; whnf; arg 1; whnf)) _ Tryd.underlying4 rfl ?_) | (refine wpList_kn_load1 KN (by rfl) 3 _ rfl _ _ rfl _ _ (by repeat (first | exact Has.here | refine Has.there ?_)) _ (by (repeat (first | ((with_reducible refine get_hit ?_); exact Nat.le_of_ble_eq_true (by kernel_rfl)) | ((with_reducible refine (get_miss ?_).trans ?_); (focus kernel_rfl)) | ((with_reducible refine (get_pmiss ?_).trans ?_); (focus kernel_rfl)))); all_goals (conv => lhs; whnf; arg 1; whnf)) _ Tryd.underlying3 rfl ?_)) | ((refine gate_store (by rfl) ?_); first | (refine wpList_kn_store1 KN (by rfl) 4 _ _ rfl _ _ rfl _ (by conv => lhs; whnf) (by rfl) _ _ (by repeat (first | exact Repl.here | apply Repl.there)) (by (try simp only [Array.size_setIfInBounds, putL_size]); first | exact Nat.le_of_ble_eq_true rfl | (simp; omega)) (by kernel_rfl) (by rfl) ?_; clear KN; intro wx KN) | (refine wpList_kn_storeW KN (by rfl) 35 _ _ rfl _ rfl _ rfl _ _ (by repeat (first | exact Repl.here | apply Repl.there)) (by kernel_rfl) (by kernel_rfl) (by kernel_rfl) ?_; clear KN; intro wx KN) | (refine wpList_kn_storeA KN (by rfl) 35 _ _ rfl _ _ rfl _ rfl _ _ (by repeat (first | exact Repl.here | apply Repl.there)) (by (try simp only [Array.size_setIfInBounds, putL_size]); first | exact Nat.le_of_ble_eq_true rfl | (simp; omega)) (by kernel_rfl) (by kernel_rfl) ?_; clear KN; intro wx KN)) | ((refine gate_new (by rfl) ?_); first | (refine wpList_kn_alloc KN (by rfl) 35 rfl 7 rfl #[.int .i64 0, .int .i64 0, .int .i64 0, .int .i64 0, .int .i32 0] (by kernel_rfl) ?_; clear KN; intro g7 wx hg7 KN))))
            obtain ⟨sv2, hsv2⟩ : ∃ s, s = sv := ⟨_, rfl⟩
            have ss2 : sv2.size ≤ 500030 := by rw [hsv2]; omega
            (try go_frame)
            rw [← hsv2]
            replace hsv2 : sv2 = str (txtK p k ++ labText p k) := by rw [hsv2, HSV.out, hlab, List.append_nil]
            clear hlab ct2
            have HSV2 := Lib.hid hsv2
            clear hsv2
            (try go_frame)
            obtain ⟨um, hum⟩ : ∃ u, u = str (mnemOf x.op) := ⟨_, rfl⟩
            obtain ⟨uo, huo⟩ : ∃ u, u = str (operandsOf x.op) := ⟨_, rfl⟩
            have sm : um.size ≤ 5 := by rw [hum, str_size]; exact mnemOf_len o0 o1
            have so : uo.size ≤ 3 := by rw [huo, str_size]; exact operands_len x.op o0 o1
            obtain ⟨fa, hfa⟩ : ∃ fa, fa = fmtA := ⟨_, rfl⟩
            have hix : ∀ w, Sem.run Tryd.prog (Instr.index 116 (.agg fa) (.int .i64 x.op)) w = .ok (.agg #[.string um, .string uo]) w := fun w => by rw [hfa, hum, huo]; exact index_any x.op o0 o1 w
            have hiy : ∀ w, Sem.run Tryd.prog (Instr.index 115 (.agg #[.string um, .string uo]) (.int .i64 0)) w = .ok (.string um) w := fun w => index0_any um uo w
            have HFA := Lib.hid hfa
            have HUM := Lib.hid hum
            have HUO := Lib.hid huo
            clear hfa hum huo
            have hsum : sv2.size + um.size ≤ 9223372036854775807 := by omega
            replace KN := KN.drew
            refine wp_region_held_drew (S := (fun w' => BlkT w' g7 x.cells 35)) (by kernel_rfl) ?rbhS (fun hHeld => ?rbrest)
            case rbhS => exact KN.at_ (by repeat (first | exact Has.here | refine Has.there ?_))
            refine wpAnyH_take (i := 0) (oi := ⟨some 55, _, _, _, _, _⟩) (v := ?rbv0) rfl (by kernel_rfl) (by kernel_rfl) (by kernel_rfl) (fun _ _ _ h => h) (Or.inl ⟨by rfl, ?rbhy0⟩) hHeld ?rbr0
            case rbhy0 => (intro w hSw; (try dsimp only at hSw); go_simp; (try with_reducible rfl))
            (try simp only [Act.put, List.setIfInBounds_toArray, List.set_cons_zero, List.set_cons_succ])
            refine wpAnyH_take (i := 2) (oi := ⟨some 57, _, _, _, _, _⟩) (v := ?rbv2) rfl (by kernel_rfl) (by kernel_rfl) (by kernel_rfl) (fun _ _ _ h => h) (Or.inl ⟨by rfl, ?rbhy2⟩) hHeld ?rbr2
            case rbhy2 => (intro w hSw; (try dsimp only at hSw); go_simp; (try with_reducible rfl))
            (try simp only [Act.put, List.setIfInBounds_toArray, List.set_cons_zero, List.set_cons_succ])
            refine wpAnyH_take (i := 3) (oi := ⟨some 58, _, _, _, _, _⟩) (v := (.int .i64 x.op)) rfl (by kernel_rfl) (by kernel_rfl) (by kernel_rfl) (fun _ _ _ h => h) (kn_yields1 (by rfl) 3 _ rfl g7 0 rfl _ 35 (fun _ h => h) _ rfl _ Tryd.underlying3 rfl) hHeld ?rbr3
            (try simp only [Act.put, List.setIfInBounds_toArray, List.set_cons_zero, List.set_cons_succ])
            refine wpAnyH_ready (rs := [1]) (by kernel_rfl) (by simp) ?rbc1
            refine AllReadyH.cons (o := ⟨some 56, _, _, _, _, _⟩) rfl (fun K hK => ?rbst1) AllReadyH.nil
            go_simp
            (refine (table_any _).mono ?_; rintro e wx ⟨rfl, hb⟩; rw [← HFA.out]; replace KN := KN.below hb; clear hb)
            refine hK.out _ _ ?rbk1 (fun hHeld2 => ?rbm1)
            case rbk1 => exact KN.at_ (by repeat (first | exact Has.here | refine Has.there ?_))
            clear hK K hHeld
            have hHeld := hHeld2; clear hHeld2
            (try simp only [Act.put, List.setIfInBounds_toArray, List.set_cons_zero, List.set_cons_succ])
            refine wpAnyH_take (i := 4) (oi := ⟨some 59, _, _, _, _, _⟩) (v := (.agg #[.string um, .string uo])) rfl (by kernel_rfl) (by kernel_rfl) (by kernel_rfl) (fun _ _ _ h => h) (Or.inl ⟨by rfl, ?rbhy4⟩) hHeld ?rbr4
            case rbhy4 => (intro w hSw; (try dsimp only at hSw); go_simp; (try rfl))
            (try simp only [Act.put, List.setIfInBounds_toArray, List.set_cons_zero, List.set_cons_succ])
            refine wpAnyH_take (i := 5) (oi := ⟨some 60, _, _, _, _, _⟩) (v := (.string um)) rfl (by kernel_rfl) (by kernel_rfl) (by kernel_rfl) (fun _ _ _ h => h) (Or.inl ⟨by rfl, ?rbhy5⟩) hHeld ?rbr5
            case rbhy5 => (intro w hSw; (try dsimp only at hSw); go_simp; (try rfl))
            (try simp only [Act.put, List.setIfInBounds_toArray, List.set_cons_zero, List.set_cons_succ])
            refine wpAnyH_take (i := 6) (oi := ⟨some 61, _, _, _, _, _⟩) (v := (.string (sv2 ++ um))) rfl (by kernel_rfl) (by kernel_rfl) (by kernel_rfl) (fun _ _ _ h => h) (Or.inl ⟨by rfl, ?rbhy6⟩) hHeld ?rbr6
            case rbhy6 => (intro w hSw; (try dsimp only at hSw); go_simp; (try rfl))
            (try simp only [Act.put, List.setIfInBounds_toArray, List.set_cons_zero, List.set_cons_succ])
            refine wpAnyH_take (i := 7) (oi := ⟨some 5, _, _, _, _, _⟩) (v := ?rbv7) rfl (by kernel_rfl) (by kernel_rfl) (by kernel_rfl) (fun _ _ _ h => h) (Or.inl ⟨by rfl, ?rbhy7⟩) hHeld ?rbr7
            case rbhy7 => (intro w hSw; (try dsimp only at hSw); go_simp; (try with_reducible rfl))
            (try simp only [Act.put, List.setIfInBounds_toArray, List.set_cons_zero, List.set_cons_succ])
            refine wpAnyH_done (by kernel_rfl) ?rbdone _
            clear hix hiy
            go_wp2_with (first | (go_at_call 55; refine (Operands_any x.op _ o0 o1).mono ?_; rintro e wx ⟨rfl, hb⟩; rw [← HUO.out]; replace KN := KN.below hb; clear hb) | ((with_reducible refine wpList_gate ?_); first | ((refine gate_load (by rfl) ?_); first | (refine wpList_kn_loadW KN (by rfl) 35 _ rfl _ rfl _ _ (by repeat (first | exact Has.here | refine Has.there ?_)) _ Tryd.underlying35 rfl (by kernel_rfl) ?_) | (refine wpList_kn_load1 KN (by rfl) 21 _ rfl _ _ rfl _ _ (by repeat (first | exact Has.here | refine Has.there ?_)) _ (by (repeat (first | ((with_reducible refine get_hit ?_); exact Nat.le_of_ble_eq_true (by kernel_rfl)) | ((with_reducible refine (get_miss ?_).trans ?_); (focus kernel_rfl)) | ((with_reducible refine (get_pmiss ?_).trans ?_); (focus kernel_rfl)))); all_goals (conv => lhs; whnf; arg 1; whnf)) _ Tryd.underlying21 rfl ?_) | (refine wpList_kn_load1 KN (by rfl) 4 _ rfl _ _ rfl _ _ (by repeat (first | exact Has.here | refine Has.there ?_)) _ (by (repeat (first | ((with_reducible refine get_hit ?_); exact Nat.le_of_ble_eq_true (by kernel_rfl)) | ((with_reducible refine (get_miss ?_).trans ?_); (focus kernel_rfl)) | ((with_reducible refine (get_pmiss ?_).trans ?_); (focus kernel_rfl)))); all_goals (conv => lhs; whnf; arg 1; whnf)) _ Tryd.underlying4 rfl ?_) | (refine wpList_kn_load1 KN (by rfl) 3 _ rfl _ _ rfl _ _ (by repeat (first | exact Has.here | refine Has.there ?_)) _ (by (repeat (first | ((with_reducible refine get_hit ?_); exact Nat.le_of_ble_eq_true (by kernel_rfl)) | ((with_reducible refine (get_miss ?_).trans ?_); (focus kernel_rfl)) | ((with_reducible refine (get_pmiss ?_).trans ?_); (focus kernel_rfl)))); all_goals (conv => lhs; whnf; arg 1; whnf)) _ Tryd.underlying3 rfl ?_)) | ((refine gate_store (by rfl) ?_); first | (refine wpList_kn_store1 KN (by rfl) 4 _ _ rfl _ _ rfl _ (by conv => lhs; whnf) (by rfl) _ _ (by repeat (first | exact Repl.here | apply Repl.there)) (by (try simp only [Array.size_setIfInBounds, putL_size]); first | exact Nat.le_of_ble_eq_true rfl | (simp; omega)) (by kernel_rfl) (by rfl) ?_; clear KN; intro wx KN) | (refine wpList_kn_storeW KN (by rfl) 35 _ _ rfl _ rfl _ rfl _ _ (by repeat (first | exact Repl.here | apply Repl.there)) (by kernel_rfl) (by kernel_rfl) (by kernel_rfl) ?_; clear KN; intro wx KN) | (refine wpList_kn_storeA KN (by rfl) 35 _ _ rfl _ _ rfl _ rfl _ _ (by repeat (first | exact Repl.here | apply Repl.there)) (by (try simp only [Array.size_setIfInBounds, putL_size]); first | exact Nat.le_of_ble_eq_true rfl | (simp; omega)) (by kernel_rfl) (by kernel_rfl) ?_; clear KN; intro wx KN)) | ((refine gate_new (by rfl) ?_); first | (refine wpList_kn_alloc KN (by rfl) 35 rfl 7 rfl #[.int .i64 0, .int .i64 0, .int .i64 0, .int .i64 0, .int .i32 0] (by kernel_rfl) ?_; clear KN; intro g7 wx hg7 KN))))
            have HREL3 : Hid (DisR3 p n gt g7 x uo (txtK p k ++ labText p k ++ mnemOf x.op) w (.string (sv2 ++ um)) (.int .i64 0) wx) := Lib.hid ⟨0, by rw [HSV2.out, HUM.out, str_app, show opsK x 0 = [] from rfl, List.append_nil], rfl, Nat.zero_le _, KN⟩
            obtain ⟨bs, hbs⟩ : ∃ bs, bs = txtK p k ++ labText p k ++ mnemOf x.op := ⟨_, rfl⟩
            have HBL : Hid (bs.length ≤ 500030) := Lib.hid (by have h1 := HTL.out; have h2 := HLL.out; have h3 := mnemOf_len o0 o1; rw [hbs, List.length_append, List.length_append]; omega)
            rw [← hbs] at HREL3
            have HBS := Lib.hid hbs
            clear hbs KN
            go_loopw [5, 9] (fun s i wr => DisR3 p n gt g7 x uo bs w s i wr) (fun _ i _ => uo.size - (intOf i).toNat)
            case atStart => exact HREL3.out
            case round =>
              obtain ⟨j, rfl, rfl, hj, KN⟩ := hrel
              by_cases hjl : j < uo.size
              · have hul : uo.size = (operandsOf x.op).length := by rw [HUO.out, str_size]
                have HARM := Lib.hid (op_arm x HXO.out (j := j) (by rw [← hul]; exact hjl))
                have hg := Lib.hid (str_get HUO.out j hjl)
                have HK3 : Hid ((opsK x j).length ≤ 72) := Lib.hid (by have := opsK_len x HXO.out j; omega)
                obtain ⟨sv3, hsv3⟩ : ∃ s, s = str (bs ++ opsK x j) := ⟨_, rfl⟩
                have ss3 : sv3.size ≤ 500120 := by rw [hsv3, str_size, List.length_append]; have h1 := HBL.out; have h2 := HK3.out; omega
                have HSV3 := Lib.hid hsv3
                rw [← hsv3]
                clear hul hsv3
                rcases Nat.eq_zero_or_pos j with hj0 | hj0
                · have hjb : decide (0 < j) = false := by rw [decide_eq_false_iff_not]; omega
                  have hsp : opsK x (j + 1) = opsK x j ++ ([32] ++ opText ((operandsOf x.op).getD j 0) x) := by rw [hj0]; rfl
                  have HSP := Lib.hid hsp
                  clear hsp
                  go_upto_region 24 with fail
                  (try go_frame)
                  obtain ⟨sv4, hsv4⟩ : ∃ s, s = sv3 ++ ({ data := #[32] } : ByteArray) := ⟨_, rfl⟩
                  have ss4 : sv4.size ≤ 500130 := by
                    rw [hsv4]; simp only [ByteArray.size_append]
                    show sv3.size + 1 ≤ _
                    omega
                  rw [← hsv4]
                  replace hsv4 : sv4 = str (bs ++ opsK x j ++ [32]) := by
                    rw [hsv4, HSV3.out]
                    show str (bs ++ opsK x j) ++ str [32] = _
                    simp only [str_app, List.append_assoc]
                    try rfl
                  have HSV4 := Lib.hid hsv4
                  clear hsv4 hjb hj0
                  rcases HARM.out with ⟨hl, hot⟩ | ⟨hl, hot⟩ | ⟨hl, hot⟩ | ⟨hl, hi, hot⟩ | ⟨hl, hi, hot⟩ | ⟨hl, hi, hot⟩
                  · have hg2 : ((uo[j]'hjl).toNat : Int) = 97 := by rw [hg.out, hl]; rfl
                    obtain ⟨v0, v1⟩ : 0 ≤ x.a ∧ x.a ≤ 2147483648 := by have h1 := HXO.out.a; have h2 := HXO.out.b; have h3 := HXO.out.c; have h4 := HXO.out.imm; omega
                    obtain ⟨ud, hud⟩ : ∃ u, u = str (immText (x.a)) := ⟨_, rfl⟩
                    have ud1 : ud.size ≤ 21 := by rw [hud, str_size]; exact immText_len _ (by omega) (by omega)
                    have HUD := Lib.hid hud
                    have HOT := Lib.hid hot
                    clear hud hot hl
                    go_wp2_with (first | (go_at_call 53; refine (Decimal_imm (x.a) (by omega) (by omega) _).mono ?_; rintro e w' ⟨rfl, rfl⟩; rw [← HUD.out]) | ((with_reducible refine wpList_gate ?_); (refine gate_load (by rfl) ?_); (refine wpList_kn_load1 KN (by rfl) 3 _ rfl _ _ rfl _ _ (by repeat (first | exact Has.here | refine Has.there ?_)) _ (by (repeat (first | ((with_reducible refine get_hit ?_); exact Nat.le_of_ble_eq_true (by kernel_rfl)) | ((with_reducible refine (get_miss ?_).trans ?_); (focus kernel_rfl)) | ((with_reducible refine (get_pmiss ?_).trans ?_); (focus kernel_rfl)))); all_goals (conv => lhs; whnf; arg 1; whnf)) _ Tryd.underlying3 rfl ?_)))
                    go_roundw
                    case rel =>
                      refine ⟨j + 1, ?_, by go_num, by omega, KN⟩
                      rw [HSP.out, HOT.out, HSV4.out, HUD.out]
                      show Value.string (str (bs ++ opsK x j ++ [32]) ++ str [114] ++ str (immText x.a)) = _
                      simp only [str_app, List.append_assoc]
                    case measure => simp [intOf]; omega
                  · have hg2 : ((uo[j]'hjl).toNat : Int) = 98 := by rw [hg.out, hl]; rfl
                    obtain ⟨v0, v1⟩ : 0 ≤ x.b ∧ x.b ≤ 2147483648 := by have h1 := HXO.out.a; have h2 := HXO.out.b; have h3 := HXO.out.c; have h4 := HXO.out.imm; omega
                    obtain ⟨ud, hud⟩ : ∃ u, u = str (immText (x.b)) := ⟨_, rfl⟩
                    have ud1 : ud.size ≤ 21 := by rw [hud, str_size]; exact immText_len _ (by omega) (by omega)
                    have HUD := Lib.hid hud
                    have HOT := Lib.hid hot
                    clear hud hot hl
                    go_wp2_with (first | (go_at_call 53; refine (Decimal_imm (x.b) (by omega) (by omega) _).mono ?_; rintro e w' ⟨rfl, rfl⟩; rw [← HUD.out]) | ((with_reducible refine wpList_gate ?_); (refine gate_load (by rfl) ?_); (refine wpList_kn_load1 KN (by rfl) 3 _ rfl _ _ rfl _ _ (by repeat (first | exact Has.here | refine Has.there ?_)) _ (by (repeat (first | ((with_reducible refine get_hit ?_); exact Nat.le_of_ble_eq_true (by kernel_rfl)) | ((with_reducible refine (get_miss ?_).trans ?_); (focus kernel_rfl)) | ((with_reducible refine (get_pmiss ?_).trans ?_); (focus kernel_rfl)))); all_goals (conv => lhs; whnf; arg 1; whnf)) _ Tryd.underlying3 rfl ?_)))
                    go_roundw
                    case rel =>
                      refine ⟨j + 1, ?_, by go_num, by omega, KN⟩
                      rw [HSP.out, HOT.out, HSV4.out, HUD.out]
                      show Value.string (str (bs ++ opsK x j ++ [32]) ++ str [114] ++ str (immText x.b)) = _
                      simp only [str_app, List.append_assoc]
                    case measure => simp [intOf]; omega
                  · have hg2 : ((uo[j]'hjl).toNat : Int) = 99 := by rw [hg.out, hl]; rfl
                    obtain ⟨v0, v1⟩ : 0 ≤ x.c ∧ x.c ≤ 2147483648 := by have h1 := HXO.out.a; have h2 := HXO.out.b; have h3 := HXO.out.c; have h4 := HXO.out.imm; omega
                    obtain ⟨ud, hud⟩ : ∃ u, u = str (immText (x.c)) := ⟨_, rfl⟩
                    have ud1 : ud.size ≤ 21 := by rw [hud, str_size]; exact immText_len _ (by omega) (by omega)
                    have HUD := Lib.hid hud
                    have HOT := Lib.hid hot
                    clear hud hot hl
                    go_wp2_with (first | (go_at_call 53; refine (Decimal_imm (x.c) (by omega) (by omega) _).mono ?_; rintro e w' ⟨rfl, rfl⟩; rw [← HUD.out]) | ((with_reducible refine wpList_gate ?_); (refine gate_load (by rfl) ?_); (refine wpList_kn_load1 KN (by rfl) 3 _ rfl _ _ rfl _ _ (by repeat (first | exact Has.here | refine Has.there ?_)) _ (by (repeat (first | ((with_reducible refine get_hit ?_); exact Nat.le_of_ble_eq_true (by kernel_rfl)) | ((with_reducible refine (get_miss ?_).trans ?_); (focus kernel_rfl)) | ((with_reducible refine (get_pmiss ?_).trans ?_); (focus kernel_rfl)))); all_goals (conv => lhs; whnf; arg 1; whnf)) _ Tryd.underlying3 rfl ?_)))
                    go_roundw
                    case rel =>
                      refine ⟨j + 1, ?_, by go_num, by omega, KN⟩
                      rw [HSP.out, HOT.out, HSV4.out, HUD.out]
                      show Value.string (str (bs ++ opsK x j ++ [32]) ++ str [114] ++ str (immText x.c)) = _
                      simp only [str_app, List.append_assoc]
                    case measure => simp [intOf]; omega
                  · have hg2 : ((uo[j]'hjl).toNat : Int) = 105 := by rw [hg.out, hl]; rfl
                    obtain ⟨v0, v1⟩ : 0 ≤ x.imm ∧ x.imm ≤ 2147483648 := by have h1 := HXO.out.a; have h2 := HXO.out.b; have h3 := HXO.out.c; have h4 := HXO.out.imm; omega
                    obtain ⟨ud, hud⟩ : ∃ u, u = str (immText (x.imm)) := ⟨_, rfl⟩
                    have ud1 : ud.size ≤ 21 := by rw [hud, str_size]; exact immText_len _ (by omega) (by omega)
                    have HUD := Lib.hid hud
                    have HOT := Lib.hid hot
                    clear hud hot hl
                    go_wp2_with (first | (go_at_call 53; refine (Decimal_imm (x.imm) (by omega) (by omega) _).mono ?_; rintro e w' ⟨rfl, rfl⟩; rw [← HUD.out]) | ((with_reducible refine wpList_gate ?_); (refine gate_load (by rfl) ?_); (refine wpList_kn_load1 KN (by rfl) 21 _ rfl _ _ rfl _ _ (by repeat (first | exact Has.here | refine Has.there ?_)) _ (by (repeat (first | ((with_reducible refine get_hit ?_); exact Nat.le_of_ble_eq_true (by kernel_rfl)) | ((with_reducible refine (get_miss ?_).trans ?_); (focus kernel_rfl)) | ((with_reducible refine (get_pmiss ?_).trans ?_); (focus kernel_rfl)))); all_goals (conv => lhs; whnf; arg 1; whnf)) _ Tryd.underlying21 rfl ?_)))
                    go_roundw
                    case rel =>
                      refine ⟨j + 1, ?_, by go_num, by omega, KN⟩
                      rw [HSP.out, HOT.out, HSV4.out, HUD.out]
                      show Value.string (str (bs ++ opsK x j ++ [32]) ++ str (immText x.imm)) = _
                      simp only [str_app, List.append_assoc]
                    case measure => simp [intOf]; omega
                  · have hg2 : ((uo[j]'hjl).toNat : Int) = 105 := by rw [hg.out, hl]; rfl
                    obtain ⟨v0, v1⟩ : 0 ≤ (-x.imm) ∧ (-x.imm) ≤ 2147483648 := by have h1 := HXO.out.a; have h2 := HXO.out.b; have h3 := HXO.out.c; have h4 := HXO.out.imm; omega
                    obtain ⟨ud, hud⟩ : ∃ u, u = str (immText ((-x.imm))) := ⟨_, rfl⟩
                    have ud1 : ud.size ≤ 21 := by rw [hud, str_size]; exact immText_len _ (by omega) (by omega)
                    have HUD := Lib.hid hud
                    have HOT := Lib.hid hot
                    clear hud hot hl
                    go_wp2_with (first | (go_at_call 53; refine (Decimal_imm ((-x.imm)) (by omega) (by omega) _).mono ?_; rintro e w' ⟨rfl, rfl⟩; rw [← HUD.out]) | ((with_reducible refine wpList_gate ?_); (refine gate_load (by rfl) ?_); (refine wpList_kn_load1 KN (by rfl) 21 _ rfl _ _ rfl _ _ (by repeat (first | exact Has.here | refine Has.there ?_)) _ (by (repeat (first | ((with_reducible refine get_hit ?_); exact Nat.le_of_ble_eq_true (by kernel_rfl)) | ((with_reducible refine (get_miss ?_).trans ?_); (focus kernel_rfl)) | ((with_reducible refine (get_pmiss ?_).trans ?_); (focus kernel_rfl)))); all_goals (conv => lhs; whnf; arg 1; whnf)) _ Tryd.underlying21 rfl ?_)))
                    go_roundw
                    case rel =>
                      refine ⟨j + 1, ?_, by go_num, by omega, KN⟩
                      rw [HSP.out, HOT.out, HSV4.out, HUD.out]
                      show Value.string (str (bs ++ opsK x j ++ [32]) ++ str [45] ++ str (immText (-x.imm))) = _
                      simp only [str_app, List.append_assoc]
                    case measure => simp [intOf]; omega
                  · have hg2 : ((uo[j]'hjl).toNat : Int) = 116 := by rw [hg.out, hl]; rfl
                    obtain ⟨v0, v1⟩ : 0 ≤ x.imm ∧ x.imm ≤ 2147483648 := by have h1 := HXO.out.a; have h2 := HXO.out.b; have h3 := HXO.out.c; have h4 := HXO.out.imm; omega
                    obtain ⟨ud, hud⟩ : ∃ u, u = str (immText (x.imm)) := ⟨_, rfl⟩
                    have ud1 : ud.size ≤ 21 := by rw [hud, str_size]; exact immText_len _ (by omega) (by omega)
                    have HUD := Lib.hid hud
                    have HOT := Lib.hid hot
                    clear hud hot hl
                    go_wp2_with (first | (go_at_call 53; refine (Decimal_imm (x.imm) (by omega) (by omega) _).mono ?_; rintro e w' ⟨rfl, rfl⟩; rw [← HUD.out]) | ((with_reducible refine wpList_gate ?_); (refine gate_load (by rfl) ?_); (refine wpList_kn_load1 KN (by rfl) 21 _ rfl _ _ rfl _ _ (by repeat (first | exact Has.here | refine Has.there ?_)) _ (by (repeat (first | ((with_reducible refine get_hit ?_); exact Nat.le_of_ble_eq_true (by kernel_rfl)) | ((with_reducible refine (get_miss ?_).trans ?_); (focus kernel_rfl)) | ((with_reducible refine (get_pmiss ?_).trans ?_); (focus kernel_rfl)))); all_goals (conv => lhs; whnf; arg 1; whnf)) _ Tryd.underlying21 rfl ?_)))
                    go_roundw
                    case rel =>
                      refine ⟨j + 1, ?_, by go_num, by omega, KN⟩
                      rw [HSP.out, HOT.out, HSV4.out, HUD.out]
                      show Value.string (str (bs ++ opsK x j ++ [32]) ++ str [76] ++ str (immText x.imm)) = _
                      simp only [str_app, List.append_assoc]
                    case measure => simp [intOf]; omega
                · have hjb : decide (0 < j) = true := by rw [decide_eq_true_eq]; omega
                  have hsp : opsK x (j + 1) = opsK x j ++ ([44, 32] ++ opText ((operandsOf x.op).getD j 0) x) := by rw [opsK]; rw [if_neg (show ¬ j = 0 by omega)]
                  have HSP := Lib.hid hsp
                  clear hsp
                  go_upto_region 24 with fail
                  (try go_frame)
                  obtain ⟨sv4, hsv4⟩ : ∃ s, s = sv3 ++ ({ data := #[44] } : ByteArray) ++ ({ data := #[32] } : ByteArray) := ⟨_, rfl⟩
                  have ss4 : sv4.size ≤ 500130 := by
                    rw [hsv4]; simp only [ByteArray.size_append]
                    show sv3.size + (1+1) ≤ _
                    omega
                  rw [← hsv4]
                  replace hsv4 : sv4 = str (bs ++ opsK x j ++ [44, 32]) := by
                    rw [hsv4, HSV3.out]
                    show str (bs ++ opsK x j) ++ str [44] ++ str [32] = _
                    simp only [str_app, List.append_assoc]
                    try rfl
                  have HSV4 := Lib.hid hsv4
                  clear hsv4 hjb hj0
                  rcases HARM.out with ⟨hl, hot⟩ | ⟨hl, hot⟩ | ⟨hl, hot⟩ | ⟨hl, hi, hot⟩ | ⟨hl, hi, hot⟩ | ⟨hl, hi, hot⟩
                  · have hg2 : ((uo[j]'hjl).toNat : Int) = 97 := by rw [hg.out, hl]; rfl
                    obtain ⟨v0, v1⟩ : 0 ≤ x.a ∧ x.a ≤ 2147483648 := by have h1 := HXO.out.a; have h2 := HXO.out.b; have h3 := HXO.out.c; have h4 := HXO.out.imm; omega
                    obtain ⟨ud, hud⟩ : ∃ u, u = str (immText (x.a)) := ⟨_, rfl⟩
                    have ud1 : ud.size ≤ 21 := by rw [hud, str_size]; exact immText_len _ (by omega) (by omega)
                    have HUD := Lib.hid hud
                    have HOT := Lib.hid hot
                    clear hud hot hl
                    go_wp2_with (first | (go_at_call 53; refine (Decimal_imm (x.a) (by omega) (by omega) _).mono ?_; rintro e w' ⟨rfl, rfl⟩; rw [← HUD.out]) | ((with_reducible refine wpList_gate ?_); (refine gate_load (by rfl) ?_); (refine wpList_kn_load1 KN (by rfl) 3 _ rfl _ _ rfl _ _ (by repeat (first | exact Has.here | refine Has.there ?_)) _ (by (repeat (first | ((with_reducible refine get_hit ?_); exact Nat.le_of_ble_eq_true (by kernel_rfl)) | ((with_reducible refine (get_miss ?_).trans ?_); (focus kernel_rfl)) | ((with_reducible refine (get_pmiss ?_).trans ?_); (focus kernel_rfl)))); all_goals (conv => lhs; whnf; arg 1; whnf)) _ Tryd.underlying3 rfl ?_)))
                    go_roundw
                    case rel =>
                      refine ⟨j + 1, ?_, by go_num, by omega, KN⟩
                      rw [HSP.out, HOT.out, HSV4.out, HUD.out]
                      show Value.string (str (bs ++ opsK x j ++ [44, 32]) ++ str [114] ++ str (immText x.a)) = _
                      simp only [str_app, List.append_assoc]
                    case measure => simp [intOf]; omega
                  · have hg2 : ((uo[j]'hjl).toNat : Int) = 98 := by rw [hg.out, hl]; rfl
                    obtain ⟨v0, v1⟩ : 0 ≤ x.b ∧ x.b ≤ 2147483648 := by have h1 := HXO.out.a; have h2 := HXO.out.b; have h3 := HXO.out.c; have h4 := HXO.out.imm; omega
                    obtain ⟨ud, hud⟩ : ∃ u, u = str (immText (x.b)) := ⟨_, rfl⟩
                    have ud1 : ud.size ≤ 21 := by rw [hud, str_size]; exact immText_len _ (by omega) (by omega)
                    have HUD := Lib.hid hud
                    have HOT := Lib.hid hot
                    clear hud hot hl
                    go_wp2_with (first | (go_at_call 53; refine (Decimal_imm (x.b) (by omega) (by omega) _).mono ?_; rintro e w' ⟨rfl, rfl⟩; rw [← HUD.out]) | ((with_reducible refine wpList_gate ?_); (refine gate_load (by rfl) ?_); (refine wpList_kn_load1 KN (by rfl) 3 _ rfl _ _ rfl _ _ (by repeat (first | exact Has.here | refine Has.there ?_)) _ (by (repeat (first | ((with_reducible refine get_hit ?_); exact Nat.le_of_ble_eq_true (by kernel_rfl)) | ((with_reducible refine (get_miss ?_).trans ?_); (focus kernel_rfl)) | ((with_reducible refine (get_pmiss ?_).trans ?_); (focus kernel_rfl)))); all_goals (conv => lhs; whnf; arg 1; whnf)) _ Tryd.underlying3 rfl ?_)))
                    go_roundw
                    case rel =>
                      refine ⟨j + 1, ?_, by go_num, by omega, KN⟩
                      rw [HSP.out, HOT.out, HSV4.out, HUD.out]
                      show Value.string (str (bs ++ opsK x j ++ [44, 32]) ++ str [114] ++ str (immText x.b)) = _
                      simp only [str_app, List.append_assoc]
                    case measure => simp [intOf]; omega
                  · have hg2 : ((uo[j]'hjl).toNat : Int) = 99 := by rw [hg.out, hl]; rfl
                    obtain ⟨v0, v1⟩ : 0 ≤ x.c ∧ x.c ≤ 2147483648 := by have h1 := HXO.out.a; have h2 := HXO.out.b; have h3 := HXO.out.c; have h4 := HXO.out.imm; omega
                    obtain ⟨ud, hud⟩ : ∃ u, u = str (immText (x.c)) := ⟨_, rfl⟩
                    have ud1 : ud.size ≤ 21 := by rw [hud, str_size]; exact immText_len _ (by omega) (by omega)
                    have HUD := Lib.hid hud
                    have HOT := Lib.hid hot
                    clear hud hot hl
                    go_wp2_with (first | (go_at_call 53; refine (Decimal_imm (x.c) (by omega) (by omega) _).mono ?_; rintro e w' ⟨rfl, rfl⟩; rw [← HUD.out]) | ((with_reducible refine wpList_gate ?_); (refine gate_load (by rfl) ?_); (refine wpList_kn_load1 KN (by rfl) 3 _ rfl _ _ rfl _ _ (by repeat (first | exact Has.here | refine Has.there ?_)) _ (by (repeat (first | ((with_reducible refine get_hit ?_); exact Nat.le_of_ble_eq_true (by kernel_rfl)) | ((with_reducible refine (get_miss ?_).trans ?_); (focus kernel_rfl)) | ((with_reducible refine (get_pmiss ?_).trans ?_); (focus kernel_rfl)))); all_goals (conv => lhs; whnf; arg 1; whnf)) _ Tryd.underlying3 rfl ?_)))
                    go_roundw
                    case rel =>
                      refine ⟨j + 1, ?_, by go_num, by omega, KN⟩
                      rw [HSP.out, HOT.out, HSV4.out, HUD.out]
                      show Value.string (str (bs ++ opsK x j ++ [44, 32]) ++ str [114] ++ str (immText x.c)) = _
                      simp only [str_app, List.append_assoc]
                    case measure => simp [intOf]; omega
                  · have hg2 : ((uo[j]'hjl).toNat : Int) = 105 := by rw [hg.out, hl]; rfl
                    obtain ⟨v0, v1⟩ : 0 ≤ x.imm ∧ x.imm ≤ 2147483648 := by have h1 := HXO.out.a; have h2 := HXO.out.b; have h3 := HXO.out.c; have h4 := HXO.out.imm; omega
                    obtain ⟨ud, hud⟩ : ∃ u, u = str (immText (x.imm)) := ⟨_, rfl⟩
                    have ud1 : ud.size ≤ 21 := by rw [hud, str_size]; exact immText_len _ (by omega) (by omega)
                    have HUD := Lib.hid hud
                    have HOT := Lib.hid hot
                    clear hud hot hl
                    go_wp2_with (first | (go_at_call 53; refine (Decimal_imm (x.imm) (by omega) (by omega) _).mono ?_; rintro e w' ⟨rfl, rfl⟩; rw [← HUD.out]) | ((with_reducible refine wpList_gate ?_); (refine gate_load (by rfl) ?_); (refine wpList_kn_load1 KN (by rfl) 21 _ rfl _ _ rfl _ _ (by repeat (first | exact Has.here | refine Has.there ?_)) _ (by (repeat (first | ((with_reducible refine get_hit ?_); exact Nat.le_of_ble_eq_true (by kernel_rfl)) | ((with_reducible refine (get_miss ?_).trans ?_); (focus kernel_rfl)) | ((with_reducible refine (get_pmiss ?_).trans ?_); (focus kernel_rfl)))); all_goals (conv => lhs; whnf; arg 1; whnf)) _ Tryd.underlying21 rfl ?_)))
                    go_roundw
                    case rel =>
                      refine ⟨j + 1, ?_, by go_num, by omega, KN⟩
                      rw [HSP.out, HOT.out, HSV4.out, HUD.out]
                      show Value.string (str (bs ++ opsK x j ++ [44, 32]) ++ str (immText x.imm)) = _
                      simp only [str_app, List.append_assoc]
                    case measure => simp [intOf]; omega
                  · have hg2 : ((uo[j]'hjl).toNat : Int) = 105 := by rw [hg.out, hl]; rfl
                    obtain ⟨v0, v1⟩ : 0 ≤ (-x.imm) ∧ (-x.imm) ≤ 2147483648 := by have h1 := HXO.out.a; have h2 := HXO.out.b; have h3 := HXO.out.c; have h4 := HXO.out.imm; omega
                    obtain ⟨ud, hud⟩ : ∃ u, u = str (immText ((-x.imm))) := ⟨_, rfl⟩
                    have ud1 : ud.size ≤ 21 := by rw [hud, str_size]; exact immText_len _ (by omega) (by omega)
                    have HUD := Lib.hid hud
                    have HOT := Lib.hid hot
                    clear hud hot hl
                    go_wp2_with (first | (go_at_call 53; refine (Decimal_imm ((-x.imm)) (by omega) (by omega) _).mono ?_; rintro e w' ⟨rfl, rfl⟩; rw [← HUD.out]) | ((with_reducible refine wpList_gate ?_); (refine gate_load (by rfl) ?_); (refine wpList_kn_load1 KN (by rfl) 21 _ rfl _ _ rfl _ _ (by repeat (first | exact Has.here | refine Has.there ?_)) _ (by (repeat (first | ((with_reducible refine get_hit ?_); exact Nat.le_of_ble_eq_true (by kernel_rfl)) | ((with_reducible refine (get_miss ?_).trans ?_); (focus kernel_rfl)) | ((with_reducible refine (get_pmiss ?_).trans ?_); (focus kernel_rfl)))); all_goals (conv => lhs; whnf; arg 1; whnf)) _ Tryd.underlying21 rfl ?_)))
                    go_roundw
                    case rel =>
                      refine ⟨j + 1, ?_, by go_num, by omega, KN⟩
                      rw [HSP.out, HOT.out, HSV4.out, HUD.out]
                      show Value.string (str (bs ++ opsK x j ++ [44, 32]) ++ str [45] ++ str (immText (-x.imm))) = _
                      simp only [str_app, List.append_assoc]
                    case measure => simp [intOf]; omega
                  · have hg2 : ((uo[j]'hjl).toNat : Int) = 116 := by rw [hg.out, hl]; rfl
                    obtain ⟨v0, v1⟩ : 0 ≤ x.imm ∧ x.imm ≤ 2147483648 := by have h1 := HXO.out.a; have h2 := HXO.out.b; have h3 := HXO.out.c; have h4 := HXO.out.imm; omega
                    obtain ⟨ud, hud⟩ : ∃ u, u = str (immText (x.imm)) := ⟨_, rfl⟩
                    have ud1 : ud.size ≤ 21 := by rw [hud, str_size]; exact immText_len _ (by omega) (by omega)
                    have HUD := Lib.hid hud
                    have HOT := Lib.hid hot
                    clear hud hot hl
                    go_wp2_with (first | (go_at_call 53; refine (Decimal_imm (x.imm) (by omega) (by omega) _).mono ?_; rintro e w' ⟨rfl, rfl⟩; rw [← HUD.out]) | ((with_reducible refine wpList_gate ?_); (refine gate_load (by rfl) ?_); (refine wpList_kn_load1 KN (by rfl) 21 _ rfl _ _ rfl _ _ (by repeat (first | exact Has.here | refine Has.there ?_)) _ (by (repeat (first | ((with_reducible refine get_hit ?_); exact Nat.le_of_ble_eq_true (by kernel_rfl)) | ((with_reducible refine (get_miss ?_).trans ?_); (focus kernel_rfl)) | ((with_reducible refine (get_pmiss ?_).trans ?_); (focus kernel_rfl)))); all_goals (conv => lhs; whnf; arg 1; whnf)) _ Tryd.underlying21 rfl ?_)))
                    go_roundw
                    case rel =>
                      refine ⟨j + 1, ?_, by go_num, by omega, KN⟩
                      rw [HSP.out, HOT.out, HSV4.out, HUD.out]
                      show Value.string (str (bs ++ opsK x j ++ [44, 32]) ++ str [76] ++ str (immText x.imm)) = _
                      simp only [str_app, List.append_assoc]
                    case measure => simp [intOf]; omega
              · have hjn : opsK x j = opsText x true (operandsOf x.op) := by rw [← opsK_all x o0 o1, show j = (operandsOf x.op).length by rw [← str_size, ← HUO.out]; omega]
                have HK3 : Hid ((opsK x j).length ≤ 72) := Lib.hid (by have h1 := opsK_len x HXO.out j; omega)
                obtain ⟨sv3, hsv3⟩ : ∃ s, s = str (bs ++ opsK x j) := ⟨_, rfl⟩
                have ss3 : sv3.size ≤ 500120 := by rw [hsv3, str_size, List.length_append]; have h1 := HBL.out; have h2 := HK3.out; omega
                rw [← hsv3]
                rw [hjn, HBS.out] at hsv3
                have HSV3 := Lib.hid hsv3
                clear hjn hsv3
                go_wp2_with fail
                go_roundw
                case rel =>
                  refine ⟨k + 1, ?_, by go_num, by omega, KN.drop .here⟩
                  rw [HSV3.out, txtK_succ HX.out]
                  unfold insText
                  show Value.string (str (txtK p k ++ labText p k ++ mnemOf x.op ++ opsText x true (operandsOf x.op)) ++ str [59, 10]) = _
                  simp only [str_app, List.append_assoc]
                case measure => simp [intOf]; omega
        · have hkn : k = p.length := by rw [← HN.out]; omega
          obtain ⟨sv, hsv⟩ : ∃ s, s = str (txtK p k) := ⟨_, rfl⟩
          rw [← hsv]
          rw [hkn, txtK_all] at hsv
          have HSV := Lib.hid hsv
          clear hkn hsv
          go_wp2_with fail
          go_ret
          exact ⟨by rw [HSV.out]; rfl, KN.toBelow⟩
theorem RDisassemble_any (va : Value) (p : List Ins) (w : World) (h : Instrs w va p) :
    Calls Tryd.prog 21 #[va] w fun e w' => e = .returned (.string (str (disL p))) ∧ Below w.heap.size w w' := by
  unfold disL
  by_cases he : progErr p = 0
  · rw [if_pos he]; exact DisR_ok va p w h he
  · rw [if_neg he]
    have hb0 : (progErr p != 0) = true := by rw [bne_iff_ne]; exact he
    have H := Lib.hid h
    clear h he
    go_enter Tryd.func21, Tryd.ntmps21
    go_wp2_with (go_at_call 20; refine (RValidate_any _ p _ H.out).mono ?_; rintro e wx ⟨rfl, hb⟩)
    go_ret
    exact ⟨rfl, hb⟩
end Go.Proofs.YtemigcdieghkfaaDoor
