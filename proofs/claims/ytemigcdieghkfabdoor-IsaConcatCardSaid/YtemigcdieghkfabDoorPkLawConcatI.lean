/- IsaConcat. -/
import Derived.Test.YtemigcdieghkfabDoorPkTokProg
set_option linter.unusedVariables false
set_option linter.unusedSimpArgs false
set_option linter.unusedSectionVars false
namespace Go.Proofs.YtemigcdieghkfabDoor
open Go.RowKit Go.BigFrame

def secN (s : List UInt8) : List UInt8 := [115, 101, 99, 111, 110, 100] ++ s
theorem secN_word : WordN secN := fun k hk => ⟨wordB_append (by decide) (wordB_lab k), by have := labName_len (n := k) (by omega); show ([115, 101, 99, 111, 110, 100] ++ labName k).length ≤ 200; rw [List.length_append]; simp only [List.length_cons, List.length_nil]; omega⟩
theorem secN_inj : InjL secN := fun a b ha hb e => labName_inj ha hb (List.append_cancel_left e)
theorem secN_good : GoodN secN := fun k => ⟨regOf_has (by show 76 ∈ [115, 101, 99, 111, 110, 100] ++ 76 :: numL 10 k; simp), by show ¬ [115, 101, 99, 111, 110, 100] ++ labName k = []; simp⟩
theorem secN_ne (a b : Nat) : ¬ labName a = secN (labName b) := by
  intro h
  have := congrArg List.head? h
  revert this
  show ¬ some (76 : UInt8) = some 115
  decide
theorem sec_str (s : List UInt8) : (⟨#[115, 101, 99, 111, 110, 100]⟩ : ByteArray) ++ str s = str (secN s) := by
  refine bytes_ext ?_
  rw [data_str]
  simp [secN, str]
theorem fewB_ren {f : List UInt8 → List UInt8} (hf : WordN f) {q : List Ins} (he : progErr q = 0) (hi : ∀ x ∈ q, InsOk x) (hn : q.length ≤ 12) {d : List Tok} (hr : d.map (·.raw) = linesK q 0 q) : fewB (d.map (renT f)) ∧ (d.map (renT f)).map (·.raw) = renG f f (linesK q 0 q) := by
  have h2 : (d.map (renT f)).map (·.raw) = renG f f (linesK q 0 q) := by rw [map_raw_ren, hr]
  obtain ⟨h3, h4⟩ := ren_ok hf hf he hi
  rw [← h2] at h3 h4
  rw [List.length_map] at h4
  refine ⟨⟨by omega, fun t ht => ?_⟩, h2⟩
  have h5 := h3 t.raw (List.mem_map_of_mem ht)
  exact ⟨h5.2.2, h5.1.1, h5.1.2⟩
def movTo (n k : Nat) (q : List Ins) : List Ins := (q.take k).map (moveI n) ++ q.drop k
theorem movTo_len (n k : Nat) (q : List Ins) : (movTo n k q).length = q.length := by
  unfold movTo; rw [List.length_append, List.length_map, ← List.length_append, List.take_append_drop]
theorem movTo_zero (n : Nat) (q : List Ins) : movTo n 0 q = q := by simp [movTo]
theorem movTo_all (n : Nat) (q : List Ins) : movTo n q.length q = q.map (moveI n) := by simp [movTo]
theorem movTo_get {n k : Nat} {q : List Ins} {x : Ins} (h : q[k]? = some x) : (movTo n k q)[k]? = some x := by
  have hk := (List.getElem?_eq_some_iff.1 h).1
  unfold movTo
  rw [List.getElem?_append_right (by rw [List.length_map, List.length_take]; omega), List.length_map, List.length_take, Nat.min_eq_left (by omega), Nat.sub_self, List.getElem?_drop, Nat.add_zero]
  exact h
theorem movTo_set {n k : Nat} {q : List Ins} {x : Ins} (h : q[k]? = some x) : (movTo n k q).set k (moveI n x) = movTo n (k + 1) q := by
  have hk := (List.getElem?_eq_some_iff.1 h).1
  unfold movTo
  rw [List.set_append_right _ _ (by rw [List.length_map, List.length_take]; omega), List.length_map, List.length_take, Nat.min_eq_left (by omega), Nat.sub_self, List.drop_eq_getElem_cons hk, List.set_cons_zero, List.take_add_one, h, List.map_append, List.append_assoc]
  rfl
theorem movTo_skip {n k : Nat} {q : List Ins} {x : Ins} (h : q[k]? = some x) (hs : moveI n x = x) : movTo n (k + 1) q = movTo n k q := by
  rw [← movTo_set h, hs]
  apply List.ext_getElem?
  intro j
  by_cases hj : j = k
  · subst hj
    rw [List.getElem?_set_self (by rw [movTo_len]; exact (List.getElem?_eq_some_iff.1 h).1), movTo_get h]
  · rw [List.getElem?_set_ne (by omega)]
theorem moveI_yes {n : Nat} {x : Ins} (h : uses x.op 116 = true) : (moveI n x).cells.toList = x.cells.toList.set 4 (.int .i32 (x.imm + (n : Int))) := by
  unfold moveI; rw [if_pos h]; simp [Ins.cells]
theorem moveI_no {n : Nat} {x : Ins} (h : uses x.op 116 = false) : moveI n x = x := by
  unfold moveI; rw [if_neg (by rw [h]; decide)]
/-- A part of a program among the entries. -/
theorem Instrs.part {M : List Nat} {W w : World} {l : Ents} (KN : Kn M W w l) {g cap k n c : Nat} {r b : List Ins} (m : Has l g (CapAt 48 5 cap (r.map fun x => x.cells.toList))) (h : ∀ i x, b[i]? = some x → r[k + i]? = some x) (hn : b.length = n) (h0 : 0 < n) (h1 : n ≤ c) (h2 : c ≤ maxLen) (hf : ∀ x ∈ b, x.fits) : Instrs w (.slice (some ⟨g, k * 5, none⟩) n c) b := by
  subst hn
  refine ⟨⟨by rw [List.length_map]; omega, .inr ⟨g, k * 5, c, by rw [List.length_map], by rw [List.length_map]; exact h0, by rw [List.length_map]; exact h1, h2, KN.lt m, fun i cs j x hi hj => ?_⟩⟩, hf⟩
  rw [List.getElem?_map] at hi
  cases hb : b[i]? with
  | none => rw [hb] at hi; cases hi
  | some y =>
    rw [hb] at hi
    simp only [Option.map_some, Option.some.injEq] at hi
    subst hi
    have hr : (r.map fun x => x.cells.toList)[k + i]? = some y.cells.toList := by rw [List.getElem?_map, h i y hb]; rfl
    have := KN.elem (g := g) (e := 48) (sz := 5) (cap := cap) (i := k + i) (j := j) m (insLen r) hr hj
    rw [Nat.add_mul] at this
    exact this
theorem get_left {a b : List Ins} {i : Nat} {x : Ins} (h : a[i]? = some x) : (a ++ b)[0 + i]? = some x := by
  rw [Nat.zero_add, List.getElem?_append_left (List.getElem?_eq_some_iff.1 h).1]; exact h
theorem get_right {a b : List Ins} {i n : Nat} {x : Ins} (hn : a.length = n) (h : b[i]? = some x) : (a ++ b)[n + i]? = some x := by
  subst hn
  rw [List.getElem?_append_right (by omega), Nat.add_sub_cancel_left]; exact h
theorem moveI_fits {n : Nat} {x : Ins} (h : x.fits) (h0 : uses x.op 116 = true → 0 ≤ x.imm ∧ x.imm ≤ 4096) (hn : n ≤ 4096) : (moveI n x).fits := by
  unfold moveI
  split
  · rename_i hu
    have := h0 hu
    refine ⟨?_, h.2⟩
    dsimp only; omega
  · exact h
def CatRel (w : World) (g8 gt capt g2 cap2 g1 cap1 : Nat) (d : List Tok) (p q : List Ins) (i : Value) (wr : World) : Prop :=
  ∃ k : Nat, i = .int .i64 (k : Int) ∧ k ≤ d.length ∧ Kn [] w wr [(g8, At #[.int .i64 0, .int .i64 0] 33), (gt, CapAt 44 5 capt ((renTo secN k d).map fun t => t.cells.toList)), (g2, CapAt 48 5 cap2 (q.map fun x => x.cells.toList)), (g1, CapAt 48 5 cap1 (p.map fun x => x.cells.toList))]
set_option maxRecDepth 100000 in
set_option maxHeartbeats 40000000 in
theorem concatI_near (va vb : Value) (zl zm : List Int) (w : World) (hz : Ints w va zl) (hz2 : Ints w vb zm) (hzl : zl.length ≤ 200) (hzm : zm.length ≤ 200) (hp : Pow w) :
    Calls Tryd.prog 4 #[va, vb] w fun e w' => e = .returned (.bool true) ∧ Below w.heap.size w w' := by
  have KN := Kn.start w
  obtain ⟨za, zc, rfl, _⟩ := hz.form
  obtain ⟨ma, mc, rfl, _⟩ := hz2.form
  obtain ⟨zn, hzn⟩ : ∃ zn, zn = zl.length := ⟨_, rfl⟩
  obtain ⟨mn, hmn⟩ : ∃ mn, mn = zm.length := ⟨_, rfl⟩
  have HZ := Lib.hid hz
  have HM := Lib.hid hz2
  have HP := Lib.hid hp
  rw [← hzn] at hzl ⊢
  rw [← hmn] at hzm ⊢
  have HZN := Lib.hid hzn
  have HMN := Lib.hid hmn
  clear hz hz2 hp hzn hmn
  go_enter Tryd.func4, Tryd.ntmps4
  go_upto_region 4 with (first | (go_at_call 7; refine (Program_any _ zl _ (by rw [HZN.out]; exact HZ.out.below KN.toBelow)).mono ?_; rintro e wx ⟨g1, cap1, p, rfl, h1, h2, h3, h4, h5, h6, K2⟩; replace KN := KN.call0 K2; clear K2; simp only [List.append_nil] at KN) | (go_at_call 7; refine (Program_any _ zm _ (by rw [HMN.out]; exact HM.out.below KN.toBelow)).mono ?_; rintro e wy ⟨g2, cap2, q, rfl, i1, i2, i3, i4, i5, i6, K2⟩; replace KN := KN.call0 K2; clear K2; simp only [List.cons_append, List.nil_append] at KN) | ((with_reducible refine wpList_gate ?_); first | ((refine gate_load (by rfl) ?_); first | (refine wpList_kn_load1 KN (by rfl) 3 _ rfl _ _ rfl _ _ (by repeat (first | exact Has.here | refine Has.there ?_)) _ (by (repeat (first | ((with_reducible refine get_hit ?_); exact Nat.le_of_ble_eq_true (by kernel_rfl)) | ((with_reducible refine (get_miss ?_).trans ?_); (focus kernel_rfl)) | ((with_reducible refine (get_pmiss ?_).trans ?_); (focus kernel_rfl)))); all_goals (conv => lhs; whnf; arg 1; whnf)) _ Tryd.underlying3 rfl ?_) | (refine wpList_kn_load1 KN (by rfl) 9 _ rfl _ _ rfl _ _ (by repeat (first | exact Has.here | refine Has.there ?_)) _ (by (repeat (first | ((with_reducible refine get_hit ?_); exact Nat.le_of_ble_eq_true (by kernel_rfl)) | ((with_reducible refine (get_miss ?_).trans ?_); (focus kernel_rfl)) | ((with_reducible refine (get_pmiss ?_).trans ?_); (focus kernel_rfl)))); all_goals (conv => lhs; whnf; arg 1; whnf)) _ Tryd.underlying9 rfl ?_) | (refine wpList_kn_loadW KN (by rfl) 48 _ rfl _ rfl _ _ (by repeat (first | exact Has.here | refine Has.there ?_)) _ Tryd.underlying48 rfl (by kernel_rfl) ?_) | (refine wpList_kn_load1 KN (by rfl) 21 _ rfl _ _ rfl _ _ (by repeat (first | exact Has.here | refine Has.there ?_)) _ (by (repeat (first | ((with_reducible refine get_hit ?_); exact Nat.le_of_ble_eq_true (by kernel_rfl)) | ((with_reducible refine (get_miss ?_).trans ?_); (focus kernel_rfl)) | ((with_reducible refine (get_pmiss ?_).trans ?_); (focus kernel_rfl)))); all_goals (conv => lhs; whnf; arg 1; whnf)) _ Tryd.underlying21 rfl ?_)) | ((refine gate_store (by rfl) ?_); first | (refine wpList_kn_storeW KN (by rfl) 33 _ _ rfl _ rfl _ rfl _ _ (by repeat (first | exact Repl.here | apply Repl.there)) (by kernel_rfl) (by kernel_rfl) (by kernel_rfl) ?_; clear KN; intro wx KN) | (refine wpList_kn_storeA KN (by rfl) 33 _ _ rfl _ _ rfl _ rfl _ _ (by repeat (first | exact Repl.here | apply Repl.there)) (by (try simp only [Array.size_setIfInBounds, putL_size]); first | exact Nat.le_of_ble_eq_true rfl | (simp; omega)) (by kernel_rfl) (by kernel_rfl) ?_; clear KN; intro wx KN) | (refine wpList_kn_store1 KN (by rfl) 9 _ _ rfl _ _ rfl _ (by conv => lhs; whnf) (by rfl) _ _ (by repeat (first | exact Repl.here | apply Repl.there)) (by (try simp only [Array.size_setIfInBounds, putL_size]); first | exact Nat.le_of_ble_eq_true rfl | (simp; omega)) (by kernel_rfl) (by rfl) ?_; clear KN; intro wx KN) | (refine wpList_kn_store1 KN (by rfl) 21 _ _ rfl _ _ rfl _ (by conv => lhs; whnf) (by rfl) _ _ (by repeat (first | exact Repl.here | apply Repl.there)) (by (try simp only [Array.size_setIfInBounds, putL_size]); first | exact Nat.le_of_ble_eq_true rfl | (simp; omega)) (by kernel_rfl) (by rfl) ?_; clear KN; intro wx KN)) | ((refine gate_new (by rfl) ?_); first | (refine wpList_kn_alloc KN (by rfl) 33 rfl 8 rfl #[.int .i64 0, .int .i64 0] (by kernel_rfl) ?_; clear KN; intro g8 wx hg8 KN) | (refine wpList_kn_alloc KN (by rfl) 33 rfl 12 rfl #[.int .i64 0, .int .i64 0] (by kernel_rfl) ?_; clear KN; intro g12 wx hg12 KN))))
  (try go_frame)
  obtain ⟨n, hn⟩ : ∃ n, n = p.length := ⟨_, rfl⟩
  obtain ⟨m, hm⟩ : ∃ m, m = q.length := ⟨_, rfl⟩
  have HOP : Hid (∀ x ∈ p, InsOk x) := Lib.hid (fun x hx => InsOk.of (progErr_all h5 x hx) (h6 x hx).1)
  have HOQ : Hid (∀ x ∈ q, InsOk x) := Lib.hid (fun x hx => InsOk.of (progErr_all i5 x hx) (i6 x hx).1)
  rw [← hn] at h1 h3 h4 ⊢
  rw [← hm] at i1 i3 i4 ⊢
  have HN := Lib.hid hn
  have HQN := Lib.hid hm
  have H5 := Lib.hid h5
  have H6 := Lib.hid h6
  have I5 := Lib.hid i5
  have I6 := Lib.hid i6
  clear hn hm h5 h6 i5 i6
  go_upto_region 5 with (first | (go_at_call 11; refine (Disassemble_any _ q _ (Instrs.of_kn' KN (by repeat (first | exact Has.here | refine Has.there ?_)) HQN.out.symm (by rw [← HQN.out]; exact i1) i2 I6.out) (HP.out.below KN.toBelow)).mono ?_; rintro e wx ⟨rfl, hb⟩; replace KN := KN.below hb; clear hb) | (go_at_call 13; refine (Scan_prog I5.out HOQ.out (by rw [← HQN.out]; exact i4) _).mono ?_; intro e wz hq; obtain ⟨d, gt, capt, rfl, hr, hc1, hc2, hdl, K2⟩ := hq; replace KN := KN.call0 K2; clear K2; simp only [List.cons_append, List.nil_append] at KN) | ((with_reducible refine wpList_gate ?_); first | ((refine gate_load (by rfl) ?_); first | (refine wpList_kn_load1 KN (by rfl) 3 _ rfl _ _ rfl _ _ (by repeat (first | exact Has.here | refine Has.there ?_)) _ (by (repeat (first | ((with_reducible refine get_hit ?_); exact Nat.le_of_ble_eq_true (by kernel_rfl)) | ((with_reducible refine (get_miss ?_).trans ?_); (focus kernel_rfl)) | ((with_reducible refine (get_pmiss ?_).trans ?_); (focus kernel_rfl)))); all_goals (conv => lhs; whnf; arg 1; whnf)) _ Tryd.underlying3 rfl ?_) | (refine wpList_kn_load1 KN (by rfl) 9 _ rfl _ _ rfl _ _ (by repeat (first | exact Has.here | refine Has.there ?_)) _ (by (repeat (first | ((with_reducible refine get_hit ?_); exact Nat.le_of_ble_eq_true (by kernel_rfl)) | ((with_reducible refine (get_miss ?_).trans ?_); (focus kernel_rfl)) | ((with_reducible refine (get_pmiss ?_).trans ?_); (focus kernel_rfl)))); all_goals (conv => lhs; whnf; arg 1; whnf)) _ Tryd.underlying9 rfl ?_) | (refine wpList_kn_loadW KN (by rfl) 48 _ rfl _ rfl _ _ (by repeat (first | exact Has.here | refine Has.there ?_)) _ Tryd.underlying48 rfl (by kernel_rfl) ?_) | (refine wpList_kn_load1 KN (by rfl) 21 _ rfl _ _ rfl _ _ (by repeat (first | exact Has.here | refine Has.there ?_)) _ (by (repeat (first | ((with_reducible refine get_hit ?_); exact Nat.le_of_ble_eq_true (by kernel_rfl)) | ((with_reducible refine (get_miss ?_).trans ?_); (focus kernel_rfl)) | ((with_reducible refine (get_pmiss ?_).trans ?_); (focus kernel_rfl)))); all_goals (conv => lhs; whnf; arg 1; whnf)) _ Tryd.underlying21 rfl ?_)) | ((refine gate_store (by rfl) ?_); first | (refine wpList_kn_storeW KN (by rfl) 33 _ _ rfl _ rfl _ rfl _ _ (by repeat (first | exact Repl.here | apply Repl.there)) (by kernel_rfl) (by kernel_rfl) (by kernel_rfl) ?_; clear KN; intro wx KN) | (refine wpList_kn_storeA KN (by rfl) 33 _ _ rfl _ _ rfl _ rfl _ _ (by repeat (first | exact Repl.here | apply Repl.there)) (by (try simp only [Array.size_setIfInBounds, putL_size]); first | exact Nat.le_of_ble_eq_true rfl | (simp; omega)) (by kernel_rfl) (by kernel_rfl) ?_; clear KN; intro wx KN) | (refine wpList_kn_store1 KN (by rfl) 9 _ _ rfl _ _ rfl _ (by conv => lhs; whnf) (by rfl) _ _ (by repeat (first | exact Repl.here | apply Repl.there)) (by (try simp only [Array.size_setIfInBounds, putL_size]); first | exact Nat.le_of_ble_eq_true rfl | (simp; omega)) (by kernel_rfl) (by rfl) ?_; clear KN; intro wx KN) | (refine wpList_kn_store1 KN (by rfl) 21 _ _ rfl _ _ rfl _ (by conv => lhs; whnf) (by rfl) _ _ (by repeat (first | exact Repl.here | apply Repl.there)) (by (try simp only [Array.size_setIfInBounds, putL_size]); first | exact Nat.le_of_ble_eq_true rfl | (simp; omega)) (by kernel_rfl) (by rfl) ?_; clear KN; intro wx KN)) | ((refine gate_new (by rfl) ?_); first | (refine wpList_kn_alloc KN (by rfl) 33 rfl 8 rfl #[.int .i64 0, .int .i64 0] (by kernel_rfl) ?_; clear KN; intro g8 wx hg8 KN) | (refine wpList_kn_alloc KN (by rfl) 33 rfl 12 rfl #[.int .i64 0, .int .i64 0] (by kernel_rfl) ?_; clear KN; intro g12 wx hg12 KN))))
  (try go_frame)
  obtain ⟨dn, hdn⟩ : ∃ dn, dn = d.length := ⟨_, rfl⟩
  rw [← hdn] at hc1 hdl ⊢
  have HDN := Lib.hid hdn
  have HR := Lib.hid hr
  clear hdn hr
  go_wp2_with (first | ((with_reducible refine wpList_gate ?_); first | ((refine gate_load (by rfl) ?_); first | (refine wpList_kn_load1 KN (by rfl) 3 _ rfl _ _ rfl _ _ (by repeat (first | exact Has.here | refine Has.there ?_)) _ (by (repeat (first | ((with_reducible refine get_hit ?_); exact Nat.le_of_ble_eq_true (by kernel_rfl)) | ((with_reducible refine (get_miss ?_).trans ?_); (focus kernel_rfl)) | ((with_reducible refine (get_pmiss ?_).trans ?_); (focus kernel_rfl)))); all_goals (conv => lhs; whnf; arg 1; whnf)) _ Tryd.underlying3 rfl ?_) | (refine wpList_kn_load1 KN (by rfl) 9 _ rfl _ _ rfl _ _ (by repeat (first | exact Has.here | refine Has.there ?_)) _ (by (repeat (first | ((with_reducible refine get_hit ?_); exact Nat.le_of_ble_eq_true (by kernel_rfl)) | ((with_reducible refine (get_miss ?_).trans ?_); (focus kernel_rfl)) | ((with_reducible refine (get_pmiss ?_).trans ?_); (focus kernel_rfl)))); all_goals (conv => lhs; whnf; arg 1; whnf)) _ Tryd.underlying9 rfl ?_) | (refine wpList_kn_loadW KN (by rfl) 48 _ rfl _ rfl _ _ (by repeat (first | exact Has.here | refine Has.there ?_)) _ Tryd.underlying48 rfl (by kernel_rfl) ?_) | (refine wpList_kn_load1 KN (by rfl) 21 _ rfl _ _ rfl _ _ (by repeat (first | exact Has.here | refine Has.there ?_)) _ (by (repeat (first | ((with_reducible refine get_hit ?_); exact Nat.le_of_ble_eq_true (by kernel_rfl)) | ((with_reducible refine (get_miss ?_).trans ?_); (focus kernel_rfl)) | ((with_reducible refine (get_pmiss ?_).trans ?_); (focus kernel_rfl)))); all_goals (conv => lhs; whnf; arg 1; whnf)) _ Tryd.underlying21 rfl ?_)) | ((refine gate_store (by rfl) ?_); first | (refine wpList_kn_storeW KN (by rfl) 33 _ _ rfl _ rfl _ rfl _ _ (by repeat (first | exact Repl.here | apply Repl.there)) (by kernel_rfl) (by kernel_rfl) (by kernel_rfl) ?_; clear KN; intro wx KN) | (refine wpList_kn_storeA KN (by rfl) 33 _ _ rfl _ _ rfl _ rfl _ _ (by repeat (first | exact Repl.here | apply Repl.there)) (by (try simp only [Array.size_setIfInBounds, putL_size]); first | exact Nat.le_of_ble_eq_true rfl | (simp; omega)) (by kernel_rfl) (by kernel_rfl) ?_; clear KN; intro wx KN) | (refine wpList_kn_store1 KN (by rfl) 9 _ _ rfl _ _ rfl _ (by conv => lhs; whnf) (by rfl) _ _ (by repeat (first | exact Repl.here | apply Repl.there)) (by (try simp only [Array.size_setIfInBounds, putL_size]); first | exact Nat.le_of_ble_eq_true rfl | (simp; omega)) (by kernel_rfl) (by rfl) ?_; clear KN; intro wx KN) | (refine wpList_kn_store1 KN (by rfl) 21 _ _ rfl _ _ rfl _ (by conv => lhs; whnf) (by rfl) _ _ (by repeat (first | exact Repl.here | apply Repl.there)) (by (try simp only [Array.size_setIfInBounds, putL_size]); first | exact Nat.le_of_ble_eq_true rfl | (simp; omega)) (by kernel_rfl) (by rfl) ?_; clear KN; intro wx KN)) | ((refine gate_new (by rfl) ?_); first | (refine wpList_kn_alloc KN (by rfl) 33 rfl 8 rfl #[.int .i64 0, .int .i64 0] (by kernel_rfl) ?_; clear KN; intro g8 wx hg8 KN) | (refine wpList_kn_alloc KN (by rfl) 33 rfl 12 rfl #[.int .i64 0, .int .i64 0] (by kernel_rfl) ?_; clear KN; intro g12 wx hg12 KN))))
  go_loopw [10] (fun i wr => CatRel w g8 gt capt g2 cap2 g1 cap1 d p q i wr) (fun i _ => dn - (intOf i).toNat)
  case atStart => exact ⟨0, rfl, Nat.zero_le _, by rw [renTo_zero]; exact KN⟩
  case round =>
    clear KN
    obtain ⟨k, rfl, hk, KN⟩ := hrel
    rw [← HDN.out] at hk
    by_cases hlt : k < dn
    · obtain ⟨t, ht⟩ : ∃ t, d[k]? = some t := ⟨_, List.getElem?_eq_getElem (by rw [← HDN.out]; exact hlt)⟩
      obtain ⟨hrk, hne⟩ := prog_toks I5.out HOQ.out HR.out t (List.mem_of_getElem? ht)
      obtain ⟨x0, x1, _, _, _⟩ := tok_cells KN (g := gt) (cap := capt) (d := renTo secN k d) (by repeat (first | exact Has.here | refine Has.there ?_)) (renTo_get ht)
      have HT := Lib.hid ht
      have HC : Hid (((renTo secN k d).map fun t => t.cells.toList)[k]? = some t.cells.toList) := Lib.hid (by rw [List.getElem?_map, renTo_get ht]; rfl)
      have HLN : Hid (((renTo secN k d).map fun t => t.cells.toList).length ≤ capt) := Lib.hid (by rw [List.length_map, renTo_len, ← HDN.out]; exact hc1)
      have hts200 : (str t.raw.text).size ≤ 200 := by rw [str_size]; exact hrk.2.2
      clear hrk ht
      by_cases hk1 : t.raw.kind = 1
      · have hs := hne hk1
        have hL := isLB_str hs
        rw [hk1] at x0
        have HSEC : Hid ((⟨#[115, 101, 99, 111, 110, 100]⟩ : ByteArray) ++ str t.raw.text = str (secN t.raw.text)) := Lib.hid (sec_str _)
        have HY := Lib.hid (renT_yes (f := secN) (t := t))
        clear hne
        generalize str t.raw.text = ts at x1 hs hL HSEC hts200
        by_cases h76 : ((ts[0]'hs).toNat : Int) = 76
        · have hb : isLB t.raw = true := by rw [hL]; simp [hk1, h76]
          have HSET : Hid (((renTo secN k d).map fun t => t.cells.toList).set k (t.cells.toList.set 1 (.string ((⟨#[115, 101, 99, 111, 110, 100]⟩ : ByteArray) ++ ts))) = (renTo secN (k + 1) d).map fun t => t.cells.toList) := Lib.hid (by
            rw [← renTo_set HT.out, List.map_set, HY.out hb, HSEC.out])
          clear hL hb HY HSEC
          go_upto_region 9 with (first | ((with_reducible refine wpList_gate ?_); first | (refine wpList_kn_elemC KN (by rfl) 9 (.tmp 67) (.tmp 65) rfl gt (k * 5 + 1) rfl (.string ((⟨#[115, 101, 99, 111, 110, 100]⟩ : ByteArray) ++ ts)) rfl rfl k 1 t.cells.toList HC.out rfl (by repeat (first | exact Repl.here | apply Repl.there)) (tok_len _) HLN.out (by decide) (by kernel_rfl) rfl ?_; clear KN; intro wx KN) | ((refine gate_load (by rfl) ?_); first | (refine wpList_kn_load1 KN (by rfl) 3 _ rfl _ _ rfl _ _ (by repeat (first | exact Has.here | refine Has.there ?_)) _ (by (repeat (first | ((with_reducible refine get_hit ?_); exact Nat.le_of_ble_eq_true (by kernel_rfl)) | ((with_reducible refine (get_miss ?_).trans ?_); (focus kernel_rfl)) | ((with_reducible refine (get_pmiss ?_).trans ?_); (focus kernel_rfl)))); all_goals (conv => lhs; whnf; arg 1; whnf)) _ Tryd.underlying3 rfl ?_) | (refine wpList_kn_load1 KN (by rfl) 9 _ rfl _ _ rfl _ _ (by repeat (first | exact Has.here | refine Has.there ?_)) _ (by (repeat (first | ((with_reducible refine get_hit ?_); exact Nat.le_of_ble_eq_true (by kernel_rfl)) | ((with_reducible refine (get_miss ?_).trans ?_); (focus kernel_rfl)) | ((with_reducible refine (get_pmiss ?_).trans ?_); (focus kernel_rfl)))); all_goals (conv => lhs; whnf; arg 1; whnf)) _ Tryd.underlying9 rfl ?_) | (refine wpList_kn_loadW KN (by rfl) 48 _ rfl _ rfl _ _ (by repeat (first | exact Has.here | refine Has.there ?_)) _ Tryd.underlying48 rfl (by kernel_rfl) ?_) | (refine wpList_kn_load1 KN (by rfl) 21 _ rfl _ _ rfl _ _ (by repeat (first | exact Has.here | refine Has.there ?_)) _ (by (repeat (first | ((with_reducible refine get_hit ?_); exact Nat.le_of_ble_eq_true (by kernel_rfl)) | ((with_reducible refine (get_miss ?_).trans ?_); (focus kernel_rfl)) | ((with_reducible refine (get_pmiss ?_).trans ?_); (focus kernel_rfl)))); all_goals (conv => lhs; whnf; arg 1; whnf)) _ Tryd.underlying21 rfl ?_)) | ((refine gate_store (by rfl) ?_); first | (refine wpList_kn_storeW KN (by rfl) 33 _ _ rfl _ rfl _ rfl _ _ (by repeat (first | exact Repl.here | apply Repl.there)) (by kernel_rfl) (by kernel_rfl) (by kernel_rfl) ?_; clear KN; intro wx KN) | (refine wpList_kn_storeA KN (by rfl) 33 _ _ rfl _ _ rfl _ rfl _ _ (by repeat (first | exact Repl.here | apply Repl.there)) (by (try simp only [Array.size_setIfInBounds, putL_size]); first | exact Nat.le_of_ble_eq_true rfl | (simp; omega)) (by kernel_rfl) (by kernel_rfl) ?_; clear KN; intro wx KN) | (refine wpList_kn_store1 KN (by rfl) 9 _ _ rfl _ _ rfl _ (by conv => lhs; whnf) (by rfl) _ _ (by repeat (first | exact Repl.here | apply Repl.there)) (by (try simp only [Array.size_setIfInBounds, putL_size]); first | exact Nat.le_of_ble_eq_true rfl | (simp; omega)) (by kernel_rfl) (by rfl) ?_; clear KN; intro wx KN) | (refine wpList_kn_store1 KN (by rfl) 21 _ _ rfl _ _ rfl _ (by conv => lhs; whnf) (by rfl) _ _ (by repeat (first | exact Repl.here | apply Repl.there)) (by (try simp only [Array.size_setIfInBounds, putL_size]); first | exact Nat.le_of_ble_eq_true rfl | (simp; omega)) (by kernel_rfl) (by rfl) ?_; clear KN; intro wx KN)) | ((refine gate_new (by rfl) ?_); first | (refine wpList_kn_alloc KN (by rfl) 33 rfl 8 rfl #[.int .i64 0, .int .i64 0] (by kernel_rfl) ?_; clear KN; intro g8 wx hg8 KN) | (refine wpList_kn_alloc KN (by rfl) 33 rfl 12 rfl #[.int .i64 0, .int .i64 0] (by kernel_rfl) ?_; clear KN; intro g12 wx hg12 KN))))
          rw [HSET.out] at KN
          go_wp2_with fail
          go_roundw
          case rel => exact ⟨k + 1, by go_num, by rw [← HDN.out]; omega, KN⟩
          case measure => simp [intOf]; omega
        · have hb : isLB t.raw = false := by rw [hL]; simp [h76]
          have HSK := Lib.hid (renTo_skip HT.out (renT_no (f := secN) hb))
          clear hL hb HY HSEC
          go_wp2_with fail
          go_roundw
          case rel => exact ⟨k + 1, by go_num, by rw [← HDN.out]; omega, by rw [HSK.out]; exact KN⟩
          case measure => simp [intOf]; omega
      · have hb : isLB t.raw = false := by unfold isLB; rw [decide_eq_false hk1]; rfl
        have HSK := Lib.hid (renTo_skip HT.out (renT_no (f := secN) hb))
        clear hne hb
        go_wp2_with fail
        go_roundw
        case rel => exact ⟨k + 1, by go_num, by rw [← HDN.out]; omega, by rw [HSK.out]; exact KN⟩
        case measure => simp [intOf]; omega
    · have hkd : k = d.length := by rw [← HDN.out]; omega
      subst hkd
      rw [renTo_all] at KN
      obtain ⟨hfew, hraw⟩ := fewB_ren secN_word I5.out HOQ.out (by rw [← HQN.out]; exact i4) HR.out
      obtain ⟨hsl, ds, hds1, hds2⟩ := scan_two secN_word H5.out HOP.out I5.out HOQ.out (by rw [← HN.out]; exact h4) (by rw [← HQN.out]; exact i4)
      have hasm := asm_cat secN_inj secN_good secN_ne H5.out I5.out HOP.out HOQ.out (by rw [← HN.out, ← HQN.out]; omega) hds1 hds2
      have HTL : Hid ((d.map (renT secN)).length = dn) := Lib.hid (by rw [List.length_map, ← HDN.out])
      obtain ⟨sa, hsa⟩ : ∃ sa, sa = str (disL p) := ⟨_, rfl⟩
      obtain ⟨sb, hsb⟩ : ∃ sb, sb = str (formatL (renG secN secN (linesK q 0 q))) := ⟨_, rfl⟩
      have hab : sa ++ sb = str (disL p ++ formatL (renG secN secN (linesK q 0 q))) := by rw [hsa, hsb]; refine bytes_ext ?_; rw [data_str]; simp [str]
      have hsz : sa.size + sb.size ≤ 65536 := by rw [hsa, hsb, str_size, str_size]; rw [List.length_append] at hsl; exact hsl
      have HFEW := Lib.hid hfew
      have HRAW := Lib.hid hraw
      have HSL := Lib.hid hsl
      have HASM := Lib.hid hasm
      have HSA := Lib.hid hsa
      have HSB := Lib.hid hsb
      have HAB := Lib.hid hab
      have HRL : Hid ((p ++ q.map (moveI p.length)).length = n + m) := Lib.hid (by rw [List.length_append, List.length_map, ← HN.out, ← HQN.out])
      clear hfew hraw hsl hds1 hds2 hasm hsa hsb hab
      go_upto_region 13 with (first | (go_at_call 11; refine (Disassemble_any _ p _ (Instrs.of_kn' KN (by repeat (first | exact Has.here | refine Has.there ?_)) HN.out.symm (by rw [← HN.out]; exact h1) h2 H6.out) (HP.out.below KN.toBelow)).mono ?_; rw [← HSA.out]; rintro e wx ⟨rfl, hb⟩; replace KN := KN.below hb; clear hb) | (go_at_call 14; refine (FormatP_any _ (d.map (renT secN)) _ (TokRd.of_kn KN (by repeat (first | exact Has.here | refine Has.there ?_)) HTL.out (by rw [HTL.out]; exact hc1) hc2) HFEW.out (HP.out.below KN.toBelow)).mono ?_; rw [HRAW.out, ← HSB.out]; rintro e wx ⟨rfl, hb⟩; replace KN := KN.below hb; clear hb) | (go_at_call 10; rw [HAB.out]; refine (Assemble_known HASM.out (by rw [HRL.out]; omega) HSL.out _).mono ?_; rw [HRL.out]; intro e wx hq; obtain ⟨gr, capr, rfl, e1, e2, K2⟩ := hq; replace KN := KN.call0 K2; clear K2; simp only [List.cons_append, List.nil_append] at KN) | ((with_reducible refine wpList_gate ?_); first | ((refine gate_load (by rfl) ?_); first | (refine wpList_kn_load1 KN (by rfl) 3 _ rfl _ _ rfl _ _ (by repeat (first | exact Has.here | refine Has.there ?_)) _ (by (repeat (first | ((with_reducible refine get_hit ?_); exact Nat.le_of_ble_eq_true (by kernel_rfl)) | ((with_reducible refine (get_miss ?_).trans ?_); (focus kernel_rfl)) | ((with_reducible refine (get_pmiss ?_).trans ?_); (focus kernel_rfl)))); all_goals (conv => lhs; whnf; arg 1; whnf)) _ Tryd.underlying3 rfl ?_) | (refine wpList_kn_load1 KN (by rfl) 9 _ rfl _ _ rfl _ _ (by repeat (first | exact Has.here | refine Has.there ?_)) _ (by (repeat (first | ((with_reducible refine get_hit ?_); exact Nat.le_of_ble_eq_true (by kernel_rfl)) | ((with_reducible refine (get_miss ?_).trans ?_); (focus kernel_rfl)) | ((with_reducible refine (get_pmiss ?_).trans ?_); (focus kernel_rfl)))); all_goals (conv => lhs; whnf; arg 1; whnf)) _ Tryd.underlying9 rfl ?_) | (refine wpList_kn_loadW KN (by rfl) 48 _ rfl _ rfl _ _ (by repeat (first | exact Has.here | refine Has.there ?_)) _ Tryd.underlying48 rfl (by kernel_rfl) ?_) | (refine wpList_kn_load1 KN (by rfl) 21 _ rfl _ _ rfl _ _ (by repeat (first | exact Has.here | refine Has.there ?_)) _ (by (repeat (first | ((with_reducible refine get_hit ?_); exact Nat.le_of_ble_eq_true (by kernel_rfl)) | ((with_reducible refine (get_miss ?_).trans ?_); (focus kernel_rfl)) | ((with_reducible refine (get_pmiss ?_).trans ?_); (focus kernel_rfl)))); all_goals (conv => lhs; whnf; arg 1; whnf)) _ Tryd.underlying21 rfl ?_)) | ((refine gate_store (by rfl) ?_); first | (refine wpList_kn_storeW KN (by rfl) 33 _ _ rfl _ rfl _ rfl _ _ (by repeat (first | exact Repl.here | apply Repl.there)) (by kernel_rfl) (by kernel_rfl) (by kernel_rfl) ?_; clear KN; intro wx KN) | (refine wpList_kn_storeA KN (by rfl) 33 _ _ rfl _ _ rfl _ rfl _ _ (by repeat (first | exact Repl.here | apply Repl.there)) (by (try simp only [Array.size_setIfInBounds, putL_size]); first | exact Nat.le_of_ble_eq_true rfl | (simp; omega)) (by kernel_rfl) (by kernel_rfl) ?_; clear KN; intro wx KN) | (refine wpList_kn_store1 KN (by rfl) 9 _ _ rfl _ _ rfl _ (by conv => lhs; whnf) (by rfl) _ _ (by repeat (first | exact Repl.here | apply Repl.there)) (by (try simp only [Array.size_setIfInBounds, putL_size]); first | exact Nat.le_of_ble_eq_true rfl | (simp; omega)) (by kernel_rfl) (by rfl) ?_; clear KN; intro wx KN) | (refine wpList_kn_store1 KN (by rfl) 21 _ _ rfl _ _ rfl _ (by conv => lhs; whnf) (by rfl) _ _ (by repeat (first | exact Repl.here | apply Repl.there)) (by (try simp only [Array.size_setIfInBounds, putL_size]); first | exact Nat.le_of_ble_eq_true rfl | (simp; omega)) (by kernel_rfl) (by rfl) ?_; clear KN; intro wx KN)) | ((refine gate_new (by rfl) ?_); first | (refine wpList_kn_alloc KN (by rfl) 33 rfl 8 rfl #[.int .i64 0, .int .i64 0] (by kernel_rfl) ?_; clear KN; intro g8 wx hg8 KN) | (refine wpList_kn_alloc KN (by rfl) 33 rfl 12 rfl #[.int .i64 0, .int .i64 0] (by kernel_rfl) ?_; clear KN; intro g12 wx hg12 KN))))
      (try go_frame)
      obtain ⟨rn, hrn⟩ : ∃ rn, rn = n + m := ⟨_, rfl⟩
      rw [← hrn] at e1 ⊢
      have HRN := Lib.hid hrn
      have hrni : (rn : Int) = (n : Int) + (m : Int) := by omega
      have hbe : ((rn : Int) != (n : Int) + (m : Int)) = false := by rw [hrni]; simp
      clear hrn
      have HW := Lib.hid KN.toBelow
      replace KN := KN.sub (((((List.Sublist.refl _).cons _).cons _).cons_cons _).cons _)
      go_wp2_with fail
      go_loopw [14] (fun i wr => ∃ k : Nat, i = .int .i64 (k : Int) ∧ k ≤ q.length ∧ Kn [] w wr [(gr, CapAt 48 5 capr ((p ++ q.map (moveI p.length)).map fun x => x.cells.toList)), (g2, CapAt 48 5 cap2 ((movTo n k q).map fun x => x.cells.toList)), (g1, CapAt 48 5 cap1 (p.map fun x => x.cells.toList))]) (fun i _ => m - (intOf i).toNat)
      case atStart => exact ⟨0, rfl, Nat.zero_le _, by rw [movTo_zero]; exact KN⟩
      case round =>
        clear KN
        obtain ⟨k, rfl, hk, KN⟩ := hrel
        rw [← HQN.out] at hk
        by_cases hlt : k < m
        · obtain ⟨x, hx⟩ : ∃ x, q[k]? = some x := ⟨_, List.getElem?_eq_getElem (by rw [← HQN.out]; exact hlt)⟩
          have hxq := List.mem_of_getElem? hx
          obtain ⟨x0, x1, x2, x3, x4⟩ := ins_cells KN (g := g2) (cap := cap2) (p := movTo n k q) (by repeat (first | exact Has.here | refine Has.there ?_)) (movTo_get hx)
          have HX := Lib.hid hx
          have HC : Hid (((movTo n k q).map fun x => x.cells.toList)[k]? = some x.cells.toList) := Lib.hid (by rw [List.getElem?_map, movTo_get hx]; rfl)
          have HLN : Hid (((movTo n k q).map fun x => x.cells.toList).length ≤ cap2) := Lib.hid (by rw [List.length_map, movTo_len, ← HQN.out]; exact i1)
          obtain ⟨o0, o1⟩ := (HOQ.out x hxq).op
          have hfx := (I6.out x hxq)
          cases hu : uses x.op 116 with
          | true =>
            have HU := Lib.hid hu
            have b0 := (HOQ.out x hxq).tgt hu
            have b1 := tgt_of (progErr_all I5.out x hxq) hu
            rw [← HQN.out] at b1
            have HSET : Hid (((movTo n k q).map fun x => x.cells.toList).set k (x.cells.toList.set 4 (.int .i32 (x.imm + (n : Int)))) = (movTo n (k + 1) q).map fun x => x.cells.toList) := Lib.hid (by
              rw [← movTo_set HX.out, List.map_set, moveI_yes hu])
            clear hu hx hxq hfx
            go_upto_if 100 with (go_at_call 15; refine (Jumps_any x _ o0 o1).mono ?_; rintro e wx ⟨rfl, hb⟩; rw [HU.out]; replace KN := KN.below hb; clear hb)
            clear x0 x1 x2 x3 x4
            obtain ⟨_, _, _, _, x4⟩ := ins_cells KN (g := g2) (cap := cap2) (p := movTo n k q) (by repeat (first | exact Has.here | refine Has.there ?_)) (movTo_get HX.out)
            go_upto_region 17 with (refine wpList_kn_elemC KN (by rfl) 21 (.tmp 113) (.tmp 111) rfl g2 (k * 5 + 4) rfl (.int .i32 (x.imm + (n : Int))) rfl rfl k 4 x.cells.toList HC.out rfl (by repeat (first | exact Repl.here | apply Repl.there)) (insLen _) HLN.out (by decide) (by kernel_rfl) rfl ?_; clear KN; intro wx KN)
            rw [HSET.out] at KN
            go_wp2_with fail
            go_roundw
            case rel => exact ⟨k + 1, by go_num, by rw [← HQN.out]; omega, KN⟩
            case measure => simp [intOf]; omega
          | false =>
            have HU := Lib.hid hu
            have HSK := Lib.hid (movTo_skip HX.out (moveI_no (n := n) hu))
            clear hu hx hxq hfx
            go_wp2_with (go_at_call 15; refine (Jumps_any x _ o0 o1).mono ?_; rintro e wx ⟨rfl, hb⟩; rw [HU.out]; replace KN := KN.below hb; clear hb)
            go_roundw
            case rel => exact ⟨k + 1, by go_num, by rw [← HQN.out]; omega, by rw [HSK.out]; exact KN⟩
            case measure => simp [intOf]; omega
        · have hkd : k = q.length := by rw [← HQN.out]; omega
          subst hkd
          rw [movTo_all, HN.out] at KN
          have hqm : ¬ ((q.length : Int) < (m : Int)) := by have := HQN.out; omega
          have h1r : n ≤ capr := by omega
          have h2r : m ≤ capr - n := by omega
          have hltr : n < capr := by omega
          have HC2 : Hid (capr - n ≤ maxLen) := Lib.hid (by omega)
          have HLM : Hid ((q.map (moveI p.length)).length = m) := Lib.hid (by rw [List.length_map, HQN.out])
          have HF2 : Hid (∀ x ∈ q.map (moveI p.length), x.fits) := Lib.hid (fun y hy => by
            obtain ⟨x, hx, rfl⟩ := List.mem_map.1 hy
            refine moveI_fits (I6.out x hx) (fun hu => ?_) (by rw [← HN.out]; omega)
            have h3 := (HOQ.out x hx).tgt hu
            have h4 := tgt_of (progErr_all I5.out x hx) hu
            rw [← HQN.out] at h4
            omega)
          go_upto_region 20 with fail
          have HS1 : Hid (Instrs wr (.slice (some ⟨gr, 0, none⟩) n capr) p) := Lib.hid (Instrs.part (k := 0) (r := p ++ q.map (moveI p.length)) KN (by repeat (first | exact Has.here | refine Has.there ?_)) (fun _ _ h => get_left h) HN.out.symm (by omega) h1r e2 H6.out)
          have HS2 : Hid (Instrs wr (.slice (some ⟨gr, n * 5, none⟩) m (capr - n)) (q.map (moveI p.length))) := Lib.hid (Instrs.part (k := n) (r := p ++ q.map (moveI p.length)) KN (by repeat (first | exact Has.here | refine Has.there ?_)) (fun _ _ h => get_right HN.out.symm h) HLM.out (by omega) h2r HC2.out HF2.out)
          have HS3 : Hid (Instrs wr (.slice (some ⟨g1, 0, none⟩) n cap1) p) := Lib.hid (Instrs.of_kn' KN (by repeat (first | exact Has.here | refine Has.there ?_)) HN.out.symm (by rw [← HN.out]; exact h1) h2 H6.out)
          have HS4 : Hid (Instrs wr (.slice (some ⟨g2, 0, none⟩) m cap2) (q.map (moveI p.length))) := Lib.hid (Instrs.of_kn' KN (by repeat (first | exact Has.here | refine Has.there ?_)) HLM.out (by rw [HLM.out]; exact i1) i2 HF2.out)
          have HWR := Lib.hid KN.toBelow
          replace KN := Kn.start wr
          have hrm : rn - n = m := by omega
          go_wp2_with (first | (go_at_call 12; have hC := Same_eq _ _ p _ (HS1.out.below KN.toBelow) (HS3.out.below KN.toBelow); with_reducible refine hC.mono ?_; clear hC; rintro e wx ⟨rfl, hb⟩; replace KN := KN.below hb; clear hb) | (go_at_call 12; (try rw [hrm]); have hC := Same_eq _ _ (q.map (moveI p.length)) _ (HS2.out.below KN.toBelow) (HS4.out.below KN.toBelow); with_reducible refine hC.mono ?_; clear hC; rintro e wx ⟨rfl, hb⟩; replace KN := KN.below hb; clear hb) | (go_at_call 6; refine (awake_any _).mono ?_; rintro e wx ⟨rfl, hb⟩; replace KN := KN.below hb; clear hb))
          go_ret
          exact ⟨rfl, HWR.out.trans (KN.toBelow.mono HWR.out.size)⟩
theorem isaConcat_any (va vb : Value) (zl zm : List Int) (w : World) (hz : Ints w va zl) (hz2 : Ints w vb zm) (hp : Pow w) :
    Calls Tryd.prog 4 #[va, vb] w fun e w' => e = .returned (.bool true) ∧ Below w.heap.size w w' := by
  by_cases h : zl.length ≤ 200 ∧ zm.length ≤ 200
  · exact concatI_near va vb zl zm w hz hz2 h.1 h.2 hp
  · obtain ⟨za, zc, rfl, hzm⟩ := hz.form
    obtain ⟨ma, mc, rfl, hmm⟩ := hz2.form
    obtain ⟨n, hn⟩ : ∃ n, n = zl.length := ⟨_, rfl⟩
    obtain ⟨m, hm⟩ : ∃ m, m = zm.length := ⟨_, rfl⟩
    rw [← hn] at h hzm ⊢
    rw [← hm] at h hmm ⊢
    unfold maxLen at hzm hmm
    clear hz hz2 hn hm
    have hor : 200 < n ∨ (n ≤ 200 ∧ 200 < m) := by omega
    clear h
    rcases hor with h1 | ⟨h1, h2⟩
    all_goals
      go_enter Tryd.func4, Tryd.ntmps4
      go_wp2_with (go_at_call 6; refine (awake_any _).mono ?_; rintro e wx ⟨rfl, hb⟩)
      go_ret
      exact ⟨rfl, hb⟩
end Go.Proofs.YtemigcdieghkfabDoor
