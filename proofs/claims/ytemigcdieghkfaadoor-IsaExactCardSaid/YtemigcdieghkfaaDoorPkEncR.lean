/- The reference's Encode. -/
import Derived.Test.YtemigcdieghkfaaDoorPkEncG
import Derived.Test.YtemigcdieghkfaaDoorPkRefVal2
set_option linter.unusedVariables false
set_option linter.unusedSimpArgs false
set_option linter.unusedSectionVars false
namespace Go.Proofs.YtemigcdieghkfaaDoor
open Go.RowKit Go.BigFrame

theorem fixL_imm (v : Int) : fixL (v % 4294967296) = [v % 256, v / 256 % 256, v / 65536 % 256, v / 16777216 % 256] := by
  unfold fixL
  rw [show v % 4294967296 % 256 = v % 256 by omega, show v % 4294967296 / 256 % 256 = v / 256 % 256 by omega, show v % 4294967296 / 65536 % 256 = v / 65536 % 256 by omega, show v % 4294967296 / 16777216 % 256 = v / 16777216 % 256 by omega]
theorem encI_eq (x : Ins) : encI x = [x.op % 256, x.a % 256, x.b % 256, x.c % 256, x.imm % 256, x.imm / 256 % 256, x.imm / 65536 % 256, x.imm / 16777216 % 256] := by
  unfold encI; rw [fixL_imm]; rfl
set_option maxRecDepth 100000 in
set_option maxHeartbeats 40000000 in
theorem REncode_any (va : Value) (p : List Ins) (w : World) (h : Instrs w va p) : Calls Tryd.prog 17 #[va] w (EncPost p w) := by
  obtain ⟨a, c, rfl, _⟩ := h.form
  have H := Lib.hid h
  obtain ⟨n, hn⟩ : ∃ n, n = p.length := ⟨_, rfl⟩
  obtain ⟨er, her⟩ : ∃ er, er = progErr p := ⟨_, rfl⟩
  have HN := Lib.hid hn
  have HE := Lib.hid her
  rw [← hn]
  have KN := Kn.start w
  by_cases h0 : er = 0
  · subst h0
    have hb := progErr_len her.symm
    rw [← hn] at hb
    obtain ⟨hb0, hb1⟩ := hb
    clear h hn her
    go_enter Tryd.func17, Tryd.ntmps17
    go_wp2_with (first | (go_at_call 20; refine (RValidate_any _ p _ (by rw [HN.out]; exact H.out)).mono ?_; rintro e wx ⟨rfl, hb⟩; rw [← HE.out]; replace KN := KN.below hb; clear hb) | ((with_reducible refine wpList_gate ?_); first | ((refine gate_load (by rfl) ?_); first | (refine wpList_kn_loadW KN (by rfl) 35 _ rfl _ rfl _ _ (by repeat (first | exact Has.here | refine Has.there ?_)) _ Tryd.underlying35 rfl (by kernel_rfl) ?_) | (refine wpList_kn_load1 KN (by rfl) 3 _ rfl _ _ rfl _ _ (by repeat (first | exact Has.here | refine Has.there ?_)) _ (by (repeat (first | ((with_reducible refine get_hit ?_); exact Nat.le_of_ble_eq_true (by kernel_rfl)) | ((with_reducible refine (get_miss ?_).trans ?_); (focus kernel_rfl)) | ((with_reducible refine (get_pmiss ?_).trans ?_); (focus kernel_rfl)))); all_goals (conv => lhs; whnf; arg 1; whnf)) _ Tryd.underlying3 rfl ?_) | (refine wpList_kn_load1 KN (by rfl) 21 _ rfl _ _ rfl _ _ (by repeat (first | exact Has.here | refine Has.there ?_)) _ (by (repeat (first | ((with_reducible refine get_hit ?_); exact Nat.le_of_ble_eq_true (by kernel_rfl)) | ((with_reducible refine (get_miss ?_).trans ?_); (focus kernel_rfl)) | ((with_reducible refine (get_pmiss ?_).trans ?_); (focus kernel_rfl)))); all_goals (conv => lhs; whnf; arg 1; whnf)) _ Tryd.underlying21 rfl ?_)) | ((refine gate_store (by rfl) ?_); first | (refine wpList_kn_storeW KN (by rfl) 35 _ _ rfl _ rfl _ rfl _ _ (by repeat (first | exact Repl.here | apply Repl.there)) (by kernel_rfl) (by kernel_rfl) (by kernel_rfl) ?_; clear KN; intro wx KN) | (refine wpList_kn_storeA KN (by rfl) 35 _ _ rfl _ _ rfl _ rfl _ _ (by repeat (first | exact Repl.here | apply Repl.there)) (by (try simp only [Array.size_setIfInBounds, putL_size]); first | exact Nat.le_of_ble_eq_true rfl | (simp; omega)) (by kernel_rfl) (by kernel_rfl) ?_; clear KN; intro wx KN)) | ((refine gate_new (by rfl) ?_); first | (refine wpList_kn_alloc KN (by rfl) 35 rfl 7 rfl #[.int .i64 0, .int .i64 0, .int .i64 0, .int .i64 0, .int .i32 0] (by kernel_rfl) ?_; clear KN; intro g7 wx hg7 KN))))
    have HREL : Hid (EncRel p n w (.slice none 0 0) (.int .i64 0) wx) := Lib.hid ⟨0, [], rfl, Nat.zero_le _, .nil, KN⟩
    clear KN
    go_loopw [5, 6] (fun v i wr => EncRel p n w v i wr) (fun _ i _ => n - (intOf i).toNat)
    case atStart => exact HREL.out
    case round =>
      obtain ⟨k, ol, rfl, hk, OW, KN⟩ := hrel
      by_cases hlt : k < n
      · obtain ⟨x, hx⟩ : ∃ x, p[k]? = some x := ⟨_, List.getElem?_eq_getElem (by rw [← HN.out]; exact hlt)⟩
        obtain ⟨a', c', hv, hcells⟩ := (H.out.below KN.toBelow).form
        simp only [Value.slice.injEq] at hv
        obtain ⟨g2, off, hg2, hgb, hc1, hc2, x0, x1, x2, x3, x4⟩ := hcells k x hx
        obtain ⟨rfl, _, rfl⟩ := hv
        subst hg2
        have hfit := (H.out.2 x (List.mem_of_getElem? hx)).1
        have hol : (u8C (encP (p.take k))).length = 8 * k := by rw [u8C_len, encP_len, List.length_take, ← HN.out]; omega
        obtain ⟨ov, oc, hov⟩ := OW.form
        rw [hol] at hov
        subst hov
        have HO := Lib.hid OW
        have HOL := Lib.hid hol
        have HX := Lib.hid hx
        clear OW hol hx hcells hc1
        unfold maxLen at hc2
        go_wp2_with (first | ((with_reducible refine wpList_gate ?_); first | (refine wpList_kn_lit KN rfl 36 5 8 _ rfl 51 rfl Tryd.underlying36 #[.int .u8 (x.op % 256), .int .u8 (x.a % 256), .int .u8 (x.b % 256), .int .u8 (x.c % 256), .int .u8 (x.imm % 256), .int .u8 (x.imm / 256 % 256), .int .u8 (x.imm / 65536 % 256), .int .u8 (x.imm / 16777216 % 256)] (by kernel_rfl) ?_; clear KN; intro g51 wx hg51 KN) | (at_builtin; (refine wpList_kn_appendN (f := fun o => _ :: _ :: o) KN HO.out (by rfl) (.tmp 23) (.tmp 51) 36 rfl 1 Tryd.underlying36 (by kernel_rfl) (by decide) rfl g51 0 8 8 rfl (u8C [x.op % 256, x.a % 256, x.b % 256, x.c % 256, x.imm % 256, x.imm / 256 % 256, x.imm / 65536 % 256, x.imm / 16777216 % 256]) rfl (u8C_sz _) (by exact KN.src8 (by repeat (first | exact Has.here | refine Has.there ?_)) _ rfl) (u8C_one _) (by rw [HOL.out]; unfold maxLen; omega) (by rw [HOL.out]; omega) (by repeat (first | exact TailF.id | apply TailF.cons)) rfl ?_); clear KN; intro v2 wx ol2 OW2 KN) | ((refine gate_load (by rfl) ?_); first | (refine wpList_kn_loadW KN (by rfl) 35 _ rfl _ rfl _ _ (by repeat (first | exact Has.here | refine Has.there ?_)) _ Tryd.underlying35 rfl (by kernel_rfl) ?_) | (refine wpList_kn_load1 KN (by rfl) 3 _ rfl _ _ rfl _ _ (by repeat (first | exact Has.here | refine Has.there ?_)) _ (by (repeat (first | ((with_reducible refine get_hit ?_); exact Nat.le_of_ble_eq_true (by kernel_rfl)) | ((with_reducible refine (get_miss ?_).trans ?_); (focus kernel_rfl)) | ((with_reducible refine (get_pmiss ?_).trans ?_); (focus kernel_rfl)))); all_goals (conv => lhs; whnf; arg 1; whnf)) _ Tryd.underlying3 rfl ?_) | (refine wpList_kn_load1 KN (by rfl) 21 _ rfl _ _ rfl _ _ (by repeat (first | exact Has.here | refine Has.there ?_)) _ (by (repeat (first | ((with_reducible refine get_hit ?_); exact Nat.le_of_ble_eq_true (by kernel_rfl)) | ((with_reducible refine (get_miss ?_).trans ?_); (focus kernel_rfl)) | ((with_reducible refine (get_pmiss ?_).trans ?_); (focus kernel_rfl)))); all_goals (conv => lhs; whnf; arg 1; whnf)) _ Tryd.underlying21 rfl ?_)) | ((refine gate_store (by rfl) ?_); first | (refine wpList_kn_storeW KN (by rfl) 35 _ _ rfl _ rfl _ rfl _ _ (by repeat (first | exact Repl.here | apply Repl.there)) (by kernel_rfl) (by kernel_rfl) (by kernel_rfl) ?_; clear KN; intro wx KN) | (refine wpList_kn_storeA KN (by rfl) 35 _ _ rfl _ _ rfl _ rfl _ _ (by repeat (first | exact Repl.here | apply Repl.there)) (by (try simp only [Array.size_setIfInBounds, putL_size]); first | exact Nat.le_of_ble_eq_true rfl | (simp; omega)) (by kernel_rfl) (by kernel_rfl) ?_; clear KN; intro wx KN)) | ((refine gate_new (by rfl) ?_); first | (refine wpList_kn_alloc KN (by rfl) 35 rfl 7 rfl #[.int .i64 0, .int .i64 0, .int .i64 0, .int .i64 0, .int .i32 0] (by kernel_rfl) ?_; clear KN; intro g7 wx hg7 KN))))
        go_roundw
        case rel =>
          refine ⟨k + 1, ol2, by go_num, by omega, ?_, KN.sub (((List.Sublist.refl _).cons _).cons _)⟩
          rw [encP_take HX.out, encI_eq, u8C_app]
          exact OW2
        case measure => simp [intOf]; omega
      · have hkn : k = n := by omega
        rw [List.take_of_length_le (show p.length ≤ k by rw [← HN.out]; omega)] at OW
        have HO := Lib.hid OW
        clear OW
        go_wp2_with fail
        refine bodyPost_ret (results_tmp2 rfl _ _ _) rfl ?_
        refine ⟨_, ol, by rw [← HE.out]; rfl, ?_, KN⟩
        unfold encR
        rw [if_pos HE.out.symm]
        exact HO.out
  · have hb : (er != 0) = true := by rw [bne_iff_ne]; exact h0
    have H0 := Lib.hid h0
    clear h hn her h0
    go_enter Tryd.func17, Tryd.ntmps17
    go_wp2_with (first | (go_at_call 20; refine (RValidate_any _ p _ (by rw [HN.out]; exact H.out)).mono ?_; rintro e wx ⟨rfl, hb2⟩; rw [← HE.out]; replace KN := KN.below hb2; clear hb2) | ((with_reducible refine wpList_gate ?_); first | ((refine gate_load (by rfl) ?_); first | (refine wpList_kn_loadW KN (by rfl) 35 _ rfl _ rfl _ _ (by repeat (first | exact Has.here | refine Has.there ?_)) _ Tryd.underlying35 rfl (by kernel_rfl) ?_) | (refine wpList_kn_load1 KN (by rfl) 3 _ rfl _ _ rfl _ _ (by repeat (first | exact Has.here | refine Has.there ?_)) _ (by (repeat (first | ((with_reducible refine get_hit ?_); exact Nat.le_of_ble_eq_true (by kernel_rfl)) | ((with_reducible refine (get_miss ?_).trans ?_); (focus kernel_rfl)) | ((with_reducible refine (get_pmiss ?_).trans ?_); (focus kernel_rfl)))); all_goals (conv => lhs; whnf; arg 1; whnf)) _ Tryd.underlying3 rfl ?_) | (refine wpList_kn_load1 KN (by rfl) 21 _ rfl _ _ rfl _ _ (by repeat (first | exact Has.here | refine Has.there ?_)) _ (by (repeat (first | ((with_reducible refine get_hit ?_); exact Nat.le_of_ble_eq_true (by kernel_rfl)) | ((with_reducible refine (get_miss ?_).trans ?_); (focus kernel_rfl)) | ((with_reducible refine (get_pmiss ?_).trans ?_); (focus kernel_rfl)))); all_goals (conv => lhs; whnf; arg 1; whnf)) _ Tryd.underlying21 rfl ?_)) | ((refine gate_store (by rfl) ?_); first | (refine wpList_kn_storeW KN (by rfl) 35 _ _ rfl _ rfl _ rfl _ _ (by repeat (first | exact Repl.here | apply Repl.there)) (by kernel_rfl) (by kernel_rfl) (by kernel_rfl) ?_; clear KN; intro wx KN) | (refine wpList_kn_storeA KN (by rfl) 35 _ _ rfl _ _ rfl _ rfl _ _ (by repeat (first | exact Repl.here | apply Repl.there)) (by (try simp only [Array.size_setIfInBounds, putL_size]); first | exact Nat.le_of_ble_eq_true rfl | (simp; omega)) (by kernel_rfl) (by kernel_rfl) ?_; clear KN; intro wx KN)) | ((refine gate_new (by rfl) ?_); first | (refine wpList_kn_alloc KN (by rfl) 35 rfl 7 rfl #[.int .i64 0, .int .i64 0, .int .i64 0, .int .i64 0, .int .i32 0] (by kernel_rfl) ?_; clear KN; intro g7 wx hg7 KN))))
    refine bodyPost_ret (results_tmp2 rfl _ _ _) rfl ?_
    refine ⟨_, [], by rw [← HE.out]; rfl, ?_, KN⟩
    unfold encR
    rw [if_neg (by rw [← HE.out]; exact H0.out)]
    exact .nil
end Go.Proofs.YtemigcdieghkfaaDoor
