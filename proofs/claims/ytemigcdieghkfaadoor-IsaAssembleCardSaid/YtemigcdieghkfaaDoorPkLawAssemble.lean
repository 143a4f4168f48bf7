/- IsaAssemble: true for every text. -/
import Derived.Test.YtemigcdieghkfaaDoorPkAsrMain
import Derived.Test.YtemigcdieghkfaaDoorPkSameI
import Derived.Test.YtemigcdieghkfaaDoorPkAwakeI
set_option linter.unusedVariables false
set_option linter.unusedSimpArgs false
set_option linter.unusedSectionVars false
namespace Go.Proofs.YtemigcdieghkfaaDoor
open Go.RowKit Go.BigFrame

theorem aFix_fits {ls : Labels} {n : Nat} (hl : ∀ x ∈ ls, x.2 ≤ 4096) : ∀ (us : List ARef) (p q : List Ins), (∀ x ∈ p, x.fits) → aFix ls n us p = .ok q → ∀ x ∈ q, x.fits
  | [], p, q, hp, h => by
    rw [aFix] at h
    cases h
    exact hp
  | u :: us, p, q, hp, h => by
    rw [aFix] at h
    split at h
    · split at h
      · cases h
      · exact aFix_fits hl us p q hp h
    · split at h
      · cases h
      · rename_i k hk
        split at h
        · cases h
        · refine aFix_fits hl us _ q ?_ h
          intro x hx
          rcases List.mem_or_eq_of_mem_set hx with hx | rfl
          · exact hp x hx
          · have hk' : k ≤ 4096 := by obtain ⟨z, hz, rfl⟩ := labelAt_mem hk; exact hl z hz
            refine ⟨⟨by show -2147483648 ≤ (k : Int); omega, by show (k : Int) ≤ 2147483647; omega⟩, ?_⟩
            show -9223372036854775808 ≤ (p.getD u.instr ⟨0, 0, 0, 0, 0⟩).op ∧ (p.getD u.instr ⟨0, 0, 0, 0, 0⟩).op ≤ 9223372036854775807
            rw [List.getD_eq_getElem?_getD]
            cases hy : p[u.instr]? with
            | none => decide
            | some y => exact (hp y (List.mem_of_getElem? hy)).2
theorem AsmOk.toEnd {d : List Tok} (hv : ∀ t ∈ d, 0 ≤ t.raw.value ∧ t.raw.value ≤ 18446744073709551615) (hl : ∀ t ∈ d, t.raw.text.length ≤ maxLen) : ∀ (f : Nat) (s s' : ASt), AsmOk d s → aAll d f s = .ok s' → AsmOk d s'
  | 0, s, s', hs, h => by rw [aAll] at h; cases h; exact hs
  | f + 1, s, s', hs, h => by
    rw [aAll] at h
    split at h
    · cases hI : aInstr d s with
      | error e => rw [hI] at h; cases h
      | ok t =>
        rw [hI] at h
        exact AsmOk.toEnd hv hl f t s' (hs.instr hv hl hI).1 h
    · cases h; exact hs
theorem asm_fits (l : List UInt8) (hl : l.length ≤ maxLen) : ∀ x ∈ (asm l).1, x.fits := by
  obtain ⟨d, a, b, er, hs⟩ : ∃ d a b er, scanRes l = (d, a, b, er) := ⟨_, _, _, _, rfl⟩
  have hv := scanRes_val l
  have ht := scanRes_tlen l
  unfold asm
  rw [hs] at hv ht ⊢
  dsimp only at hv ht ⊢
  split
  · intro x hx; cases hx
  · cases hA : aAll d d.length ⟨0, [], [], []⟩ with
    | error q => intro x hx; cases hx
    | ok s =>
      have hlen : ∀ t ∈ d, t.raw.text.length ≤ maxLen := fun t h => Nat.le_trans (ht t h) hl
      have hok := AsmOk.toEnd hv hlen _ _ _ (AsmOk.start d) hA
      have hin := AsrInv.all hv hlen _ _ _ (AsmOk.start d) (AsrInv.start d) hA
      dsimp only
      split
      · intro x hx; cases hx
      · cases hR : aResolve s with
        | error q => intro x hx; cases hx
        | ok p =>
          refine aFix_fits hok.num _ _ _ (fun x hx => ⟨hok.imm x hx, ?_⟩) hR
          have := hin.op x hx
          omega
set_option maxRecDepth 100000 in
set_option maxHeartbeats 40000000 in
theorem isaAssemble_any (s : ByteArray) (w : World) (hs : s.size ≤ maxLen) : Calls Tryd.prog 3 #[.string s] w fun e w' => e = .returned (.bool true) ∧ Below w.heap.size w w' := by
  have KN := Kn.start w
  by_cases hlen : 3000 < s.size
  · unfold maxLen at hs
    go_enter Tryd.func3, Tryd.ntmps3
    go_wp2_with (go_at_call 7; refine (awake_any _).mono ?_; rintro e wx ⟨rfl, hb⟩)
    go_ret
    exact ⟨rfl, hb⟩
  · have hfit := asm_fits s.data.toList (by show s.size ≤ maxLen; exact hs)
    have HA := Lib.hid (fun w0 => Assemble_any s w0 hs)
    have HB := Lib.hid (fun w0 => RAssemble_any s w0 hs)
    unfold AsmOut at HA HB
    obtain ⟨p, hp⟩ : ∃ p, p = (asm s.data.toList).1 := ⟨_, rfl⟩
    obtain ⟨x, hx⟩ : ∃ x, x = (asm s.data.toList).2.1.1 := ⟨_, rfl⟩
    obtain ⟨y, hy⟩ : ∃ y, y = (asm s.data.toList).2.1.2 := ⟨_, rfl⟩
    obtain ⟨de, hde⟩ : ∃ de, de = (asm s.data.toList).2.2 := ⟨_, rfl⟩
    rw [← hp, ← hx, ← hy, ← hde] at HA HB
    rw [← hp] at hfit
    have HFT := Lib.hid hfit
    clear hp hx hy hde hfit
    unfold maxLen at hs
    have e2 : (de == de) = true := beq_self_eq_true _
    go_enter Tryd.func3, Tryd.ntmps3
    go_upto_region 4 with (first | (go_at_call 8; refine (HA.out _).mono ?_; rintro e wx ⟨va, ol1, rfl, OW, K2⟩; have HP := Lib.hid OW; replace KN := KN.call0 K2; clear OW K2; simp only [List.append_nil] at KN) | ((with_reducible refine wpList_gate ?_); first | ((refine gate_load (by rfl) ?_); first | (refine ks_loadW KN 25 Tryd.underlying25 ?_)) | ((refine gate_store (by rfl) ?_); first | (refine ks_storeW KN 25 ?_; clear KN; intro wx KN) | (refine ks_storeA KN 25 ?_; clear KN; intro wx KN)) | ((refine gate_new (by rfl) ?_); first | (refine ks_alloc KN 25 (q := 4) #[.int .i64 0, .int .i64 0] ?_; clear KN; intro g4 wx hg4 KN) | (refine ks_alloc KN 25 (q := 7) #[.int .i64 0, .int .i64 0] ?_; clear KN; intro g7 wx hg7 KN))))
    go_upto_region 5 with (first | (go_at_call 9; refine (HB.out _).mono ?_; rintro e wy ⟨vb, ol2, rfl, OW, K2⟩; have HQ := Lib.hid OW; replace KN := (KN.call0 K2).perm List.perm_middle; clear OW K2) | ((with_reducible refine wpList_gate ?_); first | ((refine gate_load (by rfl) ?_); first | (refine ks_loadW KN 25 Tryd.underlying25 ?_)) | ((refine gate_store (by rfl) ?_); first | (refine ks_storeW KN 25 ?_; clear KN; intro wx KN) | (refine ks_storeA KN 25 ?_; clear KN; intro wx KN)) | ((refine gate_new (by rfl) ?_); first | (refine ks_alloc KN 25 (q := 4) #[.int .i64 0, .int .i64 0] ?_; clear KN; intro g4 wx hg4 KN) | (refine ks_alloc KN 25 (q := 7) #[.int .i64 0, .int .i64 0] ?_; clear KN; intro g7 wx hg7 KN))))
    have HI1 := Lib.hid (Instrs.ofT (f := fun o => _ :: _ :: (ol2 ++ o)) HP.out KN (TailF.cons _ (TailF.cons _ (TailF.app TailF.id ol2))) HFT.out)
    have HI2 := Lib.hid (Instrs.ofT (f := fun o => _ :: _ :: (ol1 ++ o)) HQ.out (KN.perm ((List.perm_append_comm.cons _).cons _)) (TailF.cons _ (TailF.cons _ (TailF.app TailF.id ol1))) HFT.out)
    go_wp2_with (first | (go_at_call 10; refine (Same_eq _ _ p _ HI1.out HI2.out).mono ?_; rintro e wz ⟨rfl, hb⟩; replace KN := KN.below hb; clear hb) | (go_at_call 7; refine (awake_any _).mono ?_; rintro e wz ⟨rfl, hb⟩; replace KN := KN.below hb; clear hb) | ((with_reducible refine wpList_gate ?_); first | ((refine gate_load (by rfl) ?_); first | (refine ks_loadW KN 25 Tryd.underlying25 ?_)) | ((refine gate_store (by rfl) ?_); first | (refine ks_storeW KN 25 ?_; clear KN; intro wx KN) | (refine ks_storeA KN 25 ?_; clear KN; intro wx KN)) | ((refine gate_new (by rfl) ?_); first | (refine ks_alloc KN 25 (q := 4) #[.int .i64 0, .int .i64 0] ?_; clear KN; intro g4 wx hg4 KN) | (refine ks_alloc KN 25 (q := 7) #[.int .i64 0, .int .i64 0] ?_; clear KN; intro g7 wx hg7 KN)) | ((refine gate_cmp (by rfl) ?_); first | (refine wpList_kn_eql (by rfl) 25 _ _ _ rfl #[.int .i64 x, .int .i64 y] (by kernel_rfl) (by kernel_rfl) (by kernel_rfl) (by kernel_rfl) ?_))))
    go_ret
    exact ⟨rfl, KN.toBelow⟩
end Go.Proofs.YtemigcdieghkfaaDoor
