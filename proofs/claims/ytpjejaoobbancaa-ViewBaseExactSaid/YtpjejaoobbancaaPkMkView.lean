/- The maker of views. -/
import Derived.Test.YtpjejaoobbancaaPkMk0
import Derived.Test.YtpjejaoobbancaaPkKnMv
set_option linter.unusedVariables false
set_option linter.unusedSimpArgs false
set_option linter.unusedSectionVars false
namespace Go.Proofs.Ytpjejaoobbancaa
open Go.RowKit Go.BigFrame

structure Vw where
  num : Int
  mem : List Int
  own : List Int
def memK (zs : List Int) : Nat → List Int
  | 0 => []
  | i + 1 => if at0 zs (2 + (i : Int)) % 4 ∈ memK zs i then memK zs i else memK zs i ++ [at0 zs (2 + (i : Int)) % 4]
def ownK (zs : List Int) : Nat → List Int
  | 0 => []
  | i + 1 => ownK zs i ++ [at0 zs (7 + (i : Int)) % 4]
def mkView (zs : List Int) : Vw := ⟨at0 zs 0 % 200, memK zs (at0 zs 1 % 4).toNat, ownK zs (at0 zs 6 % 3).toNat⟩
def I64s (zs : List Int) : Prop := ∀ z ∈ zs, -9223372036854775808 ≤ z ∧ z ≤ 9223372036854775807
theorem at0_bd {zs : List Int} (h : I64s zs) (z : Int) : -9223372036854775808 ≤ at0 zs z ∧ at0 zs z ≤ 9223372036854775807 := by
  unfold at0
  rw [List.getD_eq_getElem?_getD]
  cases hx : zs[z.toNat]? with
  | none => decide
  | some x => exact h x (List.mem_of_getElem? hx)
theorem I64s.drop {zs : List Int} (h : I64s zs) (n : Nat) : I64s (zs.drop n) := fun z hz => h z (List.mem_of_mem_drop hz)
theorem memK_len (zs : List Int) : ∀ i, (memK zs i).length ≤ i
  | 0 => Nat.le_refl _
  | i + 1 => by
    have := memK_len zs i
    unfold memK
    split
    · omega
    · rw [List.length_append]; show _ + 1 ≤ _; omega
theorem ownK_len (zs : List Int) : ∀ i, (ownK zs i).length = i
  | 0 => rfl
  | i + 1 => by unfold ownK; rw [List.length_append, ownK_len zs i]; rfl
theorem int_info : (Try.prog.info? 3).map (fun i => (i.size, i.bytes, i.zero.map (·.cells.size))) = some (1, 8, some 1) := by kernel_rfl
def VwR1 (zs : List Int) (n1 : Nat) (g2 g3 : Nat) (num : Int) (w : World) (i : Value) (wr : World) : Prop :=
  ∃ (k : Nat) (vm : Value) (om : Ents), i = .int .i64 (k : Int) ∧ k ≤ n1 ∧ OwnT 3 1 vm (intRows (memK zs k)) om ∧ Kn [] w wr ((g3, At #[.int .i64 num, vm, .slice none 0 0] 30) :: (g2, At #[.int .i64 0, .slice none 0 0, .slice none 0 0] 30) :: om)
def VwR2 (zs : List Int) (n2 : Nat) (g2 g3 : Nat) (num : Int) (vm : Value) (om : Ents) (w : World) (i : Value) (wr : World) : Prop :=
  ∃ (k : Nat) (vo : Value) (oo : Ents), i = .int .i64 (k : Int) ∧ k ≤ n2 ∧ OwnT 3 1 vo (intRows (ownK zs k)) oo ∧ Kn [] w wr ((g3, At #[.int .i64 num, vm, vo] 30) :: (g2, At #[.int .i64 0, .slice none 0 0, .slice none 0 0] 30) :: (om ++ oo))
set_option maxRecDepth 100000 in
set_option maxHeartbeats 8000000 in
theorem View_any {v : Value} {zs : List Int} {w : World} (h : Ints w v zs) :
    Calls Try.prog 50 #[v] w fun e w' => ∃ (vm vo : Value) (om oo : Ents), e = .returned (.agg #[.int .i64 (mkView zs).num, vm, vo]) ∧ OwnT 3 1 vm (intRows (mkView zs).mem) om ∧ OwnT 3 1 vo (intRows (mkView zs).own) oo ∧ Kn [] w w' (om ++ oo) := by
  have KN := Kn.start w
  have HI := Lib.hid h
  have HZ : Hid (I64s zs) := Lib.hid h.2
  unfold mkView
  dsimp only
  obtain ⟨num, hnum⟩ : ∃ num, num = at0 zs 0 % 200 := ⟨_, rfl⟩
  have HNUM := Lib.hid hnum
  rw [← hnum]
  obtain ⟨n1, hn1⟩ : ∃ n, n = (at0 zs 1 % 4).toNat := ⟨_, rfl⟩
  obtain ⟨n2, hn2⟩ : ∃ n, n = (at0 zs 6 % 3).toNat := ⟨_, rfl⟩
  have HN1 : Hid (at0 zs 1 % 4 = (n1 : Int)) := Lib.hid (by omega)
  have HN2 : Hid (at0 zs 6 % 3 = (n2 : Int)) := Lib.hid (by omega)
  have hb1 : n1 < 4 := by omega
  have hb2 : n2 < 3 := by omega
  rw [← hn1, ← hn2]
  clear h hnum hn1 hn2
  go_enter Try.func50, Try.ntmps50
  go_wp2_with (first | (go_at_call 49; refine (At_any (HI.out.below KN.toBelow).1 _ (by omega) (by omega)).mono ?_; rintro e wx ⟨rfl, rfl⟩) | (go_at_call 9; refine (MPlace_any _ _ _ (at0_bd HZ.out _).1 (at0_bd HZ.out _).2 (by omega) (by omega)).mono ?_; rintro e wx ⟨rfl, rfl⟩; rw [← HNUM.out]) | ((with_reducible refine wpList_gate ?_); first | ((with_reducible refine gate_load ?_ ?_); rfl; first | (refine ks_load1 KN 22 Try.underlying22 ?_) | (refine ks_loadW KN 30 Try.underlying30 ?_)) | ((with_reducible refine gate_store ?_ ?_); rfl; first | (refine ks_storeW KN 30 ?_; clear KN; intro wx KN) | (refine ks_storeA KN 30 ?_; clear KN; intro wx KN) | (refine ks_store1 KN 22 ?_; clear KN; intro wx KN)) | ((with_reducible refine gate_new ?_ ?_); rfl; first | (refine wpList_built rfl 30 #[(0, .tmp 11)] rfl #[.int .i64 num, .slice none 0 0, .slice none 0 0] (by kernel_rfl) ?_) | (refine ks_alloc KN 30 (q := 2) #[.int .i64 0, .slice none 0 0, .slice none 0 0] ?_; clear KN; intro g2 wx hg2 KN) | (refine ks_alloc KN 30 (q := 3) #[.int .i64 0, .slice none 0 0, .slice none 0 0] ?_; clear KN; intro g3 wx hg3 KN))))
  go_loopw [4] (fun i wr => VwR1 zs n1 g2 g3 num w i wr) (fun i _ => n1 - (intOf i).toNat)
  case atStart => exact ⟨0, .slice none 0 0, [], rfl, Nat.zero_le _, .nil, KN⟩
  case round =>
    clear KN
    obtain ⟨k, vm, om, rfl, hk, OW, KN⟩ := hrel
    have HO := Lib.hid OW
    clear OW
    by_cases hlt : k < n1
    · obtain ⟨z, hz⟩ : ∃ z, z = at0 zs (2 + (k : Int)) % 4 := ⟨_, rfl⟩
      have HZ4 := Lib.hid hz
      have HLEN := Lib.hid (memK_len zs k)
      have hzb : 0 ≤ z ∧ z < 4 := by omega
      clear hz
      go_upto_region 5 with (first | (go_at_call 49; refine (At_any (HI.out.below KN.toBelow).1 _ (by omega) (by omega)).mono ?_; rintro e wx ⟨rfl, rfl⟩) | (go_at_call 9; refine (MPlace_any _ _ _ (at0_bd HZ.out _).1 (at0_bd HZ.out _).2 (by omega) (by omega)).mono ?_; rintro e wx ⟨rfl, rfl⟩; rw [HN1.out]) | ((with_reducible refine wpList_gate ?_); first | ((with_reducible refine gate_load ?_ ?_); rfl; first | (refine ks_load1 KN 22 Try.underlying22 ?_) | (refine ks_loadW KN 30 Try.underlying30 ?_)) | ((with_reducible refine gate_store ?_ ?_); rfl; first | (refine ks_storeW KN 30 ?_; clear KN; intro wx KN) | (refine ks_storeA KN 30 ?_; clear KN; intro wx KN) | (refine ks_store1 KN 22 ?_; clear KN; intro wx KN)) | ((with_reducible refine gate_new ?_ ?_); rfl; first | (refine ks_alloc KN 30 (q := 2) #[.int .i64 0, .slice none 0 0, .slice none 0 0] ?_; clear KN; intro g2 wx hg2 KN) | (refine ks_alloc KN 30 (q := 3) #[.int .i64 0, .slice none 0 0, .slice none 0 0] ?_; clear KN; intro g3 wx hg3 KN))))
      (try go_frame)
      go_upto_region 6 with (first | (go_at_call 49; refine (At_any (HI.out.below KN.toBelow).1 _ (by omega) (by omega)).mono ?_; rintro e wx ⟨rfl, rfl⟩) | (go_at_call 9; refine (MPlace_any _ _ _ (at0_bd HZ.out _).1 (at0_bd HZ.out _).2 (by omega) (by omega)).mono ?_; rintro e wx ⟨rfl, rfl⟩; rw [← HZ4.out]) | ((with_reducible refine wpList_gate ?_); first | ((with_reducible refine gate_load ?_ ?_); rfl; first | (refine ks_load1 KN 22 Try.underlying22 ?_) | (refine ks_loadW KN 30 Try.underlying30 ?_)) | ((with_reducible refine gate_store ?_ ?_); rfl; first | (refine ks_storeW KN 30 ?_; clear KN; intro wx KN) | (refine ks_storeA KN 30 ?_; clear KN; intro wx KN) | (refine ks_store1 KN 22 ?_; clear KN; intro wx KN)) | ((with_reducible refine gate_new ?_ ?_); rfl; first | (refine ks_alloc KN 30 (q := 2) #[.int .i64 0, .slice none 0 0, .slice none 0 0] ?_; clear KN; intro g2 wx hg2 KN) | (refine ks_alloc KN 30 (q := 3) #[.int .i64 0, .slice none 0 0, .slice none 0 0] ?_; clear KN; intro g3 wx hg3 KN))))
      (try go_frame)
      by_cases hm : z ∈ memK zs k
      · have HB : Hid (decide (z ∈ memK zs k) = true) := Lib.hid (decide_eq_true hm)
        have HNX : Hid (memK zs (k + 1) = memK zs k) := Lib.hid (by show (if _ then _ else _) = _; rw [← HZ4.out, if_pos hm])
        clear hm
        go_wp2_with (first | (go_at_call 15; refine (HasInt_any (HO.out.row (f := fun o => (g3, _) :: (g2, _) :: o) KN (.cons _ (.cons _ .id))) z).mono ?_; rw [HB.out]; rintro e wx ⟨rfl, rfl⟩) | ((with_reducible refine wpList_gate ?_); first | ((with_reducible refine gate_load ?_ ?_); rfl; first | (refine ks_load1 KN 22 Try.underlying22 ?_) | (refine ks_loadW KN 30 Try.underlying30 ?_)) | ((with_reducible refine gate_store ?_ ?_); rfl; first | (refine ks_storeW KN 30 ?_; clear KN; intro wx KN) | (refine ks_storeA KN 30 ?_; clear KN; intro wx KN) | (refine ks_store1 KN 22 ?_; clear KN; intro wx KN)) | ((with_reducible refine gate_new ?_ ?_); rfl; first | (refine ks_alloc KN 30 (q := 2) #[.int .i64 0, .slice none 0 0, .slice none 0 0] ?_; clear KN; intro g2 wx hg2 KN) | (refine ks_alloc KN 30 (q := 3) #[.int .i64 0, .slice none 0 0, .slice none 0 0] ?_; clear KN; intro g3 wx hg3 KN))))
        go_roundw
        case rel => exact ⟨k + 1, vm, om, by go_num, by omega, by rw [HNX.out]; exact HO.out, KN⟩
        case measure => simp [intOf]; omega
      · have HB : Hid (decide (z ∈ memK zs k) = false) := Lib.hid (decide_eq_false hm)
        have HNX : Hid (memK zs (k + 1) = memK zs k ++ [z]) := Lib.hid (by show (if _ then _ else _) = _; rw [← HZ4.out, if_neg hm])
        clear hm
        go_wp2_with (first | (go_at_call 15; refine (HasInt_any (HO.out.row (f := fun o => (g3, _) :: (g2, _) :: o) KN (.cons _ (.cons _ .id))) z).mono ?_; rw [HB.out]; rintro e wx ⟨rfl, rfl⟩) | ((with_reducible refine wpList_gate ?_); first | (refine wpList_kn_lit KN (by rfl) 22 3 1 _ rfl 34 rfl Try.underlying22 #[.int .i64 z] (by kernel_rfl) ?_; clear KN; intro g34 wx hg34 KN) | (at_builtin; refine wpList_kn_appendR (f := fun o => (g3, _) :: (g2, _) :: (om ++ o)) KN .nil (by rfl) _ _ 22 rfl 8 Try.underlying22 int_info (by decide) rfl vm rfl _ (HO.out.row (f := fun o => (g3, _) :: (g2, _) :: o) KN (.cons _ (.cons _ .id))) (intRows_len _) (intRows_one _) (by rw [List.length_map]; have := HLEN.out; unfold maxLen; simp; omega) (by rw [List.length_map]; have := HLEN.out; simp; omega) (.cons _ (.cons _ (.app .id _))) (by rw [List.append_nil]) ?_; clear KN; intro v32 wx ol32 OW32 KN; have HO32 := Lib.hid OW32; clear OW32) | (at_builtin; refine wpList_kn_append1 KN HO32.out (by rfl) _ _ 22 rfl 8 Try.underlying22 (by kernel_rfl) (by decide) rfl 1 rfl rfl (by kernel_rfl) (by rw [List.nil_append, List.length_map]; have := HLEN.out; unfold maxLen; omega) (by rw [List.nil_append, List.length_map]; have := HLEN.out; omega) (f := fun o => (g3, _) :: (g2, _) :: (om ++ o)) (.cons _ (.cons _ (.app .id _))) rfl ?_; clear KN; intro v35 wx ol35 OW35 KN; obtain ⟨xa, xn, xc, rfl⟩ := OW35.form3; have HO35 := Lib.hid OW35; clear OW35) | ((with_reducible refine gate_load ?_ ?_); rfl; first | (refine ks_load1 KN 22 Try.underlying22 ?_) | (refine ks_loadW KN 30 Try.underlying30 ?_)) | ((with_reducible refine gate_store ?_ ?_); rfl; first | (refine ks_storeW KN 30 ?_; clear KN; intro wx KN) | (refine ks_storeA KN 30 ?_; clear KN; intro wx KN) | (refine ks_store1 KN 22 ?_; clear KN; intro wx KN)) | ((with_reducible refine gate_new ?_ ?_); rfl; first | (refine ks_alloc KN 30 (q := 2) #[.int .i64 0, .slice none 0 0, .slice none 0 0] ?_; clear KN; intro g2 wx hg2 KN) | (refine ks_alloc KN 30 (q := 3) #[.int .i64 0, .slice none 0 0, .slice none 0 0] ?_; clear KN; intro g3 wx hg3 KN))))
        replace KN := KN.as_ g3 #[.int .i64 num, .slice xa xn xc, .slice none 0 0] (by repeat (first | exact Repl.here | apply Repl.there)) (by kernel_rfl)
        go_roundw
        case rel => exact ⟨k + 1, _, ol35, by go_num, by omega, by rw [HNX.out, ← intRows_snoc]; exact HO35.out, KN.pick ((List.Sublist.cons_cons _ (List.Sublist.cons_cons _ (List.sublist_append_right _ _))))⟩
        case measure => simp [intOf]; omega
    · obtain rfl : k = n1 := by omega
      obtain ⟨ma, mn, mc, rfl⟩ := HO.out.form3
      go_upto_block 2 with (first | (go_at_call 49; refine (At_any (HI.out.below KN.toBelow).1 _ (by omega) (by omega)).mono ?_; rintro e wx ⟨rfl, rfl⟩) | (go_at_call 9; refine (MPlace_any _ _ _ (at0_bd HZ.out _).1 (at0_bd HZ.out _).2 (by omega) (by omega)).mono ?_; rintro e wx ⟨rfl, rfl⟩; rw [HN1.out]) | ((with_reducible refine wpList_gate ?_); first | ((with_reducible refine gate_load ?_ ?_); rfl; first | (refine ks_load1 KN 22 Try.underlying22 ?_) | (refine ks_loadW KN 30 Try.underlying30 ?_)) | ((with_reducible refine gate_store ?_ ?_); rfl; first | (refine ks_storeW KN 30 ?_; clear KN; intro wx KN) | (refine ks_storeA KN 30 ?_; clear KN; intro wx KN) | (refine ks_store1 KN 22 ?_; clear KN; intro wx KN)) | ((with_reducible refine gate_new ?_ ?_); rfl; first | (refine ks_alloc KN 30 (q := 2) #[.int .i64 0, .slice none 0 0, .slice none 0 0] ?_; clear KN; intro g2 wx hg2 KN) | (refine ks_alloc KN 30 (q := 3) #[.int .i64 0, .slice none 0 0, .slice none 0 0] ?_; clear KN; intro g3 wx hg3 KN))))
      (try go_frame)
      go_wp2_with fail
      go_loopw [7] (fun i wr => VwR2 zs n2 g2 g3 num (.slice ma mn mc) om w i wr) (fun i _ => n2 - (intOf i).toNat)
      case atStart => exact ⟨0, .slice none 0 0, [], rfl, Nat.zero_le _, .nil, by rw [List.append_nil]; exact KN⟩
      case round =>
        clear KN
        obtain ⟨j, vo, oo, rfl, hj, OW, KN⟩ := hrel
        have HOO := Lib.hid OW
        clear OW
        by_cases hjt : j < n2
        · obtain ⟨z, hz⟩ : ∃ z, z = at0 zs (7 + (j : Int)) % 4 := ⟨_, rfl⟩
          have HZ4 := Lib.hid hz
          have HLEN := Lib.hid (ownK_len zs j)
          have HNX : Hid (ownK zs (j + 1) = ownK zs j ++ [z]) := Lib.hid (by rw [HZ4.out]; rfl)
          clear hz
          go_upto_region 12 with (first | (go_at_call 49; refine (At_any (HI.out.below KN.toBelow).1 _ (by omega) (by omega)).mono ?_; rintro e wx ⟨rfl, rfl⟩) | (go_at_call 9; refine (MPlace_any _ _ _ (at0_bd HZ.out _).1 (at0_bd HZ.out _).2 (by omega) (by omega)).mono ?_; rintro e wx ⟨rfl, rfl⟩; rw [HN2.out]) | ((with_reducible refine wpList_gate ?_); first | ((with_reducible refine gate_load ?_ ?_); rfl; first | (refine ks_load1 KN 22 Try.underlying22 ?_) | (refine ks_loadW KN 30 Try.underlying30 ?_)) | ((with_reducible refine gate_store ?_ ?_); rfl; first | (refine ks_storeW KN 30 ?_; clear KN; intro wx KN) | (refine ks_storeA KN 30 ?_; clear KN; intro wx KN) | (refine ks_store1 KN 22 ?_; clear KN; intro wx KN)) | ((with_reducible refine gate_new ?_ ?_); rfl; first | (refine ks_alloc KN 30 (q := 2) #[.int .i64 0, .slice none 0 0, .slice none 0 0] ?_; clear KN; intro g2 wx hg2 KN) | (refine ks_alloc KN 30 (q := 3) #[.int .i64 0, .slice none 0 0, .slice none 0 0] ?_; clear KN; intro g3 wx hg3 KN))))
          (try go_frame)
          go_wp2_with (first | (go_at_call 49; refine (At_any (HI.out.below KN.toBelow).1 _ (by omega) (by omega)).mono ?_; rintro e wx ⟨rfl, rfl⟩) | (go_at_call 9; refine (MPlace_any _ _ _ (at0_bd HZ.out _).1 (at0_bd HZ.out _).2 (by omega) (by omega)).mono ?_; rintro e wx ⟨rfl, rfl⟩; rw [← HZ4.out]) | ((with_reducible refine wpList_gate ?_); first | (refine wpList_kn_lit KN (by rfl) 22 3 1 _ rfl 53 rfl Try.underlying22 #[.int .i64 z] (by kernel_rfl) ?_; clear KN; intro g53 wx hg53 KN) | (at_builtin; refine wpList_kn_appendR (f := fun o => (g3, _) :: (g2, _) :: ((om ++ oo) ++ o)) KN .nil (by rfl) _ _ 22 rfl 8 Try.underlying22 int_info (by decide) rfl vo rfl _ (HOO.out.row (f := fun o => (g3, _) :: (g2, _) :: (om ++ o)) KN (.cons _ (.cons _ (.app .id _)))) (intRows_len _) (intRows_one _) (by rw [List.length_map]; have := HLEN.out; unfold maxLen; simp; omega) (by rw [List.length_map]; have := HLEN.out; simp; omega) (.cons _ (.cons _ (.app .id _))) (by rw [List.append_nil]) ?_; clear KN; intro v47 wx ol47 OW47 KN; have HO47 := Lib.hid OW47; clear OW47) | (at_builtin; refine wpList_kn_append1 KN HO47.out (by rfl) _ _ 22 rfl 8 Try.underlying22 (by kernel_rfl) (by decide) rfl 1 rfl rfl (by kernel_rfl) (by rw [List.nil_append, List.length_map]; have := HLEN.out; unfold maxLen; omega) (by rw [List.nil_append, List.length_map]; have := HLEN.out; omega) (f := fun o => (g3, _) :: (g2, _) :: ((om ++ oo) ++ o)) (.cons _ (.cons _ (.app .id _))) rfl ?_; clear KN; intro v54 wx ol54 OW54 KN; obtain ⟨xa, xn, xc, rfl⟩ := OW54.form3; have HO54 := Lib.hid OW54; clear OW54) | ((with_reducible refine gate_load ?_ ?_); rfl; first | (refine ks_load1 KN 22 Try.underlying22 ?_) | (refine ks_loadW KN 30 Try.underlying30 ?_)) | ((with_reducible refine gate_store ?_ ?_); rfl; first | (refine ks_storeW KN 30 ?_; clear KN; intro wx KN) | (refine ks_storeA KN 30 ?_; clear KN; intro wx KN) | (refine ks_store1 KN 22 ?_; clear KN; intro wx KN)) | ((with_reducible refine gate_new ?_ ?_); rfl; first | (refine ks_alloc KN 30 (q := 2) #[.int .i64 0, .slice none 0 0, .slice none 0 0] ?_; clear KN; intro g2 wx hg2 KN) | (refine ks_alloc KN 30 (q := 3) #[.int .i64 0, .slice none 0 0, .slice none 0 0] ?_; clear KN; intro g3 wx hg3 KN))))
          replace KN := KN.as_ g3 #[.int .i64 num, .slice ma mn mc, .slice xa xn xc] (by repeat (first | exact Repl.here | apply Repl.there)) (by kernel_rfl)
          go_roundw
          case rel => exact ⟨j + 1, _, ol54, by go_num, by omega, by rw [HNX.out, ← intRows_snoc]; exact HO54.out, KN.pick ((List.Sublist.cons_cons _ (List.Sublist.cons_cons _ (List.Sublist.append (List.sublist_append_left _ _) (List.Sublist.refl _)))))⟩
          case measure => simp [intOf]; omega
        · obtain rfl : j = n2 := by omega
          obtain ⟨oa, on, oc, rfl⟩ := HOO.out.form3
          go_wp2_with (first | (go_at_call 49; refine (At_any (HI.out.below KN.toBelow).1 _ (by omega) (by omega)).mono ?_; rintro e wx ⟨rfl, rfl⟩) | (go_at_call 9; refine (MPlace_any _ _ _ (at0_bd HZ.out _).1 (at0_bd HZ.out _).2 (by omega) (by omega)).mono ?_; rintro e wx ⟨rfl, rfl⟩; rw [HN2.out]) | ((with_reducible refine wpList_gate ?_); first | ((with_reducible refine gate_load ?_ ?_); rfl; first | (refine ks_load1 KN 22 Try.underlying22 ?_) | (refine ks_loadW KN 30 Try.underlying30 ?_)) | ((with_reducible refine gate_store ?_ ?_); rfl; first | (refine ks_storeW KN 30 ?_; clear KN; intro wx KN) | (refine ks_storeA KN 30 ?_; clear KN; intro wx KN) | (refine ks_store1 KN 22 ?_; clear KN; intro wx KN)) | ((with_reducible refine gate_new ?_ ?_); rfl; first | (refine ks_alloc KN 30 (q := 2) #[.int .i64 0, .slice none 0 0, .slice none 0 0] ?_; clear KN; intro g2 wx hg2 KN) | (refine ks_alloc KN 30 (q := 3) #[.int .i64 0, .slice none 0 0, .slice none 0 0] ?_; clear KN; intro g3 wx hg3 KN))))
          refine bodyPost_ret (results_cell_row (p := 2) Try.results50 _ _ g2 30 #[.int .i64 num, .slice ma mn mc, .slice oa on oc] (0, 0) _ rfl (KN.at_ (by repeat (first | exact Has.here | refine Has.there ?_))) Try.underlying30 rfl (by kernel_rfl)) rfl ?_
          exact ⟨_, _, om, oo, rfl, HO.out, HOO.out, KN.pick (List.Sublist.cons _ (List.Sublist.cons _ (List.Sublist.refl _)))⟩
end Go.Proofs.Ytpjejaoobbancaa
