/- The law's events: a script made of numbers, each of which may be written. -/
import Derived.Test.YtgeeklgojjcdmaaDoorPkConSame
import Derived.Test.YtgeeklgojjcdmaaDoorPkProgG
import Derived.Test.YtgeeklgojjcdmaaDoorPkAppR
set_option linter.unusedVariables false
set_option linter.unusedSimpArgs false
set_option linter.unusedSectionVars false
namespace Go.Proofs.YtgeeklgojjcdmaaDoor
open Go.RowKit Go.BigFrame

def EventsOut (w : World) (e : Ending) (w' : World) : Prop :=
  ∃ (v : Value) (l : List RawEv) (ol : Ents), e = .returned v ∧ (∀ x ∈ l, rawOk x = true) ∧ l.length ≤ 240 ∧ OwnT 35 3 v (rawRows l) ol ∧ Kn [] w w' ol
def EvR1 (va : Value) (n g10 : Nat) (w : World) (s4 s5 : Value) (wr : World) : Prop :=
  ∃ (k K : Nat) (l : List RawEv) (ol : Ents), s5 = .int .i64 (k : Int) ∧ k ≤ 60 ∧ k ≤ n ∧ K ≤ 4 * k ∧ l.length ≤ 4 * k ∧ (∀ x ∈ l, rawOk x = true) ∧ OwnT 35 3 s4 (rawRows l) ol ∧ Kn [] w wr ((g10, At (numA va K) 80) :: ol)
def EvR2 (va : Value) (k K g6 g10 : Nat) (x : RawEv) (w : World) (s4 s7 : Value) (wr : World) : Prop :=
  ∃ (z : Int) (l : List RawEv) (ol : Ents), s7 = .int .i64 z ∧ -1 ≤ z ∧ z ≤ 3 ∧ (l.length : Int) + (z + 1) ≤ 4 * (k : Int) + 4 ∧ (∀ x ∈ l, rawOk x = true) ∧ OwnT 35 3 s4 (rawRows l) ol ∧ Kn [] w wr ((g6, At x.cells 35) :: (g10, At (numA va K) 80) :: ol)
theorem raw_snoc (l : List RawEv) (x : RawEv) : rawRows l ++ [x.cells.toList] = rawRows (l ++ [x]) := by simp [rawRows]
theorem evs_snoc {l : List RawEv} {x : RawEv} (h : ∀ y ∈ l, rawOk y = true) (hx : rawOk x = true) : ∀ y ∈ l ++ [x], rawOk y = true := by
  intro y hy
  rcases List.mem_append.1 hy with hy | hy
  · exact h y hy
  · rw [List.mem_singleton.1 hy]; exact hx
theorem small_num {v : Int} (h0 : 0 ≤ v) (h1 : v < 5) : numOk true v = true := by unfold numOk; simp; omega
theorem raw_cn {k c m : Int} (hk : k = 2 ∨ k = 3 ∨ k = 6 ∨ k = 7) (c0 : 0 ≤ c) (c1 : c < 5) (m0 : 0 ≤ m) (m1 : m < 5) : rawOk ⟨k, c, m⟩ = true := by
  have a := small_num c0 c1
  have b := small_num m0 m1
  rcases hk with rfl | rfl | rfl | rfl <;> (unfold rawOk; dsimp only; rw [show evCore _ = true from rfl, show evNum _ = true from rfl, a, b]; rfl)
theorem raw_c {k c : Int} (hk : k = 1 ∨ k = 4 ∨ k = 5) (c0 : 0 ≤ c) (c1 : c < 5) : rawOk ⟨k, c, 0⟩ = true := by
  have a := small_num c0 c1
  rcases hk with rfl | rfl | rfl <;> (unfold rawOk; dsimp only; rw [show evCore _ = true from rfl, show evNum _ = false from rfl, a]; rfl)
theorem raw_n {m : Int} (m0 : 0 ≤ m) (m1 : m < 5) : rawOk ⟨8, 0, m⟩ = true := by
  have b := small_num m0 m1
  unfold rawOk; dsimp only; rw [show evCore _ = false from rfl, show evNum _ = true from rfl, b]; rfl
set_option maxRecDepth 100000 in
set_option maxHeartbeats 8000000 in
theorem events_any {va : Value} {zs : List Int} {w : World} (h : Ints w va zs) : Calls Tryd.prog 11 #[va] w (EventsOut w) := by
  have KN := Kn.start w
  have HZ := Lib.hid h
  obtain ⟨a, c, rfl, hm⟩ := h.form
  obtain ⟨n, hn⟩ : ∃ n, n = zs.length := ⟨_, rfl⟩
  have HN := Lib.hid hn
  rw [← hn] at hm HZ ⊢
  unfold maxLen at hm
  clear h hn
  go_enter Tryd.func11, Tryd.ntmps11
  go_upto_block 0 with (first | ((with_reducible refine wpList_gate ?_); first | ((with_reducible refine gate_load ?_ ?_); rfl; first | (refine ks_load1 KN 3 Tryd.underlying3 ?_) | (refine ks_loadW KN 35 Tryd.underlying35 ?_)) | ((with_reducible refine gate_store ?_ ?_); rfl; first | (refine ks_storeW KN 35 ?_; clear KN; intro wx KN) | (refine ks_storeA KN 35 ?_; clear KN; intro wx KN) | (refine ks_store1 KN 3 ?_; clear KN; intro wx KN)) | ((with_reducible refine gate_new ?_ ?_); rfl; first | (refine wpList_built rfl 80 #[(0, .tmp 8)] rfl (numA (.slice a n c) 0) (by kernel_rfl) ?_) | (refine ks_boxA KN 80 (q := 10) ?_; clear KN; intro g10 wx hg10 KN) | (refine ks_alloc KN 35 (q := 6) #[.int .i64 0, .int .i64 0, .int .i64 0] ?_; clear KN; intro g6 wx hg6 KN))))
  (try go_frame)
  go_wp2_with fail
  go_loopw [4, 5] (fun s4 s5 wr => EvR1 (.slice a n c) n g10 w s4 s5 wr) (fun _ s5 _ => n - (intOf s5).toNat)
  case atStart => exact ⟨0, 0, [], [], rfl, Nat.zero_le _, Nat.zero_le _, Nat.zero_le _, Nat.zero_le _, by simp, .nil, KN⟩
  case round =>
    clear KN
    obtain ⟨k, K, l, ol, rfl, hk60, hk, hK, hl, hok, OL, KN⟩ := hrel
    have HOL := Lib.hid OL
    have HOK := Lib.hid hok
    obtain ⟨oa, on, oc, rfl⟩ := OL.form3
    clear OL hok
    have hd2 : (k : Int) < 60 ∨ ¬ (k : Int) < 60 := Int.lt_or_le _ _ |>.imp id (fun h => by omega)
    by_cases hlt : k < n
    · by_cases h60 : k < 60
      · have d60 : decide ((k : Int) < 60) = true := decide_eq_true (by omega)
        clear hd2
        go_upto_region 7 with (first | (go_at_call 34; refine (Next_kn KN g10 _ (.slice a n c) zs _ (HZ.out.below KN.toBelow) (by repeat (first | exact Repl.here | apply Repl.there)) (by omega) (by omega) (by omega)).mono ?_; rintro e wx ⟨r, hr0, hr1, rfl, K2⟩; replace KN := K2; clear K2) | ((with_reducible refine wpList_gate ?_); first | ((with_reducible refine gate_load ?_ ?_); rfl; first | (refine ks_load1 KN 3 Tryd.underlying3 ?_) | (refine ks_loadW KN 35 Tryd.underlying35 ?_)) | ((with_reducible refine gate_store ?_ ?_); rfl; first | (refine ks_storeW KN 35 ?_; clear KN; intro wx KN) | (refine ks_storeA KN 35 ?_; clear KN; intro wx KN) | (refine ks_store1 KN 3 ?_; clear KN; intro wx KN)) | ((with_reducible refine gate_new ?_ ?_); rfl; first | (refine wpList_built rfl 35 #[(0, .tmp 23)] rfl #[.int .i64 (1 + r), .int .i64 0, .int .i64 0] (by kernel_rfl) ?_) | (refine ks_boxA KN 80 (q := 10) ?_; clear KN; intro g10 wx hg10 KN) | (refine ks_alloc KN 35 (q := 6) #[.int .i64 0, .int .i64 0, .int .i64 0] ?_; clear KN; intro g6 wx hg6 KN))))
        (try go_frame)
        have hr8 : r = 0 ∨ r = 1 ∨ r = 2 ∨ r = 3 ∨ r = 4 ∨ r = 5 ∨ r = 6 ∨ r = 7 := by omega
        clear hr0 hr1
        rcases hr8 with rfl | rfl | rfl | rfl | rfl | rfl | rfl | rfl
        · replace KN := KN.as_ g6 #[.int .i64 1, .int .i64 0, .int .i64 0] (by repeat (first | exact Repl.here | apply Repl.there)) (by rfl)
          go_upto_region 9 with (first | (go_at_call 34; refine (Next_kn KN g10 _ (.slice a n c) zs _ (HZ.out.below KN.toBelow) (by repeat (first | exact Repl.here | apply Repl.there)) (by omega) (by omega) (by omega)).mono ?_; rintro e wx ⟨rc, hrc0, hrc1, rfl, K2⟩; replace KN := K2; clear K2) | ((with_reducible refine wpList_gate ?_); first | ((with_reducible refine gate_load ?_ ?_); rfl; first | (refine ks_load1 KN 3 Tryd.underlying3 ?_) | (refine ks_loadW KN 35 Tryd.underlying35 ?_)) | ((with_reducible refine gate_store ?_ ?_); rfl; first | (refine ks_storeW KN 35 ?_; clear KN; intro wx KN) | (refine ks_storeA KN 35 ?_; clear KN; intro wx KN) | (refine ks_store1 KN 3 ?_; clear KN; intro wx KN)) | ((with_reducible refine gate_new ?_ ?_); rfl; first | (refine ks_boxA KN 80 (q := 10) ?_; clear KN; intro g10 wx hg10 KN) | (refine ks_alloc KN 35 (q := 6) #[.int .i64 0, .int .i64 0, .int .i64 0] ?_; clear KN; intro g6 wx hg6 KN))))
          (try go_frame)
          go_upto_region 11 with (first | ((with_reducible refine wpList_gate ?_); first | ((with_reducible refine gate_load ?_ ?_); rfl; first | (refine ks_load1 KN 3 Tryd.underlying3 ?_) | (refine ks_loadW KN 35 Tryd.underlying35 ?_)) | ((with_reducible refine gate_store ?_ ?_); rfl; first | (refine ks_storeW KN 35 ?_; clear KN; intro wx KN) | (refine ks_storeA KN 35 ?_; clear KN; intro wx KN) | (refine ks_store1 KN 3 ?_; clear KN; intro wx KN)) | ((with_reducible refine gate_new ?_ ?_); rfl; first | (refine ks_boxA KN 80 (q := 10) ?_; clear KN; intro g10 wx hg10 KN) | (refine ks_alloc KN 35 (q := 6) #[.int .i64 0, .int .i64 0, .int .i64 0] ?_; clear KN; intro g6 wx hg6 KN))))
          (try go_frame)
          go_upto_block 2 with (go_at_call 34; refine (Next_kn KN g10 _ (.slice a n c) zs _ (HZ.out.below KN.toBelow) (by repeat (first | exact Repl.here | apply Repl.there)) (by omega) (by omega) (by omega)).mono ?_; rintro e wx ⟨r4, hr40, hr41, rfl, K2⟩; replace KN := K2; clear K2)
          (try go_frame)
          replace KN := KN.as_ g6 (RawEv.cells ⟨1, rc, 0⟩) (by repeat (first | exact Repl.here | apply Repl.there)) (by rfl)
          have HX : Hid (rawOk ⟨1, rc, 0⟩ = true) := Lib.hid (raw_c (by decide) hrc0 hrc1)
          obtain ⟨x, hx⟩ : ∃ x : RawEv, x = ⟨1, rc, 0⟩ := ⟨_, rfl⟩
          rw [← hx] at KN HX
          clear hx
          go_wp2_with fail
          go_loopw [4, 7] (fun s4 s7 wr => EvR2 (.slice a n c) k (K + 1 + 1 + 1) g6 g10 x w s4 s7 wr) (fun _ s7 _ => (intOf s7 + 1).toNat)
          case atStart => exact ⟨r4, l, ol, rfl, by omega, by omega, by omega, HOK.out, HOL.out, KN⟩
          case round =>
            clear KN
            obtain ⟨z, l2, ol2, rfl, hz0, hz1, hlen, hok2, OL2, KN⟩ := hrel
            have HOL2 := Lib.hid OL2
            have HOK2 := Lib.hid hok2
            obtain ⟨pa, pn, pc, rfl⟩ := OL2.form3
            clear OL2 hok2
            by_cases hzz : 0 ≤ z
            · have dz : decide ((0 : Int) ≤ z) = true := decide_eq_true hzz
              go_wp2_with (first | (refine ks_loadW KN 35 Tryd.underlying35 ?_) | (refine wpList_kn_lit KN (by rfl) 22 35 1 _ rfl 65 rfl Tryd.underlying22 x.cells (by kernel_rfl) ?_; clear KN; intro g65 wx hg65 KN) | (at_builtin; refine wpList_kn_append1 KN HOL2.out (by rfl) _ _ 22 rfl 24 Tryd.underlying22 (by kernel_rfl) (by decide) rfl 1 rfl rfl (by kernel_rfl) (by rw [List.length_map]; unfold maxLen; omega) (by rw [List.length_map]; omega) (f := fun o => (g6, _) :: (g10, _) :: o) (.cons _ (.cons _ .id)) rfl ?_; clear KN; intro v66 wx ol3 OW3 KN; have HO3 := Lib.hid OW3; clear OW3))
              go_roundw
              case rel => exact ⟨z - 1, l2 ++ [x], ol3, rfl, by omega, by omega, by rw [List.length_append]; simp; omega, evs_snoc HOK2.out HX.out, by rw [← raw_snoc]; exact HO3.out, KN⟩
              case measure => simp [intOf]; omega
            · have dz : decide ((0 : Int) ≤ z) = false := decide_eq_false hzz
              go_wp2_with fail
              go_roundw
              case rel => exact ⟨k + 1, K + 1 + 1 + 1, l2, ol2, by go_num, by omega, by omega, by omega, by omega, HOK2.out, HOL2.out, KN.drop .here⟩
              case measure => simp [intOf]; omega
        · replace KN := KN.as_ g6 #[.int .i64 2, .int .i64 0, .int .i64 0] (by repeat (first | exact Repl.here | apply Repl.there)) (by rfl)
          go_upto_region 9 with (first | (go_at_call 34; refine (Next_kn KN g10 _ (.slice a n c) zs _ (HZ.out.below KN.toBelow) (by repeat (first | exact Repl.here | apply Repl.there)) (by omega) (by omega) (by omega)).mono ?_; rintro e wx ⟨rc, hrc0, hrc1, rfl, K2⟩; replace KN := K2; clear K2) | ((with_reducible refine wpList_gate ?_); first | ((with_reducible refine gate_load ?_ ?_); rfl; first | (refine ks_load1 KN 3 Tryd.underlying3 ?_) | (refine ks_loadW KN 35 Tryd.underlying35 ?_)) | ((with_reducible refine gate_store ?_ ?_); rfl; first | (refine ks_storeW KN 35 ?_; clear KN; intro wx KN) | (refine ks_storeA KN 35 ?_; clear KN; intro wx KN) | (refine ks_store1 KN 3 ?_; clear KN; intro wx KN)) | ((with_reducible refine gate_new ?_ ?_); rfl; first | (refine ks_boxA KN 80 (q := 10) ?_; clear KN; intro g10 wx hg10 KN) | (refine ks_alloc KN 35 (q := 6) #[.int .i64 0, .int .i64 0, .int .i64 0] ?_; clear KN; intro g6 wx hg6 KN))))
          (try go_frame)
          go_upto_region 11 with (first | (go_at_call 34; refine (Next_kn KN g10 _ (.slice a n c) zs _ (HZ.out.below KN.toBelow) (by repeat (first | exact Repl.here | apply Repl.there)) (by omega) (by omega) (by omega)).mono ?_; rintro e wx ⟨rm, hrm0, hrm1, rfl, K2⟩; replace KN := K2; clear K2) | ((with_reducible refine wpList_gate ?_); first | ((with_reducible refine gate_load ?_ ?_); rfl; first | (refine ks_load1 KN 3 Tryd.underlying3 ?_) | (refine ks_loadW KN 35 Tryd.underlying35 ?_)) | ((with_reducible refine gate_store ?_ ?_); rfl; first | (refine ks_storeW KN 35 ?_; clear KN; intro wx KN) | (refine ks_storeA KN 35 ?_; clear KN; intro wx KN) | (refine ks_store1 KN 3 ?_; clear KN; intro wx KN)) | ((with_reducible refine gate_new ?_ ?_); rfl; first | (refine ks_boxA KN 80 (q := 10) ?_; clear KN; intro g10 wx hg10 KN) | (refine ks_alloc KN 35 (q := 6) #[.int .i64 0, .int .i64 0, .int .i64 0] ?_; clear KN; intro g6 wx hg6 KN))))
          (try go_frame)
          go_upto_block 2 with (go_at_call 34; refine (Next_kn KN g10 _ (.slice a n c) zs _ (HZ.out.below KN.toBelow) (by repeat (first | exact Repl.here | apply Repl.there)) (by omega) (by omega) (by omega)).mono ?_; rintro e wx ⟨r4, hr40, hr41, rfl, K2⟩; replace KN := K2; clear K2)
          (try go_frame)
          replace KN := KN.as_ g6 (RawEv.cells ⟨2, rc, rm⟩) (by repeat (first | exact Repl.here | apply Repl.there)) (by rfl)
          have HX : Hid (rawOk ⟨2, rc, rm⟩ = true) := Lib.hid (raw_cn (by decide) hrc0 hrc1 hrm0 hrm1)
          obtain ⟨x, hx⟩ : ∃ x : RawEv, x = ⟨2, rc, rm⟩ := ⟨_, rfl⟩
          rw [← hx] at KN HX
          clear hx
          go_wp2_with fail
          go_loopw [4, 7] (fun s4 s7 wr => EvR2 (.slice a n c) k (K + 1 + 1 + 1 + 1) g6 g10 x w s4 s7 wr) (fun _ s7 _ => (intOf s7 + 1).toNat)
          case atStart => exact ⟨r4, l, ol, rfl, by omega, by omega, by omega, HOK.out, HOL.out, KN⟩
          case round =>
            clear KN
            obtain ⟨z, l2, ol2, rfl, hz0, hz1, hlen, hok2, OL2, KN⟩ := hrel
            have HOL2 := Lib.hid OL2
            have HOK2 := Lib.hid hok2
            obtain ⟨pa, pn, pc, rfl⟩ := OL2.form3
            clear OL2 hok2
            by_cases hzz : 0 ≤ z
            · have dz : decide ((0 : Int) ≤ z) = true := decide_eq_true hzz
              go_wp2_with (first | (refine ks_loadW KN 35 Tryd.underlying35 ?_) | (refine wpList_kn_lit KN (by rfl) 22 35 1 _ rfl 65 rfl Tryd.underlying22 x.cells (by kernel_rfl) ?_; clear KN; intro g65 wx hg65 KN) | (at_builtin; refine wpList_kn_append1 KN HOL2.out (by rfl) _ _ 22 rfl 24 Tryd.underlying22 (by kernel_rfl) (by decide) rfl 1 rfl rfl (by kernel_rfl) (by rw [List.length_map]; unfold maxLen; omega) (by rw [List.length_map]; omega) (f := fun o => (g6, _) :: (g10, _) :: o) (.cons _ (.cons _ .id)) rfl ?_; clear KN; intro v66 wx ol3 OW3 KN; have HO3 := Lib.hid OW3; clear OW3))
              go_roundw
              case rel => exact ⟨z - 1, l2 ++ [x], ol3, rfl, by omega, by omega, by rw [List.length_append]; simp; omega, evs_snoc HOK2.out HX.out, by rw [← raw_snoc]; exact HO3.out, KN⟩
              case measure => simp [intOf]; omega
            · have dz : decide ((0 : Int) ≤ z) = false := decide_eq_false hzz
              go_wp2_with fail
              go_roundw
              case rel => exact ⟨k + 1, K + 1 + 1 + 1 + 1, l2, ol2, by go_num, by omega, by omega, by omega, by omega, HOK2.out, HOL2.out, KN.drop .here⟩
              case measure => simp [intOf]; omega
        · replace KN := KN.as_ g6 #[.int .i64 3, .int .i64 0, .int .i64 0] (by repeat (first | exact Repl.here | apply Repl.there)) (by rfl)
          go_upto_region 9 with (first | (go_at_call 34; refine (Next_kn KN g10 _ (.slice a n c) zs _ (HZ.out.below KN.toBelow) (by repeat (first | exact Repl.here | apply Repl.there)) (by omega) (by omega) (by omega)).mono ?_; rintro e wx ⟨rc, hrc0, hrc1, rfl, K2⟩; replace KN := K2; clear K2) | ((with_reducible refine wpList_gate ?_); first | ((with_reducible refine gate_load ?_ ?_); rfl; first | (refine ks_load1 KN 3 Tryd.underlying3 ?_) | (refine ks_loadW KN 35 Tryd.underlying35 ?_)) | ((with_reducible refine gate_store ?_ ?_); rfl; first | (refine ks_storeW KN 35 ?_; clear KN; intro wx KN) | (refine ks_storeA KN 35 ?_; clear KN; intro wx KN) | (refine ks_store1 KN 3 ?_; clear KN; intro wx KN)) | ((with_reducible refine gate_new ?_ ?_); rfl; first | (refine ks_boxA KN 80 (q := 10) ?_; clear KN; intro g10 wx hg10 KN) | (refine ks_alloc KN 35 (q := 6) #[.int .i64 0, .int .i64 0, .int .i64 0] ?_; clear KN; intro g6 wx hg6 KN))))
          (try go_frame)
          go_upto_region 11 with (first | (go_at_call 34; refine (Next_kn KN g10 _ (.slice a n c) zs _ (HZ.out.below KN.toBelow) (by repeat (first | exact Repl.here | apply Repl.there)) (by omega) (by omega) (by omega)).mono ?_; rintro e wx ⟨rm, hrm0, hrm1, rfl, K2⟩; replace KN := K2; clear K2) | ((with_reducible refine wpList_gate ?_); first | ((with_reducible refine gate_load ?_ ?_); rfl; first | (refine ks_load1 KN 3 Tryd.underlying3 ?_) | (refine ks_loadW KN 35 Tryd.underlying35 ?_)) | ((with_reducible refine gate_store ?_ ?_); rfl; first | (refine ks_storeW KN 35 ?_; clear KN; intro wx KN) | (refine ks_storeA KN 35 ?_; clear KN; intro wx KN) | (refine ks_store1 KN 3 ?_; clear KN; intro wx KN)) | ((with_reducible refine gate_new ?_ ?_); rfl; first | (refine ks_boxA KN 80 (q := 10) ?_; clear KN; intro g10 wx hg10 KN) | (refine ks_alloc KN 35 (q := 6) #[.int .i64 0, .int .i64 0, .int .i64 0] ?_; clear KN; intro g6 wx hg6 KN))))
          (try go_frame)
          go_upto_block 2 with (go_at_call 34; refine (Next_kn KN g10 _ (.slice a n c) zs _ (HZ.out.below KN.toBelow) (by repeat (first | exact Repl.here | apply Repl.there)) (by omega) (by omega) (by omega)).mono ?_; rintro e wx ⟨r4, hr40, hr41, rfl, K2⟩; replace KN := K2; clear K2)
          (try go_frame)
          replace KN := KN.as_ g6 (RawEv.cells ⟨3, rc, rm⟩) (by repeat (first | exact Repl.here | apply Repl.there)) (by rfl)
          have HX : Hid (rawOk ⟨3, rc, rm⟩ = true) := Lib.hid (raw_cn (by decide) hrc0 hrc1 hrm0 hrm1)
          obtain ⟨x, hx⟩ : ∃ x : RawEv, x = ⟨3, rc, rm⟩ := ⟨_, rfl⟩
          rw [← hx] at KN HX
          clear hx
          go_wp2_with fail
          go_loopw [4, 7] (fun s4 s7 wr => EvR2 (.slice a n c) k (K + 1 + 1 + 1 + 1) g6 g10 x w s4 s7 wr) (fun _ s7 _ => (intOf s7 + 1).toNat)
          case atStart => exact ⟨r4, l, ol, rfl, by omega, by omega, by omega, HOK.out, HOL.out, KN⟩
          case round =>
            clear KN
            obtain ⟨z, l2, ol2, rfl, hz0, hz1, hlen, hok2, OL2, KN⟩ := hrel
            have HOL2 := Lib.hid OL2
            have HOK2 := Lib.hid hok2
            obtain ⟨pa, pn, pc, rfl⟩ := OL2.form3
            clear OL2 hok2
            by_cases hzz : 0 ≤ z
            · have dz : decide ((0 : Int) ≤ z) = true := decide_eq_true hzz
              go_wp2_with (first | (refine ks_loadW KN 35 Tryd.underlying35 ?_) | (refine wpList_kn_lit KN (by rfl) 22 35 1 _ rfl 65 rfl Tryd.underlying22 x.cells (by kernel_rfl) ?_; clear KN; intro g65 wx hg65 KN) | (at_builtin; refine wpList_kn_append1 KN HOL2.out (by rfl) _ _ 22 rfl 24 Tryd.underlying22 (by kernel_rfl) (by decide) rfl 1 rfl rfl (by kernel_rfl) (by rw [List.length_map]; unfold maxLen; omega) (by rw [List.length_map]; omega) (f := fun o => (g6, _) :: (g10, _) :: o) (.cons _ (.cons _ .id)) rfl ?_; clear KN; intro v66 wx ol3 OW3 KN; have HO3 := Lib.hid OW3; clear OW3))
              go_roundw
              case rel => exact ⟨z - 1, l2 ++ [x], ol3, rfl, by omega, by omega, by rw [List.length_append]; simp; omega, evs_snoc HOK2.out HX.out, by rw [← raw_snoc]; exact HO3.out, KN⟩
              case measure => simp [intOf]; omega
            · have dz : decide ((0 : Int) ≤ z) = false := decide_eq_false hzz
              go_wp2_with fail
              go_roundw
              case rel => exact ⟨k + 1, K + 1 + 1 + 1 + 1, l2, ol2, by go_num, by omega, by omega, by omega, by omega, HOK2.out, HOL2.out, KN.drop .here⟩
              case measure => simp [intOf]; omega
        · replace KN := KN.as_ g6 #[.int .i64 4, .int .i64 0, .int .i64 0] (by repeat (first | exact Repl.here | apply Repl.there)) (by rfl)
          go_upto_region 9 with (first | (go_at_call 34; refine (Next_kn KN g10 _ (.slice a n c) zs _ (HZ.out.below KN.toBelow) (by repeat (first | exact Repl.here | apply Repl.there)) (by omega) (by omega) (by omega)).mono ?_; rintro e wx ⟨rc, hrc0, hrc1, rfl, K2⟩; replace KN := K2; clear K2) | ((with_reducible refine wpList_gate ?_); first | ((with_reducible refine gate_load ?_ ?_); rfl; first | (refine ks_load1 KN 3 Tryd.underlying3 ?_) | (refine ks_loadW KN 35 Tryd.underlying35 ?_)) | ((with_reducible refine gate_store ?_ ?_); rfl; first | (refine ks_storeW KN 35 ?_; clear KN; intro wx KN) | (refine ks_storeA KN 35 ?_; clear KN; intro wx KN) | (refine ks_store1 KN 3 ?_; clear KN; intro wx KN)) | ((with_reducible refine gate_new ?_ ?_); rfl; first | (refine ks_boxA KN 80 (q := 10) ?_; clear KN; intro g10 wx hg10 KN) | (refine ks_alloc KN 35 (q := 6) #[.int .i64 0, .int .i64 0, .int .i64 0] ?_; clear KN; intro g6 wx hg6 KN))))
          (try go_frame)
          go_upto_region 11 with (first | ((with_reducible refine wpList_gate ?_); first | ((with_reducible refine gate_load ?_ ?_); rfl; first | (refine ks_load1 KN 3 Tryd.underlying3 ?_) | (refine ks_loadW KN 35 Tryd.underlying35 ?_)) | ((with_reducible refine gate_store ?_ ?_); rfl; first | (refine ks_storeW KN 35 ?_; clear KN; intro wx KN) | (refine ks_storeA KN 35 ?_; clear KN; intro wx KN) | (refine ks_store1 KN 3 ?_; clear KN; intro wx KN)) | ((with_reducible refine gate_new ?_ ?_); rfl; first | (refine ks_boxA KN 80 (q := 10) ?_; clear KN; intro g10 wx hg10 KN) | (refine ks_alloc KN 35 (q := 6) #[.int .i64 0, .int .i64 0, .int .i64 0] ?_; clear KN; intro g6 wx hg6 KN))))
          (try go_frame)
          go_upto_block 2 with (go_at_call 34; refine (Next_kn KN g10 _ (.slice a n c) zs _ (HZ.out.below KN.toBelow) (by repeat (first | exact Repl.here | apply Repl.there)) (by omega) (by omega) (by omega)).mono ?_; rintro e wx ⟨r4, hr40, hr41, rfl, K2⟩; replace KN := K2; clear K2)
          (try go_frame)
          replace KN := KN.as_ g6 (RawEv.cells ⟨4, rc, 0⟩) (by repeat (first | exact Repl.here | apply Repl.there)) (by rfl)
          have HX : Hid (rawOk ⟨4, rc, 0⟩ = true) := Lib.hid (raw_c (by decide) hrc0 hrc1)
          obtain ⟨x, hx⟩ : ∃ x : RawEv, x = ⟨4, rc, 0⟩ := ⟨_, rfl⟩
          rw [← hx] at KN HX
          clear hx
          go_wp2_with fail
          go_loopw [4, 7] (fun s4 s7 wr => EvR2 (.slice a n c) k (K + 1 + 1 + 1) g6 g10 x w s4 s7 wr) (fun _ s7 _ => (intOf s7 + 1).toNat)
          case atStart => exact ⟨r4, l, ol, rfl, by omega, by omega, by omega, HOK.out, HOL.out, KN⟩
          case round =>
            clear KN
            obtain ⟨z, l2, ol2, rfl, hz0, hz1, hlen, hok2, OL2, KN⟩ := hrel
            have HOL2 := Lib.hid OL2
            have HOK2 := Lib.hid hok2
            obtain ⟨pa, pn, pc, rfl⟩ := OL2.form3
            clear OL2 hok2
            by_cases hzz : 0 ≤ z
            · have dz : decide ((0 : Int) ≤ z) = true := decide_eq_true hzz
              go_wp2_with (first | (refine ks_loadW KN 35 Tryd.underlying35 ?_) | (refine wpList_kn_lit KN (by rfl) 22 35 1 _ rfl 65 rfl Tryd.underlying22 x.cells (by kernel_rfl) ?_; clear KN; intro g65 wx hg65 KN) | (at_builtin; refine wpList_kn_append1 KN HOL2.out (by rfl) _ _ 22 rfl 24 Tryd.underlying22 (by kernel_rfl) (by decide) rfl 1 rfl rfl (by kernel_rfl) (by rw [List.length_map]; unfold maxLen; omega) (by rw [List.length_map]; omega) (f := fun o => (g6, _) :: (g10, _) :: o) (.cons _ (.cons _ .id)) rfl ?_; clear KN; intro v66 wx ol3 OW3 KN; have HO3 := Lib.hid OW3; clear OW3))
              go_roundw
              case rel => exact ⟨z - 1, l2 ++ [x], ol3, rfl, by omega, by omega, by rw [List.length_append]; simp; omega, evs_snoc HOK2.out HX.out, by rw [← raw_snoc]; exact HO3.out, KN⟩
              case measure => simp [intOf]; omega
            · have dz : decide ((0 : Int) ≤ z) = false := decide_eq_false hzz
              go_wp2_with fail
              go_roundw
              case rel => exact ⟨k + 1, K + 1 + 1 + 1, l2, ol2, by go_num, by omega, by omega, by omega, by omega, HOK2.out, HOL2.out, KN.drop .here⟩
              case measure => simp [intOf]; omega
        · replace KN := KN.as_ g6 #[.int .i64 5, .int .i64 0, .int .i64 0] (by repeat (first | exact Repl.here | apply Repl.there)) (by rfl)
          go_upto_region 9 with (first | (go_at_call 34; refine (Next_kn KN g10 _ (.slice a n c) zs _ (HZ.out.below KN.toBelow) (by repeat (first | exact Repl.here | apply Repl.there)) (by omega) (by omega) (by omega)).mono ?_; rintro e wx ⟨rc, hrc0, hrc1, rfl, K2⟩; replace KN := K2; clear K2) | ((with_reducible refine wpList_gate ?_); first | ((with_reducible refine gate_load ?_ ?_); rfl; first | (refine ks_load1 KN 3 Tryd.underlying3 ?_) | (refine ks_loadW KN 35 Tryd.underlying35 ?_)) | ((with_reducible refine gate_store ?_ ?_); rfl; first | (refine ks_storeW KN 35 ?_; clear KN; intro wx KN) | (refine ks_storeA KN 35 ?_; clear KN; intro wx KN) | (refine ks_store1 KN 3 ?_; clear KN; intro wx KN)) | ((with_reducible refine gate_new ?_ ?_); rfl; first | (refine ks_boxA KN 80 (q := 10) ?_; clear KN; intro g10 wx hg10 KN) | (refine ks_alloc KN 35 (q := 6) #[.int .i64 0, .int .i64 0, .int .i64 0] ?_; clear KN; intro g6 wx hg6 KN))))
          (try go_frame)
          go_upto_region 11 with (first | ((with_reducible refine wpList_gate ?_); first | ((with_reducible refine gate_load ?_ ?_); rfl; first | (refine ks_load1 KN 3 Tryd.underlying3 ?_) | (refine ks_loadW KN 35 Tryd.underlying35 ?_)) | ((with_reducible refine gate_store ?_ ?_); rfl; first | (refine ks_storeW KN 35 ?_; clear KN; intro wx KN) | (refine ks_storeA KN 35 ?_; clear KN; intro wx KN) | (refine ks_store1 KN 3 ?_; clear KN; intro wx KN)) | ((with_reducible refine gate_new ?_ ?_); rfl; first | (refine ks_boxA KN 80 (q := 10) ?_; clear KN; intro g10 wx hg10 KN) | (refine ks_alloc KN 35 (q := 6) #[.int .i64 0, .int .i64 0, .int .i64 0] ?_; clear KN; intro g6 wx hg6 KN))))
          (try go_frame)
          go_upto_block 2 with (go_at_call 34; refine (Next_kn KN g10 _ (.slice a n c) zs _ (HZ.out.below KN.toBelow) (by repeat (first | exact Repl.here | apply Repl.there)) (by omega) (by omega) (by omega)).mono ?_; rintro e wx ⟨r4, hr40, hr41, rfl, K2⟩; replace KN := K2; clear K2)
          (try go_frame)
          replace KN := KN.as_ g6 (RawEv.cells ⟨5, rc, 0⟩) (by repeat (first | exact Repl.here | apply Repl.there)) (by rfl)
          have HX : Hid (rawOk ⟨5, rc, 0⟩ = true) := Lib.hid (raw_c (by decide) hrc0 hrc1)
          obtain ⟨x, hx⟩ : ∃ x : RawEv, x = ⟨5, rc, 0⟩ := ⟨_, rfl⟩
          rw [← hx] at KN HX
          clear hx
          go_wp2_with fail
          go_loopw [4, 7] (fun s4 s7 wr => EvR2 (.slice a n c) k (K + 1 + 1 + 1) g6 g10 x w s4 s7 wr) (fun _ s7 _ => (intOf s7 + 1).toNat)
          case atStart => exact ⟨r4, l, ol, rfl, by omega, by omega, by omega, HOK.out, HOL.out, KN⟩
          case round =>
            clear KN
            obtain ⟨z, l2, ol2, rfl, hz0, hz1, hlen, hok2, OL2, KN⟩ := hrel
            have HOL2 := Lib.hid OL2
            have HOK2 := Lib.hid hok2
            obtain ⟨pa, pn, pc, rfl⟩ := OL2.form3
            clear OL2 hok2
            by_cases hzz : 0 ≤ z
            · have dz : decide ((0 : Int) ≤ z) = true := decide_eq_true hzz
              go_wp2_with (first | (refine ks_loadW KN 35 Tryd.underlying35 ?_) | (refine wpList_kn_lit KN (by rfl) 22 35 1 _ rfl 65 rfl Tryd.underlying22 x.cells (by kernel_rfl) ?_; clear KN; intro g65 wx hg65 KN) | (at_builtin; refine wpList_kn_append1 KN HOL2.out (by rfl) _ _ 22 rfl 24 Tryd.underlying22 (by kernel_rfl) (by decide) rfl 1 rfl rfl (by kernel_rfl) (by rw [List.length_map]; unfold maxLen; omega) (by rw [List.length_map]; omega) (f := fun o => (g6, _) :: (g10, _) :: o) (.cons _ (.cons _ .id)) rfl ?_; clear KN; intro v66 wx ol3 OW3 KN; have HO3 := Lib.hid OW3; clear OW3))
              go_roundw
              case rel => exact ⟨z - 1, l2 ++ [x], ol3, rfl, by omega, by omega, by rw [List.length_append]; simp; omega, evs_snoc HOK2.out HX.out, by rw [← raw_snoc]; exact HO3.out, KN⟩
              case measure => simp [intOf]; omega
            · have dz : decide ((0 : Int) ≤ z) = false := decide_eq_false hzz
              go_wp2_with fail
              go_roundw
              case rel => exact ⟨k + 1, K + 1 + 1 + 1, l2, ol2, by go_num, by omega, by omega, by omega, by omega, HOK2.out, HOL2.out, KN.drop .here⟩
              case measure => simp [intOf]; omega
        · replace KN := KN.as_ g6 #[.int .i64 6, .int .i64 0, .int .i64 0] (by repeat (first | exact Repl.here | apply Repl.there)) (by rfl)
          go_upto_region 9 with (first | (go_at_call 34; refine (Next_kn KN g10 _ (.slice a n c) zs _ (HZ.out.below KN.toBelow) (by repeat (first | exact Repl.here | apply Repl.there)) (by omega) (by omega) (by omega)).mono ?_; rintro e wx ⟨rc, hrc0, hrc1, rfl, K2⟩; replace KN := K2; clear K2) | ((with_reducible refine wpList_gate ?_); first | ((with_reducible refine gate_load ?_ ?_); rfl; first | (refine ks_load1 KN 3 Tryd.underlying3 ?_) | (refine ks_loadW KN 35 Tryd.underlying35 ?_)) | ((with_reducible refine gate_store ?_ ?_); rfl; first | (refine ks_storeW KN 35 ?_; clear KN; intro wx KN) | (refine ks_storeA KN 35 ?_; clear KN; intro wx KN) | (refine ks_store1 KN 3 ?_; clear KN; intro wx KN)) | ((with_reducible refine gate_new ?_ ?_); rfl; first | (refine ks_boxA KN 80 (q := 10) ?_; clear KN; intro g10 wx hg10 KN) | (refine ks_alloc KN 35 (q := 6) #[.int .i64 0, .int .i64 0, .int .i64 0] ?_; clear KN; intro g6 wx hg6 KN))))
          (try go_frame)
          go_upto_region 11 with (first | (go_at_call 34; refine (Next_kn KN g10 _ (.slice a n c) zs _ (HZ.out.below KN.toBelow) (by repeat (first | exact Repl.here | apply Repl.there)) (by omega) (by omega) (by omega)).mono ?_; rintro e wx ⟨rm, hrm0, hrm1, rfl, K2⟩; replace KN := K2; clear K2) | ((with_reducible refine wpList_gate ?_); first | ((with_reducible refine gate_load ?_ ?_); rfl; first | (refine ks_load1 KN 3 Tryd.underlying3 ?_) | (refine ks_loadW KN 35 Tryd.underlying35 ?_)) | ((with_reducible refine gate_store ?_ ?_); rfl; first | (refine ks_storeW KN 35 ?_; clear KN; intro wx KN) | (refine ks_storeA KN 35 ?_; clear KN; intro wx KN) | (refine ks_store1 KN 3 ?_; clear KN; intro wx KN)) | ((with_reducible refine gate_new ?_ ?_); rfl; first | (refine ks_boxA KN 80 (q := 10) ?_; clear KN; intro g10 wx hg10 KN) | (refine ks_alloc KN 35 (q := 6) #[.int .i64 0, .int .i64 0, .int .i64 0] ?_; clear KN; intro g6 wx hg6 KN))))
          (try go_frame)
          go_upto_block 2 with (go_at_call 34; refine (Next_kn KN g10 _ (.slice a n c) zs _ (HZ.out.below KN.toBelow) (by repeat (first | exact Repl.here | apply Repl.there)) (by omega) (by omega) (by omega)).mono ?_; rintro e wx ⟨r4, hr40, hr41, rfl, K2⟩; replace KN := K2; clear K2)
          (try go_frame)
          replace KN := KN.as_ g6 (RawEv.cells ⟨6, rc, rm⟩) (by repeat (first | exact Repl.here | apply Repl.there)) (by rfl)
          have HX : Hid (rawOk ⟨6, rc, rm⟩ = true) := Lib.hid (raw_cn (by decide) hrc0 hrc1 hrm0 hrm1)
          obtain ⟨x, hx⟩ : ∃ x : RawEv, x = ⟨6, rc, rm⟩ := ⟨_, rfl⟩
          rw [← hx] at KN HX
          clear hx
          go_wp2_with fail
          go_loopw [4, 7] (fun s4 s7 wr => EvR2 (.slice a n c) k (K + 1 + 1 + 1 + 1) g6 g10 x w s4 s7 wr) (fun _ s7 _ => (intOf s7 + 1).toNat)
          case atStart => exact ⟨r4, l, ol, rfl, by omega, by omega, by omega, HOK.out, HOL.out, KN⟩
          case round =>
            clear KN
            obtain ⟨z, l2, ol2, rfl, hz0, hz1, hlen, hok2, OL2, KN⟩ := hrel
            have HOL2 := Lib.hid OL2
            have HOK2 := Lib.hid hok2
            obtain ⟨pa, pn, pc, rfl⟩ := OL2.form3
            clear OL2 hok2
            by_cases hzz : 0 ≤ z
            · have dz : decide ((0 : Int) ≤ z) = true := decide_eq_true hzz
              go_wp2_with (first | (refine ks_loadW KN 35 Tryd.underlying35 ?_) | (refine wpList_kn_lit KN (by rfl) 22 35 1 _ rfl 65 rfl Tryd.underlying22 x.cells (by kernel_rfl) ?_; clear KN; intro g65 wx hg65 KN) | (at_builtin; refine wpList_kn_append1 KN HOL2.out (by rfl) _ _ 22 rfl 24 Tryd.underlying22 (by kernel_rfl) (by decide) rfl 1 rfl rfl (by kernel_rfl) (by rw [List.length_map]; unfold maxLen; omega) (by rw [List.length_map]; omega) (f := fun o => (g6, _) :: (g10, _) :: o) (.cons _ (.cons _ .id)) rfl ?_; clear KN; intro v66 wx ol3 OW3 KN; have HO3 := Lib.hid OW3; clear OW3))
              go_roundw
              case rel => exact ⟨z - 1, l2 ++ [x], ol3, rfl, by omega, by omega, by rw [List.length_append]; simp; omega, evs_snoc HOK2.out HX.out, by rw [← raw_snoc]; exact HO3.out, KN⟩
              case measure => simp [intOf]; omega
            · have dz : decide ((0 : Int) ≤ z) = false := decide_eq_false hzz
              go_wp2_with fail
              go_roundw
              case rel => exact ⟨k + 1, K + 1 + 1 + 1 + 1, l2, ol2, by go_num, by omega, by omega, by omega, by omega, HOK2.out, HOL2.out, KN.drop .here⟩
              case measure => simp [intOf]; omega
        · replace KN := KN.as_ g6 #[.int .i64 7, .int .i64 0, .int .i64 0] (by repeat (first | exact Repl.here | apply Repl.there)) (by rfl)
          go_upto_region 9 with (first | (go_at_call 34; refine (Next_kn KN g10 _ (.slice a n c) zs _ (HZ.out.below KN.toBelow) (by repeat (first | exact Repl.here | apply Repl.there)) (by omega) (by omega) (by omega)).mono ?_; rintro e wx ⟨rc, hrc0, hrc1, rfl, K2⟩; replace KN := K2; clear K2) | ((with_reducible refine wpList_gate ?_); first | ((with_reducible refine gate_load ?_ ?_); rfl; first | (refine ks_load1 KN 3 Tryd.underlying3 ?_) | (refine ks_loadW KN 35 Tryd.underlying35 ?_)) | ((with_reducible refine gate_store ?_ ?_); rfl; first | (refine ks_storeW KN 35 ?_; clear KN; intro wx KN) | (refine ks_storeA KN 35 ?_; clear KN; intro wx KN) | (refine ks_store1 KN 3 ?_; clear KN; intro wx KN)) | ((with_reducible refine gate_new ?_ ?_); rfl; first | (refine ks_boxA KN 80 (q := 10) ?_; clear KN; intro g10 wx hg10 KN) | (refine ks_alloc KN 35 (q := 6) #[.int .i64 0, .int .i64 0, .int .i64 0] ?_; clear KN; intro g6 wx hg6 KN))))
          (try go_frame)
          go_upto_region 11 with (first | (go_at_call 34; refine (Next_kn KN g10 _ (.slice a n c) zs _ (HZ.out.below KN.toBelow) (by repeat (first | exact Repl.here | apply Repl.there)) (by omega) (by omega) (by omega)).mono ?_; rintro e wx ⟨rm, hrm0, hrm1, rfl, K2⟩; replace KN := K2; clear K2) | ((with_reducible refine wpList_gate ?_); first | ((with_reducible refine gate_load ?_ ?_); rfl; first | (refine ks_load1 KN 3 Tryd.underlying3 ?_) | (refine ks_loadW KN 35 Tryd.underlying35 ?_)) | ((with_reducible refine gate_store ?_ ?_); rfl; first | (refine ks_storeW KN 35 ?_; clear KN; intro wx KN) | (refine ks_storeA KN 35 ?_; clear KN; intro wx KN) | (refine ks_store1 KN 3 ?_; clear KN; intro wx KN)) | ((with_reducible refine gate_new ?_ ?_); rfl; first | (refine ks_boxA KN 80 (q := 10) ?_; clear KN; intro g10 wx hg10 KN) | (refine ks_alloc KN 35 (q := 6) #[.int .i64 0, .int .i64 0, .int .i64 0] ?_; clear KN; intro g6 wx hg6 KN))))
          (try go_frame)
          go_upto_block 2 with (go_at_call 34; refine (Next_kn KN g10 _ (.slice a n c) zs _ (HZ.out.below KN.toBelow) (by repeat (first | exact Repl.here | apply Repl.there)) (by omega) (by omega) (by omega)).mono ?_; rintro e wx ⟨r4, hr40, hr41, rfl, K2⟩; replace KN := K2; clear K2)
          (try go_frame)
          replace KN := KN.as_ g6 (RawEv.cells ⟨7, rc, rm⟩) (by repeat (first | exact Repl.here | apply Repl.there)) (by rfl)
          have HX : Hid (rawOk ⟨7, rc, rm⟩ = true) := Lib.hid (raw_cn (by decide) hrc0 hrc1 hrm0 hrm1)
          obtain ⟨x, hx⟩ : ∃ x : RawEv, x = ⟨7, rc, rm⟩ := ⟨_, rfl⟩
          rw [← hx] at KN HX
          clear hx
          go_wp2_with fail
          go_loopw [4, 7] (fun s4 s7 wr => EvR2 (.slice a n c) k (K + 1 + 1 + 1 + 1) g6 g10 x w s4 s7 wr) (fun _ s7 _ => (intOf s7 + 1).toNat)
          case atStart => exact ⟨r4, l, ol, rfl, by omega, by omega, by omega, HOK.out, HOL.out, KN⟩
          case round =>
            clear KN
            obtain ⟨z, l2, ol2, rfl, hz0, hz1, hlen, hok2, OL2, KN⟩ := hrel
            have HOL2 := Lib.hid OL2
            have HOK2 := Lib.hid hok2
            obtain ⟨pa, pn, pc, rfl⟩ := OL2.form3
            clear OL2 hok2
            by_cases hzz : 0 ≤ z
            · have dz : decide ((0 : Int) ≤ z) = true := decide_eq_true hzz
              go_wp2_with (first | (refine ks_loadW KN 35 Tryd.underlying35 ?_) | (refine wpList_kn_lit KN (by rfl) 22 35 1 _ rfl 65 rfl Tryd.underlying22 x.cells (by kernel_rfl) ?_; clear KN; intro g65 wx hg65 KN) | (at_builtin; refine wpList_kn_append1 KN HOL2.out (by rfl) _ _ 22 rfl 24 Tryd.underlying22 (by kernel_rfl) (by decide) rfl 1 rfl rfl (by kernel_rfl) (by rw [List.length_map]; unfold maxLen; omega) (by rw [List.length_map]; omega) (f := fun o => (g6, _) :: (g10, _) :: o) (.cons _ (.cons _ .id)) rfl ?_; clear KN; intro v66 wx ol3 OW3 KN; have HO3 := Lib.hid OW3; clear OW3))
              go_roundw
              case rel => exact ⟨z - 1, l2 ++ [x], ol3, rfl, by omega, by omega, by rw [List.length_append]; simp; omega, evs_snoc HOK2.out HX.out, by rw [← raw_snoc]; exact HO3.out, KN⟩
              case measure => simp [intOf]; omega
            · have dz : decide ((0 : Int) ≤ z) = false := decide_eq_false hzz
              go_wp2_with fail
              go_roundw
              case rel => exact ⟨k + 1, K + 1 + 1 + 1 + 1, l2, ol2, by go_num, by omega, by omega, by omega, by omega, HOK2.out, HOL2.out, KN.drop .here⟩
              case measure => simp [intOf]; omega
        · replace KN := KN.as_ g6 #[.int .i64 8, .int .i64 0, .int .i64 0] (by repeat (first | exact Repl.here | apply Repl.there)) (by rfl)
          go_upto_region 11 with (first | (go_at_call 34; refine (Next_kn KN g10 _ (.slice a n c) zs _ (HZ.out.below KN.toBelow) (by repeat (first | exact Repl.here | apply Repl.there)) (by omega) (by omega) (by omega)).mono ?_; rintro e wx ⟨rm, hrm0, hrm1, rfl, K2⟩; replace KN := K2; clear K2) | ((with_reducible refine wpList_gate ?_); first | ((with_reducible refine gate_load ?_ ?_); rfl; first | (refine ks_load1 KN 3 Tryd.underlying3 ?_) | (refine ks_loadW KN 35 Tryd.underlying35 ?_)) | ((with_reducible refine gate_store ?_ ?_); rfl; first | (refine ks_storeW KN 35 ?_; clear KN; intro wx KN) | (refine ks_storeA KN 35 ?_; clear KN; intro wx KN) | (refine ks_store1 KN 3 ?_; clear KN; intro wx KN)) | ((with_reducible refine gate_new ?_ ?_); rfl; first | (refine ks_boxA KN 80 (q := 10) ?_; clear KN; intro g10 wx hg10 KN) | (refine ks_alloc KN 35 (q := 6) #[.int .i64 0, .int .i64 0, .int .i64 0] ?_; clear KN; intro g6 wx hg6 KN))))
          (try go_frame)
          go_upto_block 2 with (go_at_call 34; refine (Next_kn KN g10 _ (.slice a n c) zs _ (HZ.out.below KN.toBelow) (by repeat (first | exact Repl.here | apply Repl.there)) (by omega) (by omega) (by omega)).mono ?_; rintro e wx ⟨r4, hr40, hr41, rfl, K2⟩; replace KN := K2; clear K2)
          (try go_frame)
          replace KN := KN.as_ g6 (RawEv.cells ⟨8, 0, rm⟩) (by repeat (first | exact Repl.here | apply Repl.there)) (by rfl)
          have HX : Hid (rawOk ⟨8, 0, rm⟩ = true) := Lib.hid (raw_n hrm0 hrm1)
          obtain ⟨x, hx⟩ : ∃ x : RawEv, x = ⟨8, 0, rm⟩ := ⟨_, rfl⟩
          rw [← hx] at KN HX
          clear hx
          go_wp2_with fail
          go_loopw [4, 7] (fun s4 s7 wr => EvR2 (.slice a n c) k (K + 1 + 1 + 1) g6 g10 x w s4 s7 wr) (fun _ s7 _ => (intOf s7 + 1).toNat)
          case atStart => exact ⟨r4, l, ol, rfl, by omega, by omega, by omega, HOK.out, HOL.out, KN⟩
          case round =>
            clear KN
            obtain ⟨z, l2, ol2, rfl, hz0, hz1, hlen, hok2, OL2, KN⟩ := hrel
            have HOL2 := Lib.hid OL2
            have HOK2 := Lib.hid hok2
            obtain ⟨pa, pn, pc, rfl⟩ := OL2.form3
            clear OL2 hok2
            by_cases hzz : 0 ≤ z
            · have dz : decide ((0 : Int) ≤ z) = true := decide_eq_true hzz
              go_wp2_with (first | (refine ks_loadW KN 35 Tryd.underlying35 ?_) | (refine wpList_kn_lit KN (by rfl) 22 35 1 _ rfl 65 rfl Tryd.underlying22 x.cells (by kernel_rfl) ?_; clear KN; intro g65 wx hg65 KN) | (at_builtin; refine wpList_kn_append1 KN HOL2.out (by rfl) _ _ 22 rfl 24 Tryd.underlying22 (by kernel_rfl) (by decide) rfl 1 rfl rfl (by kernel_rfl) (by rw [List.length_map]; unfold maxLen; omega) (by rw [List.length_map]; omega) (f := fun o => (g6, _) :: (g10, _) :: o) (.cons _ (.cons _ .id)) rfl ?_; clear KN; intro v66 wx ol3 OW3 KN; have HO3 := Lib.hid OW3; clear OW3))
              go_roundw
              case rel => exact ⟨z - 1, l2 ++ [x], ol3, rfl, by omega, by omega, by rw [List.length_append]; simp; omega, evs_snoc HOK2.out HX.out, by rw [← raw_snoc]; exact HO3.out, KN⟩
              case measure => simp [intOf]; omega
            · have dz : decide ((0 : Int) ≤ z) = false := decide_eq_false hzz
              go_wp2_with fail
              go_roundw
              case rel => exact ⟨k + 1, K + 1 + 1 + 1, l2, ol2, by go_num, by omega, by omega, by omega, by omega, HOK2.out, HOL2.out, KN.drop .here⟩
              case measure => simp [intOf]; omega
      · have d60 : decide ((k : Int) < 60) = false := decide_eq_false (by omega)
        clear hd2
        go_wp2_with fail
        go_ret
        exact ⟨_, l, ol, rfl, HOK.out, by omega, HOL.out, KN.drop .here⟩
    · obtain rfl : k = n := by omega
      clear hd2
      go_wp2_with fail
      go_ret
      exact ⟨_, l, ol, rfl, HOK.out, by omega, HOL.out, KN.drop .here⟩
end Go.Proofs.YtgeeklgojjcdmaaDoor
