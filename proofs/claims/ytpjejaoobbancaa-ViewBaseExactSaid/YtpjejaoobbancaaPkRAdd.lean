/- The reference's Add: a number into an ascending list. -/
import Derived.Test.YtpjejaoobbancaaPkSlc
import Derived.Test.YtpjejaoobbancaaPkAppR
import Derived.Test.YtpjejaoobbancaaPkMkRep
import Derived.Deep.DeepCutAuto
set_option linter.unusedVariables false
set_option linter.unusedSimpArgs false
set_option linter.unusedSectionVars false
namespace Go.Proofs.Ytpjejaoobbancaa
open Go.RowKit Go.BigFrame

/-- Lists in ascending order with the same members are equal. -/
theorem asc_ext : ∀ {a b : List Int}, a.Pairwise (· < ·) → b.Pairwise (· < ·) → (∀ z, z ∈ a ↔ z ∈ b) → a = b
  | [], [], _, _, _ => rfl
  | [], y :: b, _, _, h => absurd ((h y).2 List.mem_cons_self) (by simp)
  | x :: a, [], _, _, h => absurd ((h x).1 List.mem_cons_self) (by simp)
  | x :: a, y :: b, ha, hb, h => by
    rw [List.pairwise_cons] at ha hb
    have hxy : x = y := by
      rcases List.mem_cons.1 ((h x).1 List.mem_cons_self) with h1 | h1
      · exact h1
      · have h2 := hb.1 x h1
        rcases List.mem_cons.1 ((h y).2 List.mem_cons_self) with h3 | h3
        · exact h3.symm
        · have := ha.1 y h3; omega
    subst hxy
    congr 1
    refine asc_ext ha.2 hb.2 fun z => ⟨fun hz => ?_, fun hz => ?_⟩
    · rcases List.mem_cons.1 ((h z).1 (List.mem_cons_of_mem _ hz)) with h1 | h1
      · subst h1; have := ha.1 z hz; omega
      · exact h1
    · rcases List.mem_cons.1 ((h z).2 (List.mem_cons_of_mem _ hz)) with h1 | h1
      · subst h1; have := hb.1 z hz; omega
      · exact h1
/-- A number put where it belongs. -/
theorem asc_put {l : List Int} {k : Nat} {n : Int} (h : l.Pairwise (· < ·)) (h1 : ∀ z ∈ l.take k, z < n) (h2 : ∀ z ∈ l.drop k, n < z) : (l.take k ++ [n] ++ l.drop k).Pairwise (· < ·) ∧ ∀ z, z ∈ l.take k ++ [n] ++ l.drop k ↔ z ∈ l ∨ z = n := by
  refine ⟨?_, fun z => ?_⟩
  · rw [List.append_assoc, List.pairwise_append]
    refine ⟨h.sublist (List.take_sublist _ _), ?_, ?_⟩
    · rw [List.cons_append, List.nil_append, List.pairwise_cons]
      exact ⟨h2, h.sublist (List.drop_sublist _ _)⟩
    · intro a ha b hb
      rw [List.cons_append, List.nil_append, List.mem_cons] at hb
      rcases hb with rfl | hb
      · exact h1 a ha
      · have := h1 a ha; have := h2 b hb; omega
  · conv => rhs; lhs; rw [← List.take_append_drop k l]
    simp only [List.mem_append, List.mem_singleton]
    constructor
    · rintro ((h | h) | h)
      · exact .inl (.inl h)
      · exact .inr h
      · exact .inl (.inr h)
    · rintro ((h | h) | h)
      · exact .inl (.inl h)
      · exact .inr h
      · exact .inl (.inr h)
theorem take_snoc_all {l : List Int} {k : Nat} {x n : Int} (hx : l[k]? = some x) (h : ∀ z ∈ l.take k, z < n) (hxn : x < n) : ∀ z ∈ l.take (k + 1), z < n := by
  intro z hz
  rw [take_snocI hx] at hz
  rcases List.mem_append.1 hz with h1 | h1
  · exact h z h1
  · have : z = x := by simpa using h1
    omega
theorem drop_all_gt {l : List Int} {k : Nat} {x n : Int} (hs : l.Pairwise (· < ·)) (hx : l[k]? = some x) (hxn : n < x) : ∀ z ∈ l.drop k, n < z := by
  intro z hz
  have hk := (List.getElem?_eq_some_iff.1 hx).1
  have hx' : l[k] = x := by rw [List.getElem?_eq_getElem hk] at hx; simpa using hx
  rw [List.drop_eq_getElem_cons hk, hx'] at hz
  rcases List.mem_cons.1 hz with h | h
  · omega
  · have hd := hs.sublist (List.drop_sublist k l)
    rw [List.drop_eq_getElem_cons hk, hx', List.pairwise_cons] at hd
    have := hd.1 z h
    omega
theorem row_takeA {w : World} {a : Option Addr} {n c k : Nat} {zs : List Int} (h : Row w (.slice a n c) 1 (intRows zs)) (hk : k ≤ n) : Row w (.slice a k c) 1 (intRows (zs.take k)) := by
  have hn : n = zs.length := by
    obtain ⟨a', c', hv, _, _⟩ := ints_form h
    simp only [Value.slice.injEq] at hv
    exact hv.2.1
  rcases h.2 with ⟨h0, a', c', hv⟩ | ⟨b, off, cap, hv, _, _⟩
  · have h0 : zs = [] := by simpa using h0
    subst h0
    have : n = 0 := hn
    subst this
    have : k = 0 := by omega
    subst this
    exact ⟨by simp, .inl ⟨rfl, _, _, rfl⟩⟩
  · have := h.sub 0 k (Nat.zero_le _) (by rw [List.length_map]; omega)
    simp only [Value.slice.injEq] at hv
    obtain ⟨rfl, _, rfl⟩ := hv
    have e : sliced (some ⟨b, off, none⟩) 0 k c 1 = .slice (some ⟨b, off, none⟩) k c := by
      unfold sliced; split
      · rename_i h; simp [h]
      · simp [Addr.add]
    rw [e, List.drop_zero, Nat.sub_zero, ← List.map_take] at this
    exact this
theorem row_dropA {w : World} {a : Option Addr} {n c k : Nat} {zs : List Int} (h : Row w (.slice a n c) 1 (intRows zs)) (hn : n = zs.length) (hk : k ≤ n) : Row w (sliced a k n c 1) 1 (intRows (zs.drop k)) := by
  have := h.sub k n hk (by rw [List.length_map]; omega)
  have he : ((intRows zs).drop k).take (n - k) = intRows (zs.drop k) := by
    rw [List.take_of_length_le (by rw [List.length_drop, List.length_map]; omega)]; exact List.map_drop.symm
  rwa [he] at this
/-- What Add answers: the list itself, or one of its own. -/
def AddOut (v : Value) (l : List Int) (n : Int) (w : World) (e : Ending) (w' : World) : Prop :=
  (e = .returned v ∧ n ∈ l ∧ w = w') ∨
  ∃ (v' : Value) (l' : List Int) (ol : Ents), e = .returned v' ∧ l'.Pairwise (· < ·) ∧ (∀ z, z ∈ l' ↔ z ∈ l ∨ z = n) ∧ l'.length ≤ l.length + 1 ∧ OwnT 3 1 v' (intRows l') ol ∧ Kn [] w w' ol
set_option maxRecDepth 100000 in
set_option maxHeartbeats 8000000 in
theorem Add_any {v : Value} {l : List Int} {w : World} (h : Row w v 1 (intRows l)) (hs : l.Pairwise (· < ·)) (hl : l.length ≤ 100000) (n : Int) :
    Calls Try.prog 37 #[v, .int .i64 n] w (AddOut v l n w) := by
  have HR := Lib.hid h
  obtain ⟨a, c, rfl, hm, hc⟩ := ints_form h
  obtain ⟨m, hmm⟩ : ∃ m, m = l.length := ⟨_, rfl⟩
  have HM := Lib.hid hmm
  have HC := Lib.hid hc
  have HS := Lib.hid hs
  have hcap : m ≤ c := by
    rw [hmm]
    rcases h.2 with ⟨h0, a', c', hv⟩ | ⟨b, off, cap, hv, _, hcc, _⟩
    · have : l = [] := by simpa using h0
      rw [this]; exact Nat.zero_le _
    · simp only [Value.slice.injEq, List.length_map] at hv hcc
      rw [hv.2.2]; exact hcc
  have HPOST : Hid (∀ e w', ((e = .returned (.slice a m c) ∧ n ∈ l ∧ w = w') ∨ ∃ (v' : Value) (l' : List Int) (ol : Ents), e = .returned v' ∧ l'.Pairwise (· < ·) ∧ (∀ z, z ∈ l' ↔ z ∈ l ∨ z = n) ∧ l'.length ≤ l.length + 1 ∧ OwnT 3 1 v' (intRows l') ol ∧ Kn [] w w' ol) → AddOut (.slice a m c) l n w e w') := Lib.hid (fun e w' h => h)
  rw [← hmm] at hm hl HR ⊢
  unfold maxLen at hm
  clear h hs hc hmm
  go_enter Try.func37, Try.ntmps37
  go_wp2_with fail
  go_loop [5] (fun i => ∃ k : Nat, i = .int .i64 (k : Int) ∧ k ≤ m ∧ ∀ z ∈ l.take k, z < n) (fun i => m - (intOf i).toNat)
  case atStart => exact ⟨0, rfl, Nat.zero_le _, by simp⟩
  case round =>
    obtain ⟨k, rfl, hk, hall⟩ := hrel
    have HALL := Lib.hid hall
    have hkc : k ≤ c := Nat.le_trans hk hcap
    have HTK : Hid (Row w (.slice a k c) 1 (intRows (l.take k))) := Lib.hid (row_takeA HR.out hk)
    have HDR : Hid (Row w (sliced a k m c 1) 1 (intRows (l.drop k))) := Lib.hid (row_dropA HR.out HM.out hk)
    clear hall
    by_cases hlt : k < m
    · obtain ⟨x, hx⟩ : ∃ x, l[k]? = some x := ⟨_, List.getElem?_eq_getElem (by rw [← HM.out]; exact hlt)⟩
      obtain ⟨g, off, rfl, hg, hc1, hc2, hcell⟩ := HC.out k x hx
      rw [← HM.out] at hc1
      unfold maxLen at hc2
      have HX := Lib.hid hx
      clear hx
      by_cases hxn : x < n
      · have d1 : decide (x < n) = true := decide_eq_true hxn
        go_wp2
        go_round
        case rel => exact ⟨k + 1, by go_num, by omega, take_snoc_all HX.out HALL.out hxn⟩
        case measure => simp [intOf]; omega
      · have d1 : decide (x < n) = false := decide_eq_false hxn
        by_cases hxe : x = n
        · have d2 : (x == n) = true := beq_iff_eq.2 hxe
          have HIN : Hid (n ∈ l) := Lib.hid (by rw [← hxe]; exact List.mem_of_getElem? HX.out)
          clear hxe
          go_wp2
          go_ret
          exact HPOST.out _ _ (.inl ⟨rfl, HIN.out, rfl⟩)
        · have d2 : (x == n) = false := beq_eq_false_iff_ne.2 hxe
          have HP := Lib.hid (asc_put HS.out HALL.out (drop_all_gt HS.out HX.out (by omega)))
          go_upto_region 6 with fail
          (try go_frame)
          clear hcell HR HC
          have KN := (Kn.start w).drew
          refine wp_region_held_drew (S := (fun _ => True)) (by kernel_rfl) ?qahS (fun hHeld => ?qarest)
          case qahS => trivial
          refine wpAnyH_take (i := 0) (oi := ⟨some 33, _, _, _, _, _⟩) (v := ?qav0) rfl (by kernel_rfl) (by kernel_rfl) (by kernel_rfl) (fun _ _ _ h => h) (Or.inl ⟨by rfl, ?qahy0⟩) hHeld ?qar0
          case qahy0 => (intro w hSw; (try dsimp only at hSw); go_simp; (try with_reducible rfl))
          (try simp only [Act.put, List.setIfInBounds_toArray, List.set_cons_zero, List.set_cons_succ])
          refine wpAnyH_take (i := 1) (oi := ⟨some 34, _, _, _, _, _⟩) (v := ?qav1) rfl (by kernel_rfl) (by kernel_rfl) (by kernel_rfl) (fun _ _ _ h => h) (Or.inl ⟨by rfl, ?qahy1⟩) hHeld ?qar1
          case qahy1 => (intro w hSw; (try dsimp only at hSw); go_simp; (try with_reducible rfl))
          (try simp only [Act.put, List.setIfInBounds_toArray, List.set_cons_zero, List.set_cons_succ])
          refine wpAnyH_take (i := 2) (oi := ⟨some 35, _, _, _, _, _⟩) (v := (.slice (some ⟨g, off, none⟩) k c)) rfl (by kernel_rfl) (by kernel_rfl) (by kernel_rfl) (fun _ _ _ h => h) (Or.inl ⟨by rfl, ?qahy2⟩) hHeld ?qar2
          case qahy2 => (intro w hSw; (try dsimp only at hSw); go_simp; (try rfl))
          (try simp only [Act.put, List.setIfInBounds_toArray, List.set_cons_zero, List.set_cons_succ])
          refine wpAnyH_take (i := 4) (oi := ⟨some 37, _, _, _, _, _⟩) (v := ?qav4) rfl (by kernel_rfl) (by kernel_rfl) (by kernel_rfl) (fun _ _ _ h => h) (Or.inl ⟨by rfl, ?qahy4⟩) hHeld ?qar4
          case qahy4 => (intro w hSw; (try dsimp only at hSw); go_simp; (try with_reducible rfl))
          (try simp only [Act.put, List.setIfInBounds_toArray, List.set_cons_zero, List.set_cons_succ])
          refine wpAnyH_take (i := 7) (oi := ⟨some 40, _, _, _, _, _⟩) (v := ?qav7) rfl (by kernel_rfl) (by kernel_rfl) (by kernel_rfl) (fun _ _ _ h => h) (Or.inl ⟨by rfl, ?qahy7⟩) hHeld ?qar7
          case qahy7 => (intro w hSw; (try dsimp only at hSw); go_simp; (try with_reducible rfl))
          (try simp only [Act.put, List.setIfInBounds_toArray, List.set_cons_zero, List.set_cons_succ])
          refine wpAnyH_take (i := 8) (oi := ⟨some 41, _, _, _, _, _⟩) (v := ?qav8) rfl (by kernel_rfl) (by kernel_rfl) (by kernel_rfl) (fun _ _ _ h => h) (Or.inl ⟨by rfl, ?qahy8⟩) hHeld ?qar8
          case qahy8 => (intro w hSw; (try dsimp only at hSw); go_simp; (try with_reducible rfl))
          (try simp only [Act.put, List.setIfInBounds_toArray, List.set_cons_zero, List.set_cons_succ])
          refine wpAnyH_take (i := 9) (oi := ⟨some 42, _, _, _, _, _⟩) (v := (sliced (some ⟨g, off, none⟩) k m c 1)) rfl (by kernel_rfl) (by kernel_rfl) (by kernel_rfl) (fun _ _ _ h => h) (Or.inl ⟨by rfl, ?qahy9⟩) hHeld ?qar9
          case qahy9 => (intro w hSw; (try dsimp only at hSw); go_simp; (try rfl))
          (try simp only [Act.put, List.setIfInBounds_toArray, List.set_cons_zero, List.set_cons_succ])
          refine wpAnyH_ready (rs := [3, 5]) (by kernel_rfl) (by simp) ?qac3_5
          refine (AllReadyH.cons (o := ⟨some 36, _, _, _, _, _⟩) rfl (fun K hK => ?qast3) (AllReadyH.cons (o := ⟨some 38, _, _, _, _, _⟩) rfl (fun K hK => ?qast5) AllReadyH.nil))
          case qast3 =>
            (rw [if_pos (by rfl)]; first | (refine wp_kn_appendR (f := fun o => o) KN .nil _ _ 22 rfl 8 Try.underlying22 int_info (by decide) rfl (.slice (some ⟨g, off, none⟩) k c) rfl _ (HTK.out.below KN.toBelow) (intRows_len _) (intRows_one _) (by rw [List.length_map, List.length_take]; unfold maxLen; simp; omega) (by rw [List.length_map, List.length_take]; simp; omega) .id rfl ?_; clear KN; intro v36 wx ol36 OW36 KN; have HO36 := Lib.hid OW36; clear OW36) | (refine wp_kn_appendR (f := fun o => (g38, _) :: o) KN .nil _ _ 22 rfl 8 Try.underlying22 int_info (by decide) rfl (.slice (some ⟨g, off, none⟩) k c) rfl _ (HTK.out.below KN.toBelow) (intRows_len _) (intRows_one _) (by rw [List.length_map, List.length_take]; unfold maxLen; simp; omega) (by rw [List.length_map, List.length_take]; simp; omega) (.cons _ .id) rfl ?_; clear KN; intro v36 wx ol36 OW36 KN; have HO36 := Lib.hid OW36; clear OW36))
            refine hK.out _ _ ?qa3xk3 (fun hHeld2 => ?qa3xm3)
            case qa3xk3 => trivial
            clear hK K hHeld
            have hHeld := hHeld2; clear hHeld2
            (try simp only [Act.put, List.setIfInBounds_toArray, List.set_cons_zero, List.set_cons_succ])
            refine wpAnyH_ready (rs := [5]) (by kernel_rfl) (by simp) ?qa3xc5
            refine AllReadyH.cons (o := ⟨some 38, _, _, _, _, _⟩) rfl (fun K hK => ?qa3xst5) AllReadyH.nil
            (rw [if_pos (by rfl)]; refine wp_kn_lit KN 22 3 1 _ rfl 38 rfl Try.underlying22 #[.int .i64 n] (by kernel_rfl) ?_; clear KN; intro g38 wx hg38 KN)
            refine hK.out _ _ ?qa3xk5 (fun hHeld2 => ?qa3xm5)
            case qa3xk5 => trivial
            clear hK K hHeld
            have hHeld := hHeld2; clear hHeld2
            (try simp only [Act.put, List.setIfInBounds_toArray, List.set_cons_zero, List.set_cons_succ])
            refine wpAnyH_ready (rs := [6]) (by kernel_rfl) (by simp) ?qa3xc6
            refine AllReadyH.cons (o := ⟨some 39, _, _, _, _, _⟩) rfl (fun K hK => ?qa3xst6) AllReadyH.nil
            (rw [if_pos (by rfl)]; refine wp_kn_append1 KN HO36.out _ _ 22 rfl 8 Try.underlying22 (by kernel_rfl) (by decide) rfl 1 rfl rfl (by kernel_rfl) (by rw [List.length_append, List.length_map, List.length_take]; unfold maxLen; simp; omega) (by rw [List.length_append, List.length_map, List.length_take]; simp; omega) (f := fun o => o) .id rfl ?_; clear KN; intro v39 wx ol39 OW39 KN; have HO39 := Lib.hid OW39; clear OW39)
            refine hK.out _ _ ?qa3xk6 (fun hHeld2 => ?qa3xm6)
            case qa3xk6 => trivial
            clear hK K hHeld
            have hHeld := hHeld2; clear hHeld2
            (try simp only [Act.put, List.setIfInBounds_toArray, List.set_cons_zero, List.set_cons_succ])
            refine wpAnyH_ready (rs := [10]) (by kernel_rfl) (by simp) ?qa3xc10
            refine AllReadyH.cons (o := ⟨some 43, _, _, _, _, _⟩) rfl (fun K hK => ?qa3xst10) AllReadyH.nil
            (rw [if_pos (by rfl)]; refine wp_kn_appendR (f := fun o => o) KN HO39.out _ _ 22 rfl 8 Try.underlying22 int_info (by decide) rfl (sliced (some ⟨g, off, none⟩) k m c 1) rfl _ (HDR.out.below KN.toBelow) (intRows_len _) (intRows_one _) (by rw [List.length_append, List.length_append, List.length_map, List.length_map, List.length_take, List.length_drop, ← HM.out]; unfold maxLen; simp; omega) (by rw [List.length_append, List.length_append, List.length_map, List.length_map, List.length_take, List.length_drop, ← HM.out]; simp; omega) .id rfl ?_; clear KN; intro v43 wx ol43 OW43 KN)
            refine hK.out _ _ ?qa3xk10 (fun hHeld2 => ?qa3xm10)
            case qa3xk10 => trivial
            clear hK K hHeld
            have hHeld := hHeld2; clear hHeld2
            (try simp only [Act.put, List.setIfInBounds_toArray, List.set_cons_zero, List.set_cons_succ])
            refine wpAnyH_take (i := 11) (oi := ⟨some 4, _, _, _, _, _⟩) (v := ?qa3xv11) rfl (by kernel_rfl) (by kernel_rfl) (by kernel_rfl) (fun _ _ _ h => h) (Or.inl ⟨by rfl, ?qa3xhy11⟩) hHeld ?qa3xr11
            case qa3xhy11 => (intro w hSw; (try dsimp only at hSw); go_simp; (try with_reducible rfl))
            (try simp only [Act.put, List.setIfInBounds_toArray, List.set_cons_zero, List.set_cons_succ])
            refine wpAnyH_done (by kernel_rfl) ?qa3xdone _
            go_wp2_with fail
            go_ret
            exact HPOST.out _ _ (.inr ⟨_, _, ol43, rfl, HP.out.1, HP.out.2, by rw [List.length_append, List.length_append, List.length_take, List.length_drop, ← HM.out]; simp <;> omega, by simpa [intRows, List.map_append, List.map_take, List.map_drop] using OW43, KN⟩)
          case qast5 =>
            (rw [if_pos (by rfl)]; refine wp_kn_lit KN 22 3 1 _ rfl 38 rfl Try.underlying22 #[.int .i64 n] (by kernel_rfl) ?_; clear KN; intro g38 wx hg38 KN)
            refine hK.out _ _ ?qa5xk5 (fun hHeld2 => ?qa5xm5)
            case qa5xk5 => trivial
            clear hK K hHeld
            have hHeld := hHeld2; clear hHeld2
            (try simp only [Act.put, List.setIfInBounds_toArray, List.set_cons_zero, List.set_cons_succ])
            refine wpAnyH_ready (rs := [3]) (by kernel_rfl) (by simp) ?qa5xc3
            refine AllReadyH.cons (o := ⟨some 36, _, _, _, _, _⟩) rfl (fun K hK => ?qa5xst3) AllReadyH.nil
            (rw [if_pos (by rfl)]; first | (refine wp_kn_appendR (f := fun o => o) KN .nil _ _ 22 rfl 8 Try.underlying22 int_info (by decide) rfl (.slice (some ⟨g, off, none⟩) k c) rfl _ (HTK.out.below KN.toBelow) (intRows_len _) (intRows_one _) (by rw [List.length_map, List.length_take]; unfold maxLen; simp; omega) (by rw [List.length_map, List.length_take]; simp; omega) .id rfl ?_; clear KN; intro v36 wx ol36 OW36 KN; have HO36 := Lib.hid OW36; clear OW36) | (refine wp_kn_appendR (f := fun o => (g38, _) :: o) KN .nil _ _ 22 rfl 8 Try.underlying22 int_info (by decide) rfl (.slice (some ⟨g, off, none⟩) k c) rfl _ (HTK.out.below KN.toBelow) (intRows_len _) (intRows_one _) (by rw [List.length_map, List.length_take]; unfold maxLen; simp; omega) (by rw [List.length_map, List.length_take]; simp; omega) (.cons _ .id) rfl ?_; clear KN; intro v36 wx ol36 OW36 KN; have HO36 := Lib.hid OW36; clear OW36))
            refine hK.out _ _ ?qa5xk3 (fun hHeld2 => ?qa5xm3)
            case qa5xk3 => trivial
            clear hK K hHeld
            have hHeld := hHeld2; clear hHeld2
            (try simp only [Act.put, List.setIfInBounds_toArray, List.set_cons_zero, List.set_cons_succ])
            refine wpAnyH_ready (rs := [6]) (by kernel_rfl) (by simp) ?qa5xc6
            refine AllReadyH.cons (o := ⟨some 39, _, _, _, _, _⟩) rfl (fun K hK => ?qa5xst6) AllReadyH.nil
            (rw [if_pos (by rfl)]; refine wp_kn_append1 KN HO36.out _ _ 22 rfl 8 Try.underlying22 (by kernel_rfl) (by decide) rfl 1 rfl rfl (by kernel_rfl) (by rw [List.length_append, List.length_map, List.length_take]; unfold maxLen; simp; omega) (by rw [List.length_append, List.length_map, List.length_take]; simp; omega) (f := fun o => o) .id rfl ?_; clear KN; intro v39 wx ol39 OW39 KN; have HO39 := Lib.hid OW39; clear OW39)
            refine hK.out _ _ ?qa5xk6 (fun hHeld2 => ?qa5xm6)
            case qa5xk6 => trivial
            clear hK K hHeld
            have hHeld := hHeld2; clear hHeld2
            (try simp only [Act.put, List.setIfInBounds_toArray, List.set_cons_zero, List.set_cons_succ])
            refine wpAnyH_ready (rs := [10]) (by kernel_rfl) (by simp) ?qa5xc10
            refine AllReadyH.cons (o := ⟨some 43, _, _, _, _, _⟩) rfl (fun K hK => ?qa5xst10) AllReadyH.nil
            (rw [if_pos (by rfl)]; refine wp_kn_appendR (f := fun o => o) KN HO39.out _ _ 22 rfl 8 Try.underlying22 int_info (by decide) rfl (sliced (some ⟨g, off, none⟩) k m c 1) rfl _ (HDR.out.below KN.toBelow) (intRows_len _) (intRows_one _) (by rw [List.length_append, List.length_append, List.length_map, List.length_map, List.length_take, List.length_drop, ← HM.out]; unfold maxLen; simp; omega) (by rw [List.length_append, List.length_append, List.length_map, List.length_map, List.length_take, List.length_drop, ← HM.out]; simp; omega) .id rfl ?_; clear KN; intro v43 wx ol43 OW43 KN)
            refine hK.out _ _ ?qa5xk10 (fun hHeld2 => ?qa5xm10)
            case qa5xk10 => trivial
            clear hK K hHeld
            have hHeld := hHeld2; clear hHeld2
            (try simp only [Act.put, List.setIfInBounds_toArray, List.set_cons_zero, List.set_cons_succ])
            refine wpAnyH_take (i := 11) (oi := ⟨some 4, _, _, _, _, _⟩) (v := ?qa5xv11) rfl (by kernel_rfl) (by kernel_rfl) (by kernel_rfl) (fun _ _ _ h => h) (Or.inl ⟨by rfl, ?qa5xhy11⟩) hHeld ?qa5xr11
            case qa5xhy11 => (intro w hSw; (try dsimp only at hSw); go_simp; (try with_reducible rfl))
            (try simp only [Act.put, List.setIfInBounds_toArray, List.set_cons_zero, List.set_cons_succ])
            refine wpAnyH_done (by kernel_rfl) ?qa5xdone _
            go_wp2_with fail
            go_ret
            exact HPOST.out _ _ (.inr ⟨_, _, ol43, rfl, HP.out.1, HP.out.2, by rw [List.length_append, List.length_append, List.length_take, List.length_drop, ← HM.out]; simp <;> omega, by simpa [intRows, List.map_append, List.map_take, List.map_drop] using OW43, KN⟩)
    · obtain rfl : k = m := by omega
      have HP := Lib.hid (asc_put (k := k) HS.out HALL.out (by rw [List.drop_eq_nil_of_le (by rw [← HM.out]; exact Nat.le_refl _)]; simp))
      go_upto_region 6 with fail
      (try go_frame)
      by_cases hck : c = k
      · subst hck
        have KN := (Kn.start w).drew
        refine wp_region_held_drew (S := (fun _ => True)) (by kernel_rfl) ?qchS (fun hHeld => ?qcrest)
        case qchS => trivial
        refine wpAnyH_take (i := 0) (oi := ⟨some 33, _, _, _, _, _⟩) (v := ?qcv0) rfl (by kernel_rfl) (by kernel_rfl) (by kernel_rfl) (fun _ _ _ h => h) (Or.inl ⟨by rfl, ?qchy0⟩) hHeld ?qcr0
        case qchy0 => (intro w hSw; (try dsimp only at hSw); go_simp; (try with_reducible rfl))
        (try simp only [Act.put, List.setIfInBounds_toArray, List.set_cons_zero, List.set_cons_succ])
        refine wpAnyH_take (i := 1) (oi := ⟨some 34, _, _, _, _, _⟩) (v := ?qcv1) rfl (by kernel_rfl) (by kernel_rfl) (by kernel_rfl) (fun _ _ _ h => h) (Or.inl ⟨by rfl, ?qchy1⟩) hHeld ?qcr1
        case qchy1 => (intro w hSw; (try dsimp only at hSw); go_simp; (try with_reducible rfl))
        (try simp only [Act.put, List.setIfInBounds_toArray, List.set_cons_zero, List.set_cons_succ])
        refine wpAnyH_take (i := 2) (oi := ⟨some 35, _, _, _, _, _⟩) (v := (.slice a c c)) rfl (by kernel_rfl) (by kernel_rfl) (by kernel_rfl) (fun _ _ _ h => h) (Or.inl ⟨by rfl, ?qchy2⟩) hHeld ?qcr2
        case qchy2 => (intro w hSw; (try dsimp only at hSw); go_simp; (try rfl))
        (try simp only [Act.put, List.setIfInBounds_toArray, List.set_cons_zero, List.set_cons_succ])
        refine wpAnyH_take (i := 4) (oi := ⟨some 37, _, _, _, _, _⟩) (v := ?qcv4) rfl (by kernel_rfl) (by kernel_rfl) (by kernel_rfl) (fun _ _ _ h => h) (Or.inl ⟨by rfl, ?qchy4⟩) hHeld ?qcr4
        case qchy4 => (intro w hSw; (try dsimp only at hSw); go_simp; (try with_reducible rfl))
        (try simp only [Act.put, List.setIfInBounds_toArray, List.set_cons_zero, List.set_cons_succ])
        refine wpAnyH_take (i := 7) (oi := ⟨some 40, _, _, _, _, _⟩) (v := ?qcv7) rfl (by kernel_rfl) (by kernel_rfl) (by kernel_rfl) (fun _ _ _ h => h) (Or.inl ⟨by rfl, ?qchy7⟩) hHeld ?qcr7
        case qchy7 => (intro w hSw; (try dsimp only at hSw); go_simp; (try with_reducible rfl))
        (try simp only [Act.put, List.setIfInBounds_toArray, List.set_cons_zero, List.set_cons_succ])
        refine wpAnyH_take (i := 8) (oi := ⟨some 41, _, _, _, _, _⟩) (v := ?qcv8) rfl (by kernel_rfl) (by kernel_rfl) (by kernel_rfl) (fun _ _ _ h => h) (Or.inl ⟨by rfl, ?qchy8⟩) hHeld ?qcr8
        case qchy8 => (intro w hSw; (try dsimp only at hSw); go_simp; (try with_reducible rfl))
        (try simp only [Act.put, List.setIfInBounds_toArray, List.set_cons_zero, List.set_cons_succ])
        refine wpAnyH_take (i := 9) (oi := ⟨some 42, _, _, _, _, _⟩) (v := (sliced a c c c 1)) rfl (by kernel_rfl) (by kernel_rfl) (by kernel_rfl) (fun _ _ _ h => h) (Or.inl ⟨by rfl, ?qchy9⟩) hHeld ?qcr9
        case qchy9 => (intro w hSw; (try dsimp only at hSw); go_simp; (try rfl))
        (try simp only [Act.put, List.setIfInBounds_toArray, List.set_cons_zero, List.set_cons_succ])
        refine wpAnyH_ready (rs := [3, 5]) (by kernel_rfl) (by simp) ?qcc3_5
        refine (AllReadyH.cons (o := ⟨some 36, _, _, _, _, _⟩) rfl (fun K hK => ?qcst3) (AllReadyH.cons (o := ⟨some 38, _, _, _, _, _⟩) rfl (fun K hK => ?qcst5) AllReadyH.nil))
        case qcst3 =>
          (rw [if_pos (by rfl)]; first | (refine wp_kn_appendR (f := fun o => o) KN .nil _ _ 22 rfl 8 Try.underlying22 int_info (by decide) rfl (.slice a c c) rfl _ (HTK.out.below KN.toBelow) (intRows_len _) (intRows_one _) (by rw [List.length_map, List.length_take]; unfold maxLen; simp; omega) (by rw [List.length_map, List.length_take]; simp; omega) .id rfl ?_; clear KN; intro v36 wx ol36 OW36 KN; have HO36 := Lib.hid OW36; clear OW36) | (refine wp_kn_appendR (f := fun o => (g38, _) :: o) KN .nil _ _ 22 rfl 8 Try.underlying22 int_info (by decide) rfl (.slice a c c) rfl _ (HTK.out.below KN.toBelow) (intRows_len _) (intRows_one _) (by rw [List.length_map, List.length_take]; unfold maxLen; simp; omega) (by rw [List.length_map, List.length_take]; simp; omega) (.cons _ .id) rfl ?_; clear KN; intro v36 wx ol36 OW36 KN; have HO36 := Lib.hid OW36; clear OW36))
          refine hK.out _ _ ?qc3xk3 (fun hHeld2 => ?qc3xm3)
          case qc3xk3 => trivial
          clear hK K hHeld
          have hHeld := hHeld2; clear hHeld2
          (try simp only [Act.put, List.setIfInBounds_toArray, List.set_cons_zero, List.set_cons_succ])
          refine wpAnyH_ready (rs := [5]) (by kernel_rfl) (by simp) ?qc3xc5
          refine AllReadyH.cons (o := ⟨some 38, _, _, _, _, _⟩) rfl (fun K hK => ?qc3xst5) AllReadyH.nil
          (rw [if_pos (by rfl)]; refine wp_kn_lit KN 22 3 1 _ rfl 38 rfl Try.underlying22 #[.int .i64 n] (by kernel_rfl) ?_; clear KN; intro g38 wx hg38 KN)
          refine hK.out _ _ ?qc3xk5 (fun hHeld2 => ?qc3xm5)
          case qc3xk5 => trivial
          clear hK K hHeld
          have hHeld := hHeld2; clear hHeld2
          (try simp only [Act.put, List.setIfInBounds_toArray, List.set_cons_zero, List.set_cons_succ])
          refine wpAnyH_ready (rs := [6]) (by kernel_rfl) (by simp) ?qc3xc6
          refine AllReadyH.cons (o := ⟨some 39, _, _, _, _, _⟩) rfl (fun K hK => ?qc3xst6) AllReadyH.nil
          (rw [if_pos (by rfl)]; refine wp_kn_append1 KN HO36.out _ _ 22 rfl 8 Try.underlying22 (by kernel_rfl) (by decide) rfl 1 rfl rfl (by kernel_rfl) (by rw [List.length_append, List.length_map, List.length_take]; unfold maxLen; simp; omega) (by rw [List.length_append, List.length_map, List.length_take]; simp; omega) (f := fun o => o) .id rfl ?_; clear KN; intro v39 wx ol39 OW39 KN; have HO39 := Lib.hid OW39; clear OW39)
          refine hK.out _ _ ?qc3xk6 (fun hHeld2 => ?qc3xm6)
          case qc3xk6 => trivial
          clear hK K hHeld
          have hHeld := hHeld2; clear hHeld2
          (try simp only [Act.put, List.setIfInBounds_toArray, List.set_cons_zero, List.set_cons_succ])
          refine wpAnyH_ready (rs := [10]) (by kernel_rfl) (by simp) ?qc3xc10
          refine AllReadyH.cons (o := ⟨some 43, _, _, _, _, _⟩) rfl (fun K hK => ?qc3xst10) AllReadyH.nil
          (rw [if_pos (by rfl)]; refine wp_kn_appendR (f := fun o => o) KN HO39.out _ _ 22 rfl 8 Try.underlying22 int_info (by decide) rfl (sliced a c c c 1) rfl _ (HDR.out.below KN.toBelow) (intRows_len _) (intRows_one _) (by rw [List.length_append, List.length_append, List.length_map, List.length_map, List.length_take, List.length_drop, ← HM.out]; unfold maxLen; simp; omega) (by rw [List.length_append, List.length_append, List.length_map, List.length_map, List.length_take, List.length_drop, ← HM.out]; simp; omega) .id rfl ?_; clear KN; intro v43 wx ol43 OW43 KN)
          refine hK.out _ _ ?qc3xk10 (fun hHeld2 => ?qc3xm10)
          case qc3xk10 => trivial
          clear hK K hHeld
          have hHeld := hHeld2; clear hHeld2
          (try simp only [Act.put, List.setIfInBounds_toArray, List.set_cons_zero, List.set_cons_succ])
          refine wpAnyH_take (i := 11) (oi := ⟨some 4, _, _, _, _, _⟩) (v := ?qc3xv11) rfl (by kernel_rfl) (by kernel_rfl) (by kernel_rfl) (fun _ _ _ h => h) (Or.inl ⟨by rfl, ?qc3xhy11⟩) hHeld ?qc3xr11
          case qc3xhy11 => (intro w hSw; (try dsimp only at hSw); go_simp; (try with_reducible rfl))
          (try simp only [Act.put, List.setIfInBounds_toArray, List.set_cons_zero, List.set_cons_succ])
          refine wpAnyH_done (by kernel_rfl) ?qc3xdone _
          go_wp2_with fail
          go_ret
          exact HPOST.out _ _ (.inr ⟨_, _, ol43, rfl, HP.out.1, HP.out.2, by rw [List.length_append, List.length_append, List.length_take, List.length_drop, ← HM.out]; simp <;> omega, by simpa [intRows, List.map_append, List.map_take, List.map_drop] using OW43, KN⟩)
        case qcst5 =>
          (rw [if_pos (by rfl)]; refine wp_kn_lit KN 22 3 1 _ rfl 38 rfl Try.underlying22 #[.int .i64 n] (by kernel_rfl) ?_; clear KN; intro g38 wx hg38 KN)
          refine hK.out _ _ ?qc5xk5 (fun hHeld2 => ?qc5xm5)
          case qc5xk5 => trivial
          clear hK K hHeld
          have hHeld := hHeld2; clear hHeld2
          (try simp only [Act.put, List.setIfInBounds_toArray, List.set_cons_zero, List.set_cons_succ])
          refine wpAnyH_ready (rs := [3]) (by kernel_rfl) (by simp) ?qc5xc3
          refine AllReadyH.cons (o := ⟨some 36, _, _, _, _, _⟩) rfl (fun K hK => ?qc5xst3) AllReadyH.nil
          (rw [if_pos (by rfl)]; first | (refine wp_kn_appendR (f := fun o => o) KN .nil _ _ 22 rfl 8 Try.underlying22 int_info (by decide) rfl (.slice a c c) rfl _ (HTK.out.below KN.toBelow) (intRows_len _) (intRows_one _) (by rw [List.length_map, List.length_take]; unfold maxLen; simp; omega) (by rw [List.length_map, List.length_take]; simp; omega) .id rfl ?_; clear KN; intro v36 wx ol36 OW36 KN; have HO36 := Lib.hid OW36; clear OW36) | (refine wp_kn_appendR (f := fun o => (g38, _) :: o) KN .nil _ _ 22 rfl 8 Try.underlying22 int_info (by decide) rfl (.slice a c c) rfl _ (HTK.out.below KN.toBelow) (intRows_len _) (intRows_one _) (by rw [List.length_map, List.length_take]; unfold maxLen; simp; omega) (by rw [List.length_map, List.length_take]; simp; omega) (.cons _ .id) rfl ?_; clear KN; intro v36 wx ol36 OW36 KN; have HO36 := Lib.hid OW36; clear OW36))
          refine hK.out _ _ ?qc5xk3 (fun hHeld2 => ?qc5xm3)
          case qc5xk3 => trivial
          clear hK K hHeld
          have hHeld := hHeld2; clear hHeld2
          (try simp only [Act.put, List.setIfInBounds_toArray, List.set_cons_zero, List.set_cons_succ])
          refine wpAnyH_ready (rs := [6]) (by kernel_rfl) (by simp) ?qc5xc6
          refine AllReadyH.cons (o := ⟨some 39, _, _, _, _, _⟩) rfl (fun K hK => ?qc5xst6) AllReadyH.nil
          (rw [if_pos (by rfl)]; refine wp_kn_append1 KN HO36.out _ _ 22 rfl 8 Try.underlying22 (by kernel_rfl) (by decide) rfl 1 rfl rfl (by kernel_rfl) (by rw [List.length_append, List.length_map, List.length_take]; unfold maxLen; simp; omega) (by rw [List.length_append, List.length_map, List.length_take]; simp; omega) (f := fun o => o) .id rfl ?_; clear KN; intro v39 wx ol39 OW39 KN; have HO39 := Lib.hid OW39; clear OW39)
          refine hK.out _ _ ?qc5xk6 (fun hHeld2 => ?qc5xm6)
          case qc5xk6 => trivial
          clear hK K hHeld
          have hHeld := hHeld2; clear hHeld2
          (try simp only [Act.put, List.setIfInBounds_toArray, List.set_cons_zero, List.set_cons_succ])
          refine wpAnyH_ready (rs := [10]) (by kernel_rfl) (by simp) ?qc5xc10
          refine AllReadyH.cons (o := ⟨some 43, _, _, _, _, _⟩) rfl (fun K hK => ?qc5xst10) AllReadyH.nil
          (rw [if_pos (by rfl)]; refine wp_kn_appendR (f := fun o => o) KN HO39.out _ _ 22 rfl 8 Try.underlying22 int_info (by decide) rfl (sliced a c c c 1) rfl _ (HDR.out.below KN.toBelow) (intRows_len _) (intRows_one _) (by rw [List.length_append, List.length_append, List.length_map, List.length_map, List.length_take, List.length_drop, ← HM.out]; unfold maxLen; simp; omega) (by rw [List.length_append, List.length_append, List.length_map, List.length_map, List.length_take, List.length_drop, ← HM.out]; simp; omega) .id rfl ?_; clear KN; intro v43 wx ol43 OW43 KN)
          refine hK.out _ _ ?qc5xk10 (fun hHeld2 => ?qc5xm10)
          case qc5xk10 => trivial
          clear hK K hHeld
          have hHeld := hHeld2; clear hHeld2
          (try simp only [Act.put, List.setIfInBounds_toArray, List.set_cons_zero, List.set_cons_succ])
          refine wpAnyH_take (i := 11) (oi := ⟨some 4, _, _, _, _, _⟩) (v := ?qc5xv11) rfl (by kernel_rfl) (by kernel_rfl) (by kernel_rfl) (fun _ _ _ h => h) (Or.inl ⟨by rfl, ?qc5xhy11⟩) hHeld ?qc5xr11
          case qc5xhy11 => (intro w hSw; (try dsimp only at hSw); go_simp; (try with_reducible rfl))
          (try simp only [Act.put, List.setIfInBounds_toArray, List.set_cons_zero, List.set_cons_succ])
          refine wpAnyH_done (by kernel_rfl) ?qc5xdone _
          go_wp2_with fail
          go_ret
          exact HPOST.out _ _ (.inr ⟨_, _, ol43, rfl, HP.out.1, HP.out.2, by rw [List.length_append, List.length_append, List.length_take, List.length_drop, ← HM.out]; simp <;> omega, by simpa [intRows, List.map_append, List.map_take, List.map_drop] using OW43, KN⟩)
      · have hck2 : ¬ k = c := fun q => hck q.symm
        have KN := (Kn.start w).drew
        refine wp_region_held_drew (S := (fun _ => True)) (by kernel_rfl) ?qbhS (fun hHeld => ?qbrest)
        case qbhS => trivial
        refine wpAnyH_take (i := 0) (oi := ⟨some 33, _, _, _, _, _⟩) (v := ?qbv0) rfl (by kernel_rfl) (by kernel_rfl) (by kernel_rfl) (fun _ _ _ h => h) (Or.inl ⟨by rfl, ?qbhy0⟩) hHeld ?qbr0
        case qbhy0 => (intro w hSw; (try dsimp only at hSw); go_simp; (try with_reducible rfl))
        (try simp only [Act.put, List.setIfInBounds_toArray, List.set_cons_zero, List.set_cons_succ])
        refine wpAnyH_take (i := 1) (oi := ⟨some 34, _, _, _, _, _⟩) (v := ?qbv1) rfl (by kernel_rfl) (by kernel_rfl) (by kernel_rfl) (fun _ _ _ h => h) (Or.inl ⟨by rfl, ?qbhy1⟩) hHeld ?qbr1
        case qbhy1 => (intro w hSw; (try dsimp only at hSw); go_simp; (try with_reducible rfl))
        (try simp only [Act.put, List.setIfInBounds_toArray, List.set_cons_zero, List.set_cons_succ])
        refine wpAnyH_take (i := 2) (oi := ⟨some 35, _, _, _, _, _⟩) (v := (.slice a k c)) rfl (by kernel_rfl) (by kernel_rfl) (by kernel_rfl) (fun _ _ _ h => h) (Or.inl ⟨by rfl, ?qbhy2⟩) hHeld ?qbr2
        case qbhy2 => (intro w hSw; (try dsimp only at hSw); go_simp; (try rfl))
        (try simp only [Act.put, List.setIfInBounds_toArray, List.set_cons_zero, List.set_cons_succ])
        refine wpAnyH_take (i := 4) (oi := ⟨some 37, _, _, _, _, _⟩) (v := ?qbv4) rfl (by kernel_rfl) (by kernel_rfl) (by kernel_rfl) (fun _ _ _ h => h) (Or.inl ⟨by rfl, ?qbhy4⟩) hHeld ?qbr4
        case qbhy4 => (intro w hSw; (try dsimp only at hSw); go_simp; (try with_reducible rfl))
        (try simp only [Act.put, List.setIfInBounds_toArray, List.set_cons_zero, List.set_cons_succ])
        refine wpAnyH_take (i := 7) (oi := ⟨some 40, _, _, _, _, _⟩) (v := ?qbv7) rfl (by kernel_rfl) (by kernel_rfl) (by kernel_rfl) (fun _ _ _ h => h) (Or.inl ⟨by rfl, ?qbhy7⟩) hHeld ?qbr7
        case qbhy7 => (intro w hSw; (try dsimp only at hSw); go_simp; (try with_reducible rfl))
        (try simp only [Act.put, List.setIfInBounds_toArray, List.set_cons_zero, List.set_cons_succ])
        refine wpAnyH_take (i := 8) (oi := ⟨some 41, _, _, _, _, _⟩) (v := ?qbv8) rfl (by kernel_rfl) (by kernel_rfl) (by kernel_rfl) (fun _ _ _ h => h) (Or.inl ⟨by rfl, ?qbhy8⟩) hHeld ?qbr8
        case qbhy8 => (intro w hSw; (try dsimp only at hSw); go_simp; (try with_reducible rfl))
        (try simp only [Act.put, List.setIfInBounds_toArray, List.set_cons_zero, List.set_cons_succ])
        refine wpAnyH_take (i := 9) (oi := ⟨some 42, _, _, _, _, _⟩) (v := (sliced a k k c 1)) rfl (by kernel_rfl) (by kernel_rfl) (by kernel_rfl) (fun _ _ _ h => h) (Or.inl ⟨by rfl, ?qbhy9⟩) hHeld ?qbr9
        case qbhy9 => (intro w hSw; (try dsimp only at hSw); go_simp; (try rfl))
        (try simp only [Act.put, List.setIfInBounds_toArray, List.set_cons_zero, List.set_cons_succ])
        refine wpAnyH_ready (rs := [3, 5]) (by kernel_rfl) (by simp) ?qbc3_5
        refine (AllReadyH.cons (o := ⟨some 36, _, _, _, _, _⟩) rfl (fun K hK => ?qbst3) (AllReadyH.cons (o := ⟨some 38, _, _, _, _, _⟩) rfl (fun K hK => ?qbst5) AllReadyH.nil))
        case qbst3 =>
          (rw [if_pos (by rfl)]; first | (refine wp_kn_appendR (f := fun o => o) KN .nil _ _ 22 rfl 8 Try.underlying22 int_info (by decide) rfl (.slice a k c) rfl _ (HTK.out.below KN.toBelow) (intRows_len _) (intRows_one _) (by rw [List.length_map, List.length_take]; unfold maxLen; simp; omega) (by rw [List.length_map, List.length_take]; simp; omega) .id rfl ?_; clear KN; intro v36 wx ol36 OW36 KN; have HO36 := Lib.hid OW36; clear OW36) | (refine wp_kn_appendR (f := fun o => (g38, _) :: o) KN .nil _ _ 22 rfl 8 Try.underlying22 int_info (by decide) rfl (.slice a k c) rfl _ (HTK.out.below KN.toBelow) (intRows_len _) (intRows_one _) (by rw [List.length_map, List.length_take]; unfold maxLen; simp; omega) (by rw [List.length_map, List.length_take]; simp; omega) (.cons _ .id) rfl ?_; clear KN; intro v36 wx ol36 OW36 KN; have HO36 := Lib.hid OW36; clear OW36))
          refine hK.out _ _ ?qb3xk3 (fun hHeld2 => ?qb3xm3)
          case qb3xk3 => trivial
          clear hK K hHeld
          have hHeld := hHeld2; clear hHeld2
          (try simp only [Act.put, List.setIfInBounds_toArray, List.set_cons_zero, List.set_cons_succ])
          refine wpAnyH_ready (rs := [5]) (by kernel_rfl) (by simp) ?qb3xc5
          refine AllReadyH.cons (o := ⟨some 38, _, _, _, _, _⟩) rfl (fun K hK => ?qb3xst5) AllReadyH.nil
          (rw [if_pos (by rfl)]; refine wp_kn_lit KN 22 3 1 _ rfl 38 rfl Try.underlying22 #[.int .i64 n] (by kernel_rfl) ?_; clear KN; intro g38 wx hg38 KN)
          refine hK.out _ _ ?qb3xk5 (fun hHeld2 => ?qb3xm5)
          case qb3xk5 => trivial
          clear hK K hHeld
          have hHeld := hHeld2; clear hHeld2
          (try simp only [Act.put, List.setIfInBounds_toArray, List.set_cons_zero, List.set_cons_succ])
          refine wpAnyH_ready (rs := [6]) (by kernel_rfl) (by simp) ?qb3xc6
          refine AllReadyH.cons (o := ⟨some 39, _, _, _, _, _⟩) rfl (fun K hK => ?qb3xst6) AllReadyH.nil
          (rw [if_pos (by rfl)]; refine wp_kn_append1 KN HO36.out _ _ 22 rfl 8 Try.underlying22 (by kernel_rfl) (by decide) rfl 1 rfl rfl (by kernel_rfl) (by rw [List.length_append, List.length_map, List.length_take]; unfold maxLen; simp; omega) (by rw [List.length_append, List.length_map, List.length_take]; simp; omega) (f := fun o => o) .id rfl ?_; clear KN; intro v39 wx ol39 OW39 KN; have HO39 := Lib.hid OW39; clear OW39)
          refine hK.out _ _ ?qb3xk6 (fun hHeld2 => ?qb3xm6)
          case qb3xk6 => trivial
          clear hK K hHeld
          have hHeld := hHeld2; clear hHeld2
          (try simp only [Act.put, List.setIfInBounds_toArray, List.set_cons_zero, List.set_cons_succ])
          refine wpAnyH_ready (rs := [10]) (by kernel_rfl) (by simp) ?qb3xc10
          refine AllReadyH.cons (o := ⟨some 43, _, _, _, _, _⟩) rfl (fun K hK => ?qb3xst10) AllReadyH.nil
          (rw [if_pos (by rfl)]; refine wp_kn_appendR (f := fun o => o) KN HO39.out _ _ 22 rfl 8 Try.underlying22 int_info (by decide) rfl (sliced a k k c 1) rfl _ (HDR.out.below KN.toBelow) (intRows_len _) (intRows_one _) (by rw [List.length_append, List.length_append, List.length_map, List.length_map, List.length_take, List.length_drop, ← HM.out]; unfold maxLen; simp; omega) (by rw [List.length_append, List.length_append, List.length_map, List.length_map, List.length_take, List.length_drop, ← HM.out]; simp; omega) .id rfl ?_; clear KN; intro v43 wx ol43 OW43 KN)
          refine hK.out _ _ ?qb3xk10 (fun hHeld2 => ?qb3xm10)
          case qb3xk10 => trivial
          clear hK K hHeld
          have hHeld := hHeld2; clear hHeld2
          (try simp only [Act.put, List.setIfInBounds_toArray, List.set_cons_zero, List.set_cons_succ])
          refine wpAnyH_take (i := 11) (oi := ⟨some 4, _, _, _, _, _⟩) (v := ?qb3xv11) rfl (by kernel_rfl) (by kernel_rfl) (by kernel_rfl) (fun _ _ _ h => h) (Or.inl ⟨by rfl, ?qb3xhy11⟩) hHeld ?qb3xr11
          case qb3xhy11 => (intro w hSw; (try dsimp only at hSw); go_simp; (try with_reducible rfl))
          (try simp only [Act.put, List.setIfInBounds_toArray, List.set_cons_zero, List.set_cons_succ])
          refine wpAnyH_done (by kernel_rfl) ?qb3xdone _
          go_wp2_with fail
          go_ret
          exact HPOST.out _ _ (.inr ⟨_, _, ol43, rfl, HP.out.1, HP.out.2, by rw [List.length_append, List.length_append, List.length_take, List.length_drop, ← HM.out]; simp <;> omega, by simpa [intRows, List.map_append, List.map_take, List.map_drop] using OW43, KN⟩)
        case qbst5 =>
          (rw [if_pos (by rfl)]; refine wp_kn_lit KN 22 3 1 _ rfl 38 rfl Try.underlying22 #[.int .i64 n] (by kernel_rfl) ?_; clear KN; intro g38 wx hg38 KN)
          refine hK.out _ _ ?qb5xk5 (fun hHeld2 => ?qb5xm5)
          case qb5xk5 => trivial
          clear hK K hHeld
          have hHeld := hHeld2; clear hHeld2
          (try simp only [Act.put, List.setIfInBounds_toArray, List.set_cons_zero, List.set_cons_succ])
          refine wpAnyH_ready (rs := [3]) (by kernel_rfl) (by simp) ?qb5xc3
          refine AllReadyH.cons (o := ⟨some 36, _, _, _, _, _⟩) rfl (fun K hK => ?qb5xst3) AllReadyH.nil
          (rw [if_pos (by rfl)]; first | (refine wp_kn_appendR (f := fun o => o) KN .nil _ _ 22 rfl 8 Try.underlying22 int_info (by decide) rfl (.slice a k c) rfl _ (HTK.out.below KN.toBelow) (intRows_len _) (intRows_one _) (by rw [List.length_map, List.length_take]; unfold maxLen; simp; omega) (by rw [List.length_map, List.length_take]; simp; omega) .id rfl ?_; clear KN; intro v36 wx ol36 OW36 KN; have HO36 := Lib.hid OW36; clear OW36) | (refine wp_kn_appendR (f := fun o => (g38, _) :: o) KN .nil _ _ 22 rfl 8 Try.underlying22 int_info (by decide) rfl (.slice a k c) rfl _ (HTK.out.below KN.toBelow) (intRows_len _) (intRows_one _) (by rw [List.length_map, List.length_take]; unfold maxLen; simp; omega) (by rw [List.length_map, List.length_take]; simp; omega) (.cons _ .id) rfl ?_; clear KN; intro v36 wx ol36 OW36 KN; have HO36 := Lib.hid OW36; clear OW36))
          refine hK.out _ _ ?qb5xk3 (fun hHeld2 => ?qb5xm3)
          case qb5xk3 => trivial
          clear hK K hHeld
          have hHeld := hHeld2; clear hHeld2
          (try simp only [Act.put, List.setIfInBounds_toArray, List.set_cons_zero, List.set_cons_succ])
          refine wpAnyH_ready (rs := [6]) (by kernel_rfl) (by simp) ?qb5xc6
          refine AllReadyH.cons (o := ⟨some 39, _, _, _, _, _⟩) rfl (fun K hK => ?qb5xst6) AllReadyH.nil
          (rw [if_pos (by rfl)]; refine wp_kn_append1 KN HO36.out _ _ 22 rfl 8 Try.underlying22 (by kernel_rfl) (by decide) rfl 1 rfl rfl (by kernel_rfl) (by rw [List.length_append, List.length_map, List.length_take]; unfold maxLen; simp; omega) (by rw [List.length_append, List.length_map, List.length_take]; simp; omega) (f := fun o => o) .id rfl ?_; clear KN; intro v39 wx ol39 OW39 KN; have HO39 := Lib.hid OW39; clear OW39)
          refine hK.out _ _ ?qb5xk6 (fun hHeld2 => ?qb5xm6)
          case qb5xk6 => trivial
          clear hK K hHeld
          have hHeld := hHeld2; clear hHeld2
          (try simp only [Act.put, List.setIfInBounds_toArray, List.set_cons_zero, List.set_cons_succ])
          refine wpAnyH_ready (rs := [10]) (by kernel_rfl) (by simp) ?qb5xc10
          refine AllReadyH.cons (o := ⟨some 43, _, _, _, _, _⟩) rfl (fun K hK => ?qb5xst10) AllReadyH.nil
          (rw [if_pos (by rfl)]; refine wp_kn_appendR (f := fun o => o) KN HO39.out _ _ 22 rfl 8 Try.underlying22 int_info (by decide) rfl (sliced a k k c 1) rfl _ (HDR.out.below KN.toBelow) (intRows_len _) (intRows_one _) (by rw [List.length_append, List.length_append, List.length_map, List.length_map, List.length_take, List.length_drop, ← HM.out]; unfold maxLen; simp; omega) (by rw [List.length_append, List.length_append, List.length_map, List.length_map, List.length_take, List.length_drop, ← HM.out]; simp; omega) .id rfl ?_; clear KN; intro v43 wx ol43 OW43 KN)
          refine hK.out _ _ ?qb5xk10 (fun hHeld2 => ?qb5xm10)
          case qb5xk10 => trivial
          clear hK K hHeld
          have hHeld := hHeld2; clear hHeld2
          (try simp only [Act.put, List.setIfInBounds_toArray, List.set_cons_zero, List.set_cons_succ])
          refine wpAnyH_take (i := 11) (oi := ⟨some 4, _, _, _, _, _⟩) (v := ?qb5xv11) rfl (by kernel_rfl) (by kernel_rfl) (by kernel_rfl) (fun _ _ _ h => h) (Or.inl ⟨by rfl, ?qb5xhy11⟩) hHeld ?qb5xr11
          case qb5xhy11 => (intro w hSw; (try dsimp only at hSw); go_simp; (try with_reducible rfl))
          (try simp only [Act.put, List.setIfInBounds_toArray, List.set_cons_zero, List.set_cons_succ])
          refine wpAnyH_done (by kernel_rfl) ?qb5xdone _
          go_wp2_with fail
          go_ret
          exact HPOST.out _ _ (.inr ⟨_, _, ol43, rfl, HP.out.1, HP.out.2, by rw [List.length_append, List.length_append, List.length_take, List.length_drop, ← HM.out]; simp <;> omega, by simpa [intRows, List.map_append, List.map_take, List.map_drop] using OW43, KN⟩)
end Go.Proofs.Ytpjejaoobbancaa
