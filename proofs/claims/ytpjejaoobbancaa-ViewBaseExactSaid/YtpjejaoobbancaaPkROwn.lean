/- The reference's owners of a new view. -/
import Derived.Test.YtpjejaoobbancaaPkVNextM
set_option linter.unusedVariables false
set_option linter.unusedSimpArgs false
set_option linter.unusedSectionVars false
namespace Go.Proofs.Ytpjejaoobbancaa
open Go.RowKit Go.BigFrame

def RoM (mem ow : List Int) (mv : List (Int × Int)) (vo : Value) (w : World) (i : Value) (wr : World) : Prop :=
  ∃ (k : Nat) (oo : Ents), i = .int .i64 (k : Int) ∧ k ≤ mv.length ∧ OwnT 3 1 vo (intRows (mvF mem ow (mv.take k))) oo ∧ Kn [] w wr oo
def OwnOut (mem ow0 : List Int) (mvs : List (Int × Int)) (w : World) (e : Ending) (w' : World) : Prop := ∃ (v' : Value) (ol : Ents), e = .returned v' ∧ OwnT 3 1 v' (intRows ((mvF mem ow0 mvs).map (fix1 mem))) ol ∧ Kn [] w w' ol
def RoF (mem ow : List Int) (vo : Value) (w : World) (i : Value) (wr : World) : Prop :=
  ∃ (k : Nat) (oo : Ents), i = .int .i64 (k : Int) ∧ k ≤ ow.length ∧ OwnT 3 1 vo (intRows (fixK mem ow k)) oo ∧ Kn [] w wr oo
set_option maxRecDepth 100000 in
set_option maxHeartbeats 8000000 in
theorem owners_any {w : World} {v mv' mvv : Value} {ow0 mem : List Int} {mvs : List (Int × Int)} (h : Row w v 1 (intRows ow0)) (hm : Row w mv' 1 (intRows mem)) (hmv : Row w mvv 2 (mvRows mvs)) (hl : ow0.length ≤ 1000) :
    Calls Try.prog 38 #[v, mv', mvv] w fun e w' => OwnOut mem ow0 mvs w e w' := by
  have KN := Kn.start w
  have HO := Lib.hid h
  have HMM := Lib.hid hm
  obtain ⟨mva, mvc, rfl, hmvm, hmvf⟩ := mv_at hmv
  obtain ⟨va, vc, rfl, hvm, _⟩ := ints_form h
  obtain ⟨za, zc, rfl, hzm, _⟩ := ints_form hm
  have HMV := Lib.hid hmvf
  obtain ⟨mvn, hmvn⟩ : ∃ mvn, mvn = mvs.length := ⟨_, rfl⟩
  have HMVN := Lib.hid hmvn
  obtain ⟨vn, hvn⟩ : ∃ vn, vn = ow0.length := ⟨_, rfl⟩
  have HVN := Lib.hid hvn
  obtain ⟨zn, hzn⟩ : ∃ zn, zn = mem.length := ⟨_, rfl⟩
  have HZN := Lib.hid hzn
  rw [← hmvn] at hmvm ⊢
  rw [← hvn] at hvm hl HO ⊢
  rw [← hzn] at hzm HMM ⊢
  unfold maxLen at hmvm hvm hzm
  clear h hm hmv hmvf hmvn hvn hzn
  go_enter Try.func38, Try.ntmps38
  go_upto_region 2 with (at_builtin; refine wpList_kn_appendR (f := fun o => o) KN .nil (by rfl) _ _ 22 rfl 8 Try.underlying22 int_info (by decide) rfl (.slice va vn vc) rfl _ HO.out (intRows_len _) (intRows_one _) (by rw [List.length_map, ← HVN.out]; unfold maxLen; simp; omega) (by rw [List.length_map, ← HVN.out]; simp; omega) .id rfl ?_; clear KN; intro v12 wx oo OW KN; rw [List.nil_append] at OW; obtain ⟨pa, pn, pc, rfl, hpn⟩ := OW.form4; rw [List.length_map] at hpn; have HPN := Lib.hid hpn; have HOO := Lib.hid OW; clear OW hpn)
  (try go_frame)
  go_wp2_with fail
  go_loopw [8] (fun i wr => RoM mem ow0 mvs (.slice pa pn pc) w i wr) (fun i _ => mvn - (intOf i).toNat)
  case atStart => exact ⟨0, oo, rfl, Nat.zero_le _, HOO.out, KN⟩
  case round =>
    clear KN HOO
    obtain ⟨u, oo, rfl, hu, OO, KN⟩ := hrel
    have HOO := Lib.hid OO
    clear OO
    rw [← HMVN.out] at hu
    by_cases hut : u < mvn
    · obtain ⟨⟨mr, mt⟩, hm⟩ : ∃ m, mvs[u]? = some m := ⟨_, List.getElem?_eq_getElem (by rw [← HMVN.out]; exact hut)⟩
      obtain ⟨gm, offm, rfl, hgm, hm1, hm2, hmc⟩ := HMV.out u _ hm
      rw [← HMVN.out] at hm1
      unfold maxLen at hm2
      have HSN := Lib.hid (mvF_snoc mem ow0 hm)
      have HRNG := Lib.hid hmc
      have HOLEN : Hid ((mvF mem ow0 (mvs.take u)).length = pn) := Lib.hid (by rw [mvF_len]; exact HPN.out.symm)
      clear hm hmc
      obtain ⟨ou, hou⟩ : ∃ q, q = mvF mem ow0 (mvs.take u) := ⟨_, rfl⟩
      rw [← hou] at HSN HOLEN HOO
      clear hou
      go_upto_region 6 with (first | ((with_reducible refine wpList_gate ?_); first | ((with_reducible refine gate_load ?_ ?_); rfl; first | (refine wpList_kn_oldN KN (by rfl) 84 _ rfl gm _ rfl #[.int .i64 mr, .int .i64 mt] HRNG.out hgm (by simp) _ Try.underlying84 rfl (by kernel_rfl) ?_) | (refine ks_loadW KN 84 Try.underlying84 ?_) | (refine ks_load1 KN 3 Try.underlying3 ?_)) | ((with_reducible refine gate_store ?_ ?_); rfl; first | (refine ks_storeW KN 84 ?_; clear KN; intro wx KN) | (refine ks_storeA KN 84 ?_; clear KN; intro wx KN) | (refine ks_store1 KN 3 ?_; clear KN; intro wx KN)) | ((with_reducible refine gate_new ?_ ?_); rfl; first | (refine ks_alloc KN 84 (q := 9) #[.int .i64 0, .int .i64 0] ?_; clear KN; intro g9 wx hg9 KN))))
      (try go_frame)
      by_cases hr0 : 0 ≤ mr
      · obtain ⟨r, rfl⟩ := Int.eq_ofNat_of_zero_le hr0
        have e1 : decide ((0 : Int) ≤ (r : Int)) = true := decide_eq_true hr0
        by_cases hrp : r < pn
        · have e2 : decide ((r : Int) < (pn : Int)) = true := decide_eq_true (by omega)
          by_cases hmt : mt ∈ mem
          · have HD : Hid (decide (mt ∈ mem) = true) := Lib.hid (decide_eq_true hmt)
            have HNX : Hid (mvF mem ow0 (mvs.take (u + 1)) = ou.set r mt) := Lib.hid (by rw [HSN.out]; unfold mv1; rw [if_pos ⟨hr0, by rw [HOLEN.out]; omega, hmt⟩]; rfl)
            clear hmt
            obtain ⟨g, cap, hv, hnc, hcm, rfl⟩ := HOO.out.pos (by rw [List.length_map, HOLEN.out]; omega)
            rw [List.length_map, HOLEN.out] at hv hnc
            simp only [Value.slice.injEq] at hv
            obtain ⟨rfl, _, rfl⟩ := hv
            have HNC := Lib.hid hnc
            have HCM := Lib.hid hcm
            unfold maxLen at hcm
            go_wp2_with (first | ((with_reducible refine wpList_gate ?_); (with_reducible refine gate_load ?_ ?_); rfl; first | (refine ks_load1 KN 3 Try.underlying3 ?_)) | (go_at_call 15; refine (HasInt_any (HMM.out.below KN.toBelow) mt).mono ?_; rw [HD.out]; rintro e wx ⟨rfl, rfl⟩) | (refine wpList_kn_elemS KN (by rfl) 3 _ _ rfl g _ rfl (.int .i64 mt) rfl r ?qq (by repeat (first | exact Repl.here | apply Repl.there)) (intRows_len _) (by rw [List.length_map, HOLEN.out]; exact HNC.out) (by rw [List.length_map, HOLEN.out]; exact hrp) rfl (by kernel_rfl) (by kernel_rfl) ?_; (case qq => omega); clear KN; intro wx KN))
            go_roundw
            case rel =>
              refine ⟨u + 1, [(g, CapAt 3 1 pc ((intRows ou).set r [Value.int .i64 mt]))], by go_num, by rw [← HMVN.out]; omega, ?_, KN.drop .here⟩
              rw [HNX.out, intRows_set]
              have := OwnT.blk (e := 3) (sz := 1) (g := g) (cap := pc) (L := (intRows ou).set r [Value.int .i64 mt]) (by rw [List.length_set, List.length_map, HOLEN.out]; exact HNC.out) HCM.out (by rw [← intRows_set]; exact intRows_len _)
              rw [List.length_set, List.length_map, HOLEN.out] at this
              exact this
            case measure => simp [intOf]; omega
          · have HD : Hid (decide (mt ∈ mem) = false) := Lib.hid (decide_eq_false hmt)
            have HNX : Hid (mvF mem ow0 (mvs.take (u + 1)) = ou) := Lib.hid (by rw [HSN.out]; unfold mv1; rw [if_neg (fun q => hmt q.2.2)])
            clear hmt
            go_wp2_with (first | ((with_reducible refine wpList_gate ?_); (with_reducible refine gate_load ?_ ?_); rfl; first | (refine ks_load1 KN 3 Try.underlying3 ?_)) | (go_at_call 15; refine (HasInt_any (HMM.out.below KN.toBelow) mt).mono ?_; rw [HD.out]; rintro e wx ⟨rfl, rfl⟩))
            go_roundw
            case rel => exact ⟨u + 1, oo, by go_num, by rw [← HMVN.out]; omega, by rw [HNX.out]; exact HOO.out, KN.drop .here⟩
            case measure => simp [intOf]; omega
        · have e2 : decide ((r : Int) < (pn : Int)) = false := decide_eq_false (by omega)
          have HNX : Hid (mvF mem ow0 (mvs.take (u + 1)) = ou) := Lib.hid (by rw [HSN.out]; unfold mv1; rw [if_neg (fun q => hrp (by have := q.2.1; rw [HOLEN.out] at this; exact Int.ofNat_lt.1 this))])
          go_wp2_with (first | ((with_reducible refine wpList_gate ?_); (with_reducible refine gate_load ?_ ?_); rfl; first | (refine ks_load1 KN 3 Try.underlying3 ?_)))
          go_roundw
          case rel => exact ⟨u + 1, oo, by go_num, by rw [← HMVN.out]; omega, by rw [HNX.out]; exact HOO.out, KN.drop .here⟩
          case measure => simp [intOf]; omega
      · have e1 : decide ((0 : Int) ≤ mr) = false := decide_eq_false hr0
        have HNX : Hid (mvF mem ow0 (mvs.take (u + 1)) = ou) := Lib.hid (by rw [HSN.out]; unfold mv1; rw [if_neg (fun q => hr0 q.1)])
        go_wp2_with (first | ((with_reducible refine wpList_gate ?_); (with_reducible refine gate_load ?_ ?_); rfl; first | (refine ks_load1 KN 3 Try.underlying3 ?_)))
        go_roundw
        case rel => exact ⟨u + 1, oo, by go_num, by rw [← HMVN.out]; omega, by rw [HNX.out]; exact HOO.out, KN.drop .here⟩
        case measure => simp [intOf]; omega
    · obtain rfl : u = mvn := by omega
      have HTK4 : Hid (mvs.take u = mvs) := Lib.hid (List.take_of_length_le (by rw [← HMVN.out]; omega))
      rw [HTK4.out] at HOO
      obtain ⟨ow, how⟩ : ∃ ow, ow = mvF mem ow0 mvs := ⟨_, rfl⟩
      have HOW := Lib.hid how
      have HPN2 : Hid (pn = ow.length) := Lib.hid (by rw [how, mvF_len]; exact HPN.out)
      rw [← how] at HOO
      clear how HPN hut hu
      have HPN := HPN2
      clear HPN2
      go_wp2_with fail
      go_loopw [10] (fun i wr => RoF mem ow (.slice pa pn pc) w i wr) (fun i _ => pn - (intOf i).toNat)
      case atStart => exact ⟨0, oo, rfl, Nat.zero_le _, by have := HOO.out; unfold fixK; simpa using this, KN⟩
      case round =>
        clear KN HOO
        obtain ⟨y, oo, rfl, hy, OO, KN⟩ := hrel
        have HOO := Lib.hid OO
        clear OO
        rw [← HPN.out] at hy
        by_cases hyt : y < pn
        · obtain ⟨x, hx⟩ : ∃ x, ow[y]? = some x := ⟨_, List.getElem?_eq_getElem (by rw [← HPN.out]; exact hyt)⟩
          have HX := Lib.hid hx
          obtain ⟨g', off', he, hg, hc1, hc2, hcell⟩ := row_at (HOO.out.row (f := fun o => o) KN .id) (fixK_at (mem := mem) hx)
          obtain ⟨g, cap, hv, hnc, hcm, rfl⟩ := HOO.out.pos (by rw [List.length_map, fixK_len, ← HPN.out]; omega)
          rw [List.length_map, fixK_len, ← HPN.out] at hv hnc
          simp only [Value.slice.injEq] at hv
          obtain ⟨rfl, _, rfl⟩ := hv
          simp only [Option.some.injEq, Addr.mk.injEq] at he
          obtain ⟨rfl, rfl, _⟩ := he
          rw [Nat.zero_add] at hcell
          have HNC := Lib.hid hnc
          have HCM := Lib.hid hcm
          unfold maxLen at hcm hc2
          clear hx
          by_cases hin : x ∈ mem
          · have HD : Hid (decide (x ∈ mem) = true) := Lib.hid (decide_eq_true hin)
            have HNX : Hid (fixK mem ow (y + 1) = fixK mem ow y) := Lib.hid (fixK_same HX.out (by unfold fix1; rw [if_pos hin]))
            clear hin
            go_wp2_with (first | (go_at_call 15; refine (HasInt_any (HMM.out.below KN.toBelow) x).mono ?_; rw [HD.out]; rintro e wx ⟨rfl, rfl⟩))
            go_roundw
            case rel => exact ⟨y + 1, _, by go_num, by rw [← HPN.out]; omega, by rw [HNX.out]; exact HOO.out, KN⟩
            case measure => simp [intOf]; omega
          · have HD : Hid (decide (x ∈ mem) = false) := Lib.hid (decide_eq_false hin)
            have HIN := Lib.hid hin
            clear hin
            rcases Nat.eq_zero_or_pos zn with hz | hz
            · have HNX : Hid (fixK mem ow (y + 1) = fixK mem ow y) := Lib.hid (fixK_same HX.out (by
                have hm : mem = [] := List.eq_nil_of_length_eq_zero (by rw [← HZN.out]; exact hz)
                unfold fix1; rw [hm]; rfl))
              subst hz
              go_wp2_with (first | (go_at_call 15; refine (HasInt_any (HMM.out.below KN.toBelow) x).mono ?_; rw [HD.out]; rintro e wx ⟨rfl, rfl⟩))
              go_roundw
              case rel => exact ⟨y + 1, _, by go_num, by rw [← HPN.out]; omega, by rw [HNX.out]; exact HOO.out, KN⟩
              case measure => simp [intOf]; omega
            · have hzd : decide ((0 : Int) < (zn : Int)) = true := decide_eq_true (by omega)
              obtain ⟨u2, hu2⟩ : ∃ u, mem[0]? = some u := ⟨_, List.getElem?_eq_getElem (by rw [← HZN.out]; exact hz)⟩
              have HNX : Hid (fixK mem ow (y + 1) = (fixK mem ow y).set y u2) := Lib.hid (by
                rw [fixK_set HX.out]
                congr 1
                unfold fix1
                rw [if_neg HIN.out]
                cases mem with
                | nil => cases hu2
                | cons m ms => have : m = u2 := (by simpa using hu2)
                               exact this)
              go_upto_region 12 with (first | (go_at_call 15; refine (HasInt_any (HMM.out.below KN.toBelow) x).mono ?_; rw [HD.out]; rintro e wx ⟨rfl, rfl⟩))
              (try go_frame)
              clear hzd hcell
              obtain ⟨gm, offm, rfl, hgm, hm1, hm2, hmc⟩ := row_at (HMM.out.below KN.toBelow) hu2
              rw [Nat.add_zero] at hmc
              unfold maxLen at hm2
              clear hu2
              go_wp2_with (refine wpList_kn_elemS KN (by rfl) 3 _ _ rfl g _ rfl (.int .i64 u2) rfl y ?qq (by repeat (first | exact Repl.here | apply Repl.there)) (intRows_len _) (by rw [List.length_map, fixK_len, ← HPN.out]; exact HNC.out) (by rw [List.length_map, fixK_len, ← HPN.out]; exact hyt) rfl (by kernel_rfl) (by kernel_rfl) ?_; (case qq => omega); clear KN hmc; intro wx KN)
              go_roundw
              case rel =>
                refine ⟨y + 1, [(g, CapAt 3 1 pc ((intRows (fixK mem ow y)).set y [Value.int .i64 u2]))], by go_num, by rw [← HPN.out]; omega, ?_, KN⟩
                rw [HNX.out, intRows_set]
                have := OwnT.blk (e := 3) (sz := 1) (g := g) (cap := pc) (L := (intRows (fixK mem ow y)).set y [Value.int .i64 u2]) (by rw [List.length_set, List.length_map, fixK_len, ← HPN.out]; exact HNC.out) HCM.out (by rw [← intRows_set]; exact intRows_len _)
                rw [List.length_set, List.length_map, fixK_len, ← HPN.out] at this
                exact this
              case measure => simp [intOf]; omega
        · obtain rfl : y = pn := by omega
          have HFX : Hid (fixK mem ow y = ow.map (fix1 mem)) := Lib.hid (by unfold fixK; rw [List.take_of_length_le (by rw [← HPN.out]; omega), List.drop_eq_nil_of_le (by rw [← HPN.out]; omega), List.append_nil])
          go_wp2_with fail
          go_ret
          exact ⟨_, oo, rfl, by rw [← HOW.out, ← HFX.out]; exact HOO.out, KN⟩
end Go.Proofs.Ytpjejaoobbancaa
