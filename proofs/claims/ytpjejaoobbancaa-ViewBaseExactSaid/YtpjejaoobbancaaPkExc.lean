/- slices.Clone, slices.DeleteFunc at exclude's function value; exclude. -/
import Derived.Test.YtpjejaoobbancaaPkClo
import Derived.Test.YtpjejaoobbancaaPkClear
import Derived.Test.YtpjejaoobbancaaPkMkView
set_option linter.unusedVariables false
set_option linter.unusedSimpArgs false
set_option linter.unusedSectionVars false
namespace Go.Proofs.Ytpjejaoobbancaa
open Go.RowKit Go.BigFrame

set_option maxRecDepth 100000 in
theorem Clone_any {w : World} {v : Value} {zs : List Int} (h : Row w v 1 (intRows zs)) (hn : zs.length ≤ 1000000) :
    Calls Try.prog 34 #[v] w fun e w' => ∃ v' ol, e = .returned v' ∧ OwnT 3 1 v' (intRows zs) ol ∧ Kn [] w w' ol ∧ (zs = [] ∨ ∃ a n c, v' = .slice (some a) n c) := by
  have KN := Kn.start w
  have HR := Lib.hid h
  obtain ⟨a, c, hv, hm, hc⟩ := ints_form h
  obtain ⟨n, hn'⟩ : ∃ n, n = zs.length := ⟨_, rfl⟩
  have HN := Lib.hid hn'
  rw [← hn'] at hv hn
  subst hv
  cases a with
  | none =>
    have HZ : Hid (zs = []) := Lib.hid (by
      cases zs with
      | nil => rfl
      | cons z zs => obtain ⟨g, off, h, _⟩ := hc 0 z rfl; cases h)
    clear h hc hm hn'
    have hq : ∀ w, Sem.run Try.prog (binOp .eql 22 (.slice none n c) (.slice none 0 0)) w = .ok (.bool true) w := fun w => Lib.run_eql_slice_nil w _ _ none n c 0 0 Try.underlying22
    go_enter Try.func34, Try.ntmps34
    go_wp2
    go_ret
    exact ⟨.slice none 0 0, [], rfl, by rw [HZ.out]; exact .nil, KN, .inl HZ.out⟩
  | some a =>
    clear h hc hm hn'
    have hq : ∀ w, Sem.run Try.prog (binOp .eql 22 (.slice (some a) n c) (.slice none 0 0)) w = .ok (.bool false) w := fun w => Lib.run_eql_slice_nil w _ _ (some a) n c 0 0 Try.underlying22
    go_enter Try.func34, Try.ntmps34
    go_wp2_with (first | ((with_reducible refine wpList_gate ?_); first | (at_builtin; refine wpList_kn_appendR (f := fun o => o) KN (.blk (L := []) (cap := 0) (by decide) (by decide) (by simp)) (by rfl) _ _ 22 rfl 8 Try.underlying22 int_info (by decide) rfl (.slice (some a) n c) rfl _ (HR.out.below KN.toBelow) (intRows_len _) (intRows_one _) (by rw [List.length_map, ← HN.out]; unfold maxLen; simp; omega) (by rw [List.length_map, ← HN.out]; simp; omega) .id rfl ?_; clear KN; intro v7 wx ol7 OW7 KN; have HO7 := Lib.hid OW7; clear OW7) | ((with_reducible refine gate_new ?_ ?_); rfl; first | (refine wpList_kn_buildSlice KN (by rfl) 22 0 _ rfl 5 rfl 3 #[] (by kernel_rfl) ?_; clear KN; intro g5 wx hg5 KN; replace KN : Kn [] w wx [(g5, CapAt 3 1 0 [])] := KN.weak (fun o ho => ⟨#[], ho, rfl, rfl⟩) Repl.here))))
    go_ret
    refine ⟨v7, ol7, rfl, HO7.out, KN, ?_⟩
    rcases Nat.eq_zero_or_pos zs.length with h | h
    · exact .inl (List.eq_nil_of_length_eq_zero h)
    · obtain ⟨g, cap, hv, _⟩ := HO7.out.pos (by rw [List.nil_append, List.length_map]; exact h)
      exact .inr ⟨_, _, _, hv⟩
/-- What is not in the second list. -/
def keepL (outs : List Int) (l : List Int) : List Int := l.filter fun z => !decide (z ∈ outs)
theorem keepL_all {outs l : List Int} (h : ∀ z ∈ l, z ∉ outs) : keepL outs l = l := by
  unfold keepL
  rw [List.filter_eq_self]
  intro z hz
  simp [h z hz]
theorem keepL_in {outs l : List Int} {k : Nat} {x : Int} (hx : l[k]? = some x) (h : x ∈ outs) : keepL outs (l.take (k + 1)) = keepL outs (l.take k) := by
  unfold keepL; rw [take_snocI hx, List.filter_append]; simp [h]
theorem keepL_out {outs l : List Int} {k : Nat} {x : Int} (hx : l[k]? = some x) (h : x ∉ outs) : keepL outs (l.take (k + 1)) = keepL outs (l.take k) ++ [x] := by
  unfold keepL; rw [take_snocI hx, List.filter_append]; simp [h]
theorem keepL_le (outs l : List Int) : (keepL outs l).length ≤ l.length := List.length_filter_le _ _
/-- The slice while it is cut down: the first i cells are what is kept of the first j, the others lie as they lay. -/
def DelR (outs zs : List Int) (n cap gb g : Nat) (outv : Value) (W : World) (si sj : Value) (wr : World) : Prop :=
  ∃ (i j : Nat) (cur : Array Value), si = .int .i64 (i : Int) ∧ sj = .int .i64 (j : Int) ∧ i < j ∧ j ≤ n ∧ (keepL outs (zs.take j)).length = i ∧ cur.size = cap ∧ (∀ (q : Nat) (x : Int), (keepL outs (zs.take j))[q]? = some x → cur[q]? = some (Value.int .i64 x)) ∧ (∀ (q : Nat) (x : Int), j ≤ q → zs[q]? = some x → cur[q]? = some (Value.int .i64 x)) ∧
    Kn [] W wr [(g, At cur 3), (gb, At #[outv] 22)]
theorem zeroI (w : World) : (zeroValue 3).run Try.prog w = .ok (.int .i64 0) w := by kernel_rfl
set_option maxRecDepth 100000 in
set_option maxHeartbeats 4000000 in
theorem DeleteEx_any {W w : World} {v outv : Value} {zs outs : List Int} {gb : Nat} {ol : Ents} (KN : Kn [] W w ((gb, At #[outv] 22) :: ol)) (OW : OwnT 3 1 v (intRows zs) ol) (hro : Row W outv 1 (intRows outs)) :
    Calls Try.prog 55 #[v, .func (.func 56) #[] #[.pointer (some ⟨gb, 0, none⟩)]] w fun e w' => ∃ v' ol', e = .returned v' ∧ OwnT 3 1 v' (intRows (keepL outs zs)) ol' ∧ Kn [] W w' ((gb, At #[outv] 22) :: ol') := by
  have HRO := Lib.hid hro
  have HIX := Lib.hid (IndexEx_any (OW.row (f := fun o => (gb, _) :: o) KN (.cons _ .id)) (KN.cell (g := gb) (o := 0) .here rfl) (hro.below KN.toBelow))
  have HO := Lib.hid OW
  obtain ⟨sa, sn, sc, rfl, hsn⟩ := OW.form4
  rw [List.length_map] at hsn
  have HSN := Lib.hid hsn
  have hnm : sn ≤ maxLen := by have := OW.max; rw [List.length_map] at this; omega
  unfold maxLen at hnm
  clear OW hro hsn
  go_enter Try.func55, Try.ntmps55
  go_upto_region 2 with (go_at_call 71; refine HIX.out.mono ?_; rintro e wx ⟨r, rfl, hr, rfl⟩; have HR := Lib.hid hr; clear hr)
  (try go_frame)
  rcases HR.out with ⟨hr, hall⟩ | ⟨k, hr, hkn, ⟨x0, hx0, hxo⟩, hall⟩
  · have HK := Lib.hid (keepL_all hall)
    subst hr
    clear hall HIX
    go_wp2
    go_ret
    exact ⟨_, ol, rfl, by rw [HK.out]; exact HO.out, KN⟩
  · subst hr
    obtain ⟨g, cap, hv, hnc, hcm, rfl⟩ := HO.out.pos (by rw [List.length_map]; omega)
    rw [List.length_map, ← HSN.out] at hv hnc
    simp only [Value.slice.injEq] at hv
    obtain ⟨rfl, _, rfl⟩ := hv
    rw [← HSN.out] at hkn
    unfold maxLen at hcm
    replace KN : Kn [] W w [(g, CapAt 3 1 sc (intRows zs)), (gb, At #[outv] 22)] := KN.perm (List.Perm.swap _ _ _)
    obtain ⟨cur, KN, hcs, hct⟩ := KN.open1
    rw [Nat.mul_one] at hcs hct
    rw [List.length_map, ← HSN.out, flat_int] at hct
    have hcq : ∀ (q : Nat) (x : Int), zs[q]? = some x → cur[q]? = some (Value.int .i64 x) := by
      intro q x hx
      have hq : q < sn := by rw [HSN.out]; exact (List.getElem?_eq_some_iff.1 hx).1
      have h1 : (cur.toList.take sn)[q]? = some (Value.int .i64 x) := by rw [hct, List.getElem?_map, hx]; rfl
      rw [List.getElem?_take, if_pos hq] at h1
      simpa using h1
    have hkk : keepL outs (zs.take (k + 1)) = zs.take k := by rw [keepL_in hx0 hxo, keepL_all hall]
    have HST : Hid (DelR outs zs sn sc gb g outv W (.int .i64 (k : Int)) (.int .i64 ((k + 1 : Nat) : Int)) w) := Lib.hid ⟨k, k + 1, cur, rfl, rfl, by omega, by omega, by rw [hkk, List.length_take, ← HSN.out]; omega, hcs, (by
      intro q x hx
      rw [hkk, List.getElem?_take] at hx
      split at hx
      · exact hcq q x hx
      · cases hx), fun q x _ hx => hcq q x hx, KN⟩
    have hkne : ((k : Int) == -1) = false := beq_eq_false_iff_ne.2 (by omega)
    clear HIX HO HR hall hx0 hxo hct hcs hcq hkk KN
    go_wp2_with fail
    clear hkne
    go_loopw [5, 6, 7] (fun si sj _ wr => DelR outs zs sn sc gb g outv W si sj wr) (fun _ sj _ _ => sn - (intOf sj).toNat)
    case atStart => exact HST.out
    case round =>
      clear HST
      obtain ⟨i, j, cur, rfl, rfl, hij, hjn, hil, hcs, hlo, hhi, KN⟩ := hrel
      have HIL := Lib.hid hil
      have HLO := Lib.hid hlo
      have HHI := Lib.hid hhi
      have HCS := Lib.hid hcs
      clear hil hlo hhi hcs
      by_cases hlt : j < sn
      · obtain ⟨x, hx⟩ : ∃ x, zs[j]? = some x := ⟨_, List.getElem?_eq_getElem (by rw [← HSN.out]; exact hlt)⟩
        have HXC := Lib.hid (HHI.out j x (Nat.le_refl _) hx)
        have HX := Lib.hid hx
        have HEX := Lib.hid (fun (wz : World) (K : Kn [] W wz [(g, At cur 3), (gb, At #[outv] 22)]) => ex1_any (K.cell (g := gb) (o := 0) (.there .here) rfl) (HRO.out.below K.toBelow) x)
        by_cases hxo : x ∈ outs
        · have HD : Hid (decide (x ∈ outs) = true) := Lib.hid (decide_eq_true hxo)
          have HK := Lib.hid (keepL_in hx hxo)
          clear hx hxo
          go_wp2_with (first | (go_at_call 56; refine (HEX.out _ KN).mono ?_; rw [HD.out]; rintro e wx ⟨rfl, rfl⟩) | (refine wpList_kn_load1 KN (by rfl) 3 _ rfl g j rfl cur _ (by repeat (first | exact Has.here | refine Has.there ?_)) (.int .i64 x) HXC.out _ Try.underlying3 rfl ?_))
          go_roundw
          case rel => exact ⟨i, j + 1, cur, rfl, by go_num, by omega, by omega, by rw [HK.out]; exact HIL.out, HCS.out, by rw [HK.out]; exact HLO.out, fun q y hq hy => HHI.out q y (by omega) hy, KN⟩
          case measure => simp [intOf]; omega
        · have HD : Hid (decide (x ∈ outs) = false) := Lib.hid (decide_eq_false hxo)
          have HK := Lib.hid (keepL_out hx hxo)
          clear hx hxo
          go_wp2_with (first | (go_at_call 56; refine (HEX.out _ KN).mono ?_; rw [HD.out]; rintro e wx ⟨rfl, rfl⟩) | (refine wpList_kn_load1 KN (by rfl) 3 _ rfl g j rfl cur _ (by repeat (first | exact Has.here | refine Has.there ?_)) (.int .i64 x) HXC.out _ Try.underlying3 rfl ?_) | (refine wpList_kn_store1 KN (by rfl) 3 _ _ rfl g i rfl (.int .i64 x) rfl rfl cur 3 (by repeat (first | exact Repl.here | apply Repl.there)) (by rw [HCS.out]; omega) (by kernel_rfl) (by rfl) ?_; clear KN; intro wx KN))
          go_roundw
          case rel =>
            refine ⟨i + 1, j + 1, _, by go_num, by go_num, by omega, by omega, by rw [HK.out, List.length_append, HIL.out]; rfl, by rw [Array.size_setIfInBounds]; exact HCS.out, ?_, ?_, KN⟩
            · intro q y hy
              rw [HK.out] at hy
              rcases Nat.lt_or_ge q i with hq | hq
              · rw [List.getElem?_append_left (by rw [HIL.out]; exact hq)] at hy
                rw [Array.getElem?_setIfInBounds_ne (by omega)]
                exact HLO.out q y hy
              · have hqi : q = i := by
                  have := (List.getElem?_eq_some_iff.1 hy).1
                  rw [List.length_append, HIL.out] at this
                  have : q < i + 1 := this
                  omega
                subst hqi
                rw [List.getElem?_append_right (by rw [HIL.out]; exact Nat.le_refl _), HIL.out, Nat.sub_self] at hy
                have hyx : x = y := by simpa using hy
                subst hyx
                rw [Array.getElem?_setIfInBounds, if_pos rfl, if_pos (by rw [HCS.out]; omega)]
            · intro q y hq hy
              rw [Array.getElem?_setIfInBounds_ne (by omega)]
              exact HHI.out q y (by omega) hy
          case measure => simp [intOf]; omega
      · obtain rfl : j = sn := by omega
        have HKF : Hid (keepL outs (zs.take j) = keepL outs zs) := Lib.hid (by rw [List.take_of_length_le (by rw [← HSN.out]; exact Nat.le_refl _)])
        have hne : ¬ sc = i := by omega
        go_wp2_with (refine wpList_kn_clear KN (by rfl) _ 22 rfl 3 (.int .i64 0) Try.underlying22 zeroI rfl rfl (g := g) (o := i) (n := j - i) (c := sc - i) (by kernel_rfl) (by repeat (first | exact Repl.here | apply Repl.there)) (by omega) (by rw [HCS.out]; omega) ?_; clear KN; intro wx KN)
        go_ret
        have hct : cur.toList.take i = (intRows (keepL outs zs)).flatten := by
          rw [flat_int]
          apply List.ext_getElem?
          intro q
          rw [List.getElem?_take, List.getElem?_map]
          have hil := HIL.out
          rw [HKF.out] at hil
          split
          · rename_i hq
            obtain ⟨y, hy⟩ : ∃ y, (keepL outs zs)[q]? = some y := ⟨_, List.getElem?_eq_getElem (by rw [hil]; exact hq)⟩
            have := HLO.out q y (by rw [HKF.out]; exact hy)
            rw [hy]
            simpa using this
          · rename_i hq
            rw [List.getElem?_eq_none (by rw [hil]; omega)]; rfl
        have hil : (intRows (keepL outs zs)).length = i := by rw [List.length_map, ← HKF.out]; exact HIL.out
        have KF := KN.shut1 (sz := 1) (cap := sc) (L := intRows (keepL outs zs)) (by rw [putL_size, HCS.out, Nat.mul_one]) (by rw [hil, Nat.mul_one, putL_take]; exact hct)
        have OWF := OwnT.blk (e := 3) (sz := 1) (g := g) (cap := sc) (L := intRows (keepL outs zs)) (by rw [hil]; omega) (by unfold maxLen; omega) (intRows_len _)
        rw [hil] at OWF
        exact ⟨_, _, rfl, OWF, KF.perm (List.Perm.swap _ _ _)⟩
theorem exclude_any {w : World} {v outv : Value} {zs outs : List Int} (h : Row w v 1 (intRows zs)) (hn : zs.length ≤ 1000000) (hro : Row w outv 1 (intRows outs)) :
    Calls Try.prog 31 #[v, outv] w fun e w' => ∃ v' ol', e = .returned v' ∧ OwnT 3 1 v' (intRows (keepL outs zs)) ol' ∧ Kn [] w w' ol' := by
  have KN := Kn.start w
  have HR := Lib.hid h
  have HRO := Lib.hid hro
  obtain ⟨a, c, rfl, _⟩ := ints_form h
  obtain ⟨oa, oc, rfl, _⟩ := ints_form hro
  have hmf := run_mf
  clear h hro
  go_enter Try.func31, Try.ntmps31
  go_wp2_with (first | (go_at_call 34; refine (Clone_any (HR.out.below KN.toBelow) hn).mono ?_; rintro e wx ⟨v1, ol1, rfl, O1, K2, _⟩; have HO1 := Lib.hid O1; replace KN := (KN.call0 K2).perm List.perm_append_comm; clear K2 O1; simp only [List.cons_append, List.nil_append] at KN) | (go_at_call 55; refine (DeleteEx_any KN HO1.out HRO.out).mono ?_; rintro e wx ⟨v2, ol2, rfl, O2, K2⟩; have HO2 := Lib.hid O2; clear KN; have KN := K2; clear K2 O2) | ((with_reducible refine wpList_gate ?_); first | ((with_reducible refine gate_new ?_ ?_); rfl; first | (refine ks_box KN 22 (q := 3) ?_; clear KN; intro g3 wx hg3 KN))))
  go_ret
  exact ⟨v2, ol2, rfl, HO2.out, KN.drop .here⟩
end Go.Proofs.Ytpjejaoobbancaa
