/- (*kernel.Kernel).own, without entries. -/
import Derived.Test.YtlhmeeidlhpodaaGreatPkClB
import Derived.Test.YtlhmeeidlhpodaaGreatPkCValR
set_option linter.unusedVariables false
set_option linter.unusedSimpArgs false
set_option linter.unusedSectionVars false
namespace Go.Proofs.YtlhmeeidlhpodaaGreat
open Go.RowKit Go.BigFrame
/-- All cells are pointers. -/
def Ptrs (cs : Array Value) : Prop := ∀ (i : Nat) (x : Value), cs[i]? = some x → ∃ a, x = .pointer a
theorem Ptrs.set {cs : Array Value} (h : Ptrs cs) (i : Nat) (a : Option Addr) : Ptrs (cs.setIfInBounds i (.pointer a)) := fun j x hx => by
  rw [Array.getElem?_setIfInBounds] at hx
  split at hx
  · split at hx
    · cases hx; exact ⟨a, rfl⟩
    · cases hx
  · exact h j x hx
theorem Ptrs.ne_int {w : World} {g g' o : Nat} {cs : Array Value} {T : TypeId} {k : IntKind} {z : Int} (h : Ptrs cs) (hb : BlkT w g cs T) (hc : w.cell? ⟨g', o, none⟩ = some (.int k z)) : g' ≠ g := fun e => by
  subst e
  have := (blk_cell hb o).symm.trans hc
  obtain ⟨a, ha⟩ := h o _ this
  cases ha
/-- A loop that has no round; a slice that stays nil. -/
def ZLoop1 (Q : World → Prop) (v i : Value) (wr : World) : Prop := v = .slice none 0 0 ∧ i = .int .i64 0 ∧ Q wr
def OwOut (go : Nat) (n : Nat) (w : World) (e : Ending) (w' : World) : Prop := e = .returned (.tuple #[]) ∧ ∃ oc' : Array Value, oc'.size = n ∧ Ptrs oc' ∧ Kn [go] w w' [(go, At oc' 133)]
def OwLoop (go n : Nat) (view : Array Value) (g4 : Nat) (w : World) (i : Value) (wr : World) : Prop := ∃ (k : Nat) (oc' : Array Value), i = .int .i64 (k : Int) ∧ k ≤ n ∧ oc'.size = n ∧ Ptrs oc' ∧ Kn [go] w wr [(g4, At view 63), (go, At oc' 133)]
set_option maxRecDepth 100000 in
set_option maxHeartbeats 16000000 in
theorem own_any {w : World} {gk go nr : Nat} {oc : Array Value} {core num : Int} {sr vm vo : Value} {rs : List Reg} {mem own : List Int} (hgo : BlkT w go oc 133) (hos : oc.size = nr) (hop : Ptrs oc)
    (k0 : w.cell? ⟨gk, 0, none⟩ = some (.int .i64 core)) (k4 : w.cell? ⟨gk, 4, none⟩ = some sr) (k12 : w.cell? ⟨gk, 12, none⟩ = some (.slice (some ⟨go, 0, none⟩) nr nr))
    (hr : Row w sr 3 (regRows rs)) (hnr : nr = rs.length) (hn16 : nr ≤ 16) (hm : Row w vm 1 (intRows mem)) (ho : Row w vo 1 (intRows own)) (hno : own.length = nr) :
    Calls Tryz.prog 38 #[.pointer (some ⟨gk, 0, none⟩), .agg #[.int .i64 num, vm, vo], .slice none 0 0] w (OwOut go nr w) := by
  have KN := Kn.startAt (W := w) (g := go) (Φ := At oc 133) hgo rfl
  have hgk : gk ≠ go := hop.ne_int hgo k0
  have lgk : gk < w.heap.size := (cell_spot k0).2
  obtain ⟨va, vc, rfl, hvm, hvf⟩ := ints_form hm
  obtain ⟨oa, occ, rfl, hom, hof⟩ := ints_form ho
  obtain ⟨ra, rcc, rfl, hrm, hrf⟩ := reg_at hr
  obtain ⟨nm, hnm⟩ : ∃ n, n = mem.length := ⟨_, rfl⟩
  have HOF := Lib.hid hof
  have HRF := Lib.hid hrf
  have HNO := Lib.hid hno
  have HNR := Lib.hid hnr
  have HGO := Lib.hid hgo
  have HOP := Lib.hid hop
  have HOS := Lib.hid hos
  have HK0 := Lib.hid k0
  have HK4 := Lib.hid k4
  have HK12 := Lib.hid k12
  rw [← hnr] at HK4 hrm
  rw [hno] at hom ⊢
  rw [← hnm] at hvm ⊢
  unfold maxLen at hrm hom hvm
  clear hm ho hr hvf hof hrf hno hnm k0 k4 k12 hgo hop hos hnr
  go_enter Tryz.func38, Tryz.ntmps38
  go_wp2_with (first | ((with_reducible refine wpList_gate ?_); first | ((with_reducible refine gate_load ?_ ?_); rfl; first | (refine wpList_kn_old1 KN (by rfl) 23 _ rfl gk 4 rfl _ HK4.out (by simp; exact hgk) _ Tryz.underlying23 rfl ?_) | (refine ks_load1 KN 23 Tryz.underlying23 ?_) | (refine ks_loadW KN 57 Tryz.underlying57 ?_) | (refine ks_load1 KN 88 Tryz.underlying88 ?_) | (refine ks_load1 KN 22 Tryz.underlying22 ?_) | (refine ks_load1 KN 3 Tryz.underlying3 ?_) | (refine ks_loadW KN 135 Tryz.underlying135 ?_) | (refine ks_loadW KN 46 Tryz.underlying46 ?_)) | ((with_reducible refine gate_store ?_ ?_); rfl; first | (refine ks_storeW KN 57 ?_; clear KN; intro wx KN) | (refine ks_storeA KN 57 ?_; clear KN; intro wx KN) | (refine ks_store1 KN 133 ?_; clear KN; intro wx KN) | (refine ks_storeW KN 135 ?_; clear KN; intro wx KN) | (refine ks_storeA KN 135 ?_; clear KN; intro wx KN)) | ((with_reducible refine gate_new ?_ ?_); rfl; first | (refine ks_boxA KN 63 (q := 4) ?_; clear KN; intro g4 wx hg4 KN) | (refine ks_alloc KN 57 (q := 7) #[.int .i64 0, .int .i64 0, .bool false] ?_; clear KN; intro g7 wx hg7 KN) | (refine ks_alloc KN 135 (q := 10) #[.int .i64 0, .int .i64 0, .int .i64 0, .int .i64 0, .int .i64 0, .slice none 0 0, .int .i64 0, .int .i64 0, .int .i64 0, .int .i64 0, .int .i64 0, .int .i64 0, .bool false] ?_; clear KN; intro g10 wx hg10 KN))))
  go_loopw [17] (fun i wr => OwLoop go nr #[.int .i64 num, .slice va nm vc, .slice oa nr occ] g4 w i wr) (fun i _ => nr - (intOf i).toNat)
  case atStart => exact ⟨0, oc, rfl, Nat.zero_le _, HOS.out, HOP.out, KN⟩
  case round =>
    clear KN
    obtain ⟨k, cs, rfl, hk, hcs, hpt, KN⟩ := hrel
    have HPT := Lib.hid hpt
    have HCS := Lib.hid hcs
    clear hpt hcs
    by_cases hlt : k < nr
    · obtain ⟨⟨b0, kb, d0⟩, hr⟩ : ∃ r, rs[k]? = some r := ⟨_, List.getElem?_eq_getElem (by rw [← HNR.out]; exact hlt)⟩
      obtain ⟨o, ho⟩ : ∃ o, own[k]? = some o := ⟨_, List.getElem?_eq_getElem (by rw [HNO.out]; exact hlt)⟩
      obtain ⟨gr, offr, rfl, hgr, hr1, hr2, hrng⟩ := HRF.out k _ hr
      obtain ⟨g2, off2, rfl, hg2, ho1, ho2, hocell⟩ := HOF.out k o ho
      rw [← HNR.out] at hr1
      rw [HNO.out] at ho1
      unfold maxLen at hr2 ho2
      have hne : gr ≠ go := HOP.out.ne_int HGO.out (hrng 0 _ rfl)
      have hne2 : g2 ≠ go := HOP.out.ne_int HGO.out hocell
      have HRNG := Lib.hid hrng
      have HOC := Lib.hid hocell
      have e5 : decide (nr ≤ k) = false := decide_eq_false (by omega)
      clear hr ho hrng hocell
      go_upto_region 5 with (first | ((with_reducible refine wpList_gate ?_); first | ((with_reducible refine gate_load ?_ ?_); rfl; first | (refine wpList_kn_oldN KN (by rfl) 57 _ rfl gr _ rfl #[.int .i64 b0, .int .i64 kb, .bool d0] HRNG.out hgr (by simp; exact hne) _ Tryz.underlying57 rfl (by kernel_rfl) ?_) | (refine wpList_kn_old1 KN (by rfl) 88 _ rfl gk 12 rfl _ HK12.out (by simp; exact hgk) _ Tryz.underlying88 rfl ?_) | (refine ks_load1 KN 23 Tryz.underlying23 ?_) | (refine ks_loadW KN 57 Tryz.underlying57 ?_) | (refine ks_load1 KN 88 Tryz.underlying88 ?_) | (refine ks_load1 KN 22 Tryz.underlying22 ?_) | (refine ks_load1 KN 3 Tryz.underlying3 ?_) | (refine ks_loadW KN 135 Tryz.underlying135 ?_) | (refine ks_loadW KN 46 Tryz.underlying46 ?_)) | ((with_reducible refine gate_store ?_ ?_); rfl; first | (refine wpList_kn_store1 KN (by rfl) 133 _ _ rfl go k rfl (.pointer none) rfl rfl _ 133 (by repeat (first | exact Repl.here | apply Repl.there)) (by rw [HCS.out]; omega) (by kernel_rfl) (by rfl) ?_; clear KN; intro wx KN) | (refine ks_storeW KN 57 ?_; clear KN; intro wx KN) | (refine ks_storeA KN 57 ?_; clear KN; intro wx KN) | (refine ks_store1 KN 133 ?_; clear KN; intro wx KN) | (refine ks_storeW KN 135 ?_; clear KN; intro wx KN) | (refine ks_storeA KN 135 ?_; clear KN; intro wx KN)) | ((with_reducible refine gate_new ?_ ?_); rfl; first | (refine ks_boxA KN 63 (q := 4) ?_; clear KN; intro g4 wx hg4 KN) | (refine ks_alloc KN 57 (q := 7) #[.int .i64 0, .int .i64 0, .bool false] ?_; clear KN; intro g7 wx hg7 KN) | (refine ks_alloc KN 135 (q := 10) #[.int .i64 0, .int .i64 0, .int .i64 0, .int .i64 0, .int .i64 0, .slice none 0 0, .int .i64 0, .int .i64 0, .int .i64 0, .int .i64 0, .int .i64 0, .int .i64 0, .bool false] ?_; clear KN; intro g10 wx hg10 KN))))
      (try go_frame)
      replace KN := KN.drew
      replace KN := KN.as_ g7 #[.int .i64 b0, .int .i64 kb, .bool d0] (by repeat (first | exact Repl.here | apply Repl.there)) (by kernel_rfl)
      by_cases hoc : o = core
      · have e6 : (o != core) = false := by simp [hoc]
        clear hoc
        refine wp_region_held_drew (S := (fun w' => BlkT w' g4 #[.int .i64 num, .slice va nm vc, .slice (some ⟨g2, off2, none⟩) nr occ] 63 ∧ w'.cell? ⟨g2, off2 + k, none⟩ = some (.int .i64 o) ∧ w'.cell? ⟨gk, 0, none⟩ = some (.int .i64 core))) (by kernel_rfl) ?oahS (fun hHeld => ?oarest)
        case oahS => exact ⟨KN.at_ (by repeat (first | exact Has.here | refine Has.there ?_)), (KN.old hg2 (by simp; exact hne2)).trans HOC.out, (KN.old lgk (by simp; exact hgk)).trans HK0.out⟩
        refine wpAnyH_take (i := 0) (oi := ⟨some 28, _, _, _, _, _⟩) (v := ?oav0) rfl (by kernel_rfl) (by kernel_rfl) (by kernel_rfl) (fun _ _ _ h => h) (Or.inl ⟨by rfl, ?oahy0⟩) hHeld ?oar0
        case oahy0 => (intro w hSw; (try dsimp only at hSw); go_simp; (try with_reducible rfl))
        (try simp only [Act.put, List.setIfInBounds_toArray, List.set_cons_zero, List.set_cons_succ])
        refine wpAnyH_take (i := 1) (oi := ⟨some 29, _, _, _, _, _⟩) (v := ?oav1) rfl (by kernel_rfl) (by kernel_rfl) (by kernel_rfl) (fun _ _ _ h => h) (Or.inl ⟨by rfl, ?oahy1⟩) hHeld ?oar1
        case oahy1 => (intro w hSw; (try dsimp only at hSw); go_simp; (try with_reducible rfl))
        (try simp only [Act.put, List.setIfInBounds_toArray, List.set_cons_zero, List.set_cons_succ])
        refine wpAnyH_take (i := 2) (oi := ⟨some 30, _, _, _, _, _⟩) (v := (.slice (some ⟨g2, off2, none⟩) nr occ)) rfl (by kernel_rfl) (by kernel_rfl) (by kernel_rfl) (fun _ _ _ h => h) (kn_yields1 (by rfl) 22 _ rfl g4 2 rfl _ 63 (fun _ h => h.1) _ rfl _ Tryz.underlying22 rfl) hHeld ?oar2
        (try simp only [Act.put, List.setIfInBounds_toArray, List.set_cons_zero, List.set_cons_succ])
        refine wpAnyH_take (i := 3) (oi := ⟨some 31, _, _, _, _, _⟩) (v := ?oav3) rfl (by kernel_rfl) (by kernel_rfl) (by kernel_rfl) (fun _ _ _ h => h) (Or.inl ⟨by rfl, ?oahy3⟩) hHeld ?oar3
        case oahy3 => (intro w hSw; (try dsimp only at hSw); go_simp; (try with_reducible rfl))
        (try simp only [Act.put, List.setIfInBounds_toArray, List.set_cons_zero, List.set_cons_succ])
        refine wpAnyH_take (i := 4) (oi := ⟨some 32, _, _, _, _, _⟩) (v := ?oav4) rfl (by kernel_rfl) (by kernel_rfl) (by kernel_rfl) (fun _ _ _ h => h) (Or.inl ⟨by rfl, ?oahy4⟩) hHeld ?oar4
        case oahy4 => (intro w hSw; (try dsimp only at hSw); go_simp; (try with_reducible rfl))
        (try simp only [Act.put, List.setIfInBounds_toArray, List.set_cons_zero, List.set_cons_succ])
        refine wpAnyH_take (i := 5) (oi := ⟨some 33, _, _, _, _, _⟩) (v := ?oav5) rfl (by kernel_rfl) (by kernel_rfl) (by kernel_rfl) (fun _ _ _ h => h) (Or.inl ⟨by rfl, ?oahy5⟩) hHeld ?oar5
        case oahy5 => (intro w hSw; (try dsimp only at hSw); go_simp; (try with_reducible rfl))
        (try simp only [Act.put, List.setIfInBounds_toArray, List.set_cons_zero, List.set_cons_succ])
        refine wpAnyH_take (i := 6) (oi := ⟨some 34, _, _, _, _, _⟩) (v := ?oav6) rfl (by kernel_rfl) (by kernel_rfl) (by kernel_rfl) (fun _ _ _ h => h) (Or.inl ⟨by rfl, ?oahy6⟩) hHeld ?oar6
        case oahy6 => (intro w hSw; (try dsimp only at hSw); go_simp; (try with_reducible rfl))
        (try simp only [Act.put, List.setIfInBounds_toArray, List.set_cons_zero, List.set_cons_succ])
        refine wpAnyH_take (i := 7) (oi := ⟨some 35, _, _, _, _, _⟩) (v := (.slice (some ⟨g2, off2, none⟩) nr occ)) rfl (by kernel_rfl) (by kernel_rfl) (by kernel_rfl) (fun _ _ _ h => h) (kn_yields1 (by rfl) 22 _ rfl g4 2 rfl _ 63 (fun _ h => h.1) _ rfl _ Tryz.underlying22 rfl) hHeld ?oar7
        (try simp only [Act.put, List.setIfInBounds_toArray, List.set_cons_zero, List.set_cons_succ])
        refine wpAnyH_take (i := 8) (oi := ⟨some 36, _, _, _, _, _⟩) (v := ?oav8) rfl (by kernel_rfl) (by kernel_rfl) (by kernel_rfl) (fun _ _ _ h => h) (Or.inl ⟨by rfl, ?oahy8⟩) hHeld ?oar8
        case oahy8 => (intro w hSw; (try dsimp only at hSw); go_simp; (try with_reducible rfl))
        (try simp only [Act.put, List.setIfInBounds_toArray, List.set_cons_zero, List.set_cons_succ])
        refine wpAnyH_take (i := 9) (oi := ⟨some 37, _, _, _, _, _⟩) (v := ?oav9) rfl (by kernel_rfl) (by kernel_rfl) (by kernel_rfl) (fun _ _ _ h => h) (Or.inl ⟨by rfl, ?oahy9⟩) hHeld ?oar9
        case oahy9 => (intro w hSw; (try dsimp only at hSw); go_simp; (try with_reducible rfl))
        (try simp only [Act.put, List.setIfInBounds_toArray, List.set_cons_zero, List.set_cons_succ])
        refine wpAnyH_take (i := 10) (oi := ⟨some 38, _, _, _, _, _⟩) (v := (.int .i64 o)) rfl (by kernel_rfl) (by kernel_rfl) (by kernel_rfl) (fun _ _ _ h => h) (kn_yields_cell (by rfl) 3 _ rfl g2 _ rfl _ (fun _ h => h.2.1) _ Tryz.underlying3 rfl) hHeld ?oar10
        (try simp only [Act.put, List.setIfInBounds_toArray, List.set_cons_zero, List.set_cons_succ])
        refine wpAnyH_take (i := 11) (oi := ⟨some 39, _, _, _, _, _⟩) (v := ?oav11) rfl (by kernel_rfl) (by kernel_rfl) (by kernel_rfl) (fun _ _ _ h => h) (Or.inl ⟨by rfl, ?oahy11⟩) hHeld ?oar11
        case oahy11 => (intro w hSw; (try dsimp only at hSw); go_simp; (try with_reducible rfl))
        (try simp only [Act.put, List.setIfInBounds_toArray, List.set_cons_zero, List.set_cons_succ])
        refine wpAnyH_take (i := 12) (oi := ⟨some 40, _, _, _, _, _⟩) (v := ?oav12) rfl (by kernel_rfl) (by kernel_rfl) (by kernel_rfl) (fun _ _ _ h => h) (Or.inl ⟨by rfl, ?oahy12⟩) hHeld ?oar12
        case oahy12 => (intro w hSw; (try dsimp only at hSw); go_simp; (try with_reducible rfl))
        (try simp only [Act.put, List.setIfInBounds_toArray, List.set_cons_zero, List.set_cons_succ])
        refine wpAnyH_take (i := 13) (oi := ⟨some 41, _, _, _, _, _⟩) (v := ?oav13) rfl (by kernel_rfl) (by kernel_rfl) (by kernel_rfl) (fun _ _ _ h => h) (Or.inl ⟨by rfl, ?oahy13⟩) hHeld ?oar13
        case oahy13 => (intro w hSw; (try dsimp only at hSw); go_simp; (try with_reducible rfl))
        (try simp only [Act.put, List.setIfInBounds_toArray, List.set_cons_zero, List.set_cons_succ])
        refine wpAnyH_take (i := 14) (oi := ⟨some 42, _, _, _, _, _⟩) (v := (.int .i64 core)) rfl (by kernel_rfl) (by kernel_rfl) (by kernel_rfl) (fun _ _ _ h => h) (kn_yields_cell (by rfl) 3 _ rfl gk 0 rfl _ (fun _ h => h.2.2) _ Tryz.underlying3 rfl) hHeld ?oar14
        (try simp only [Act.put, List.setIfInBounds_toArray, List.set_cons_zero, List.set_cons_succ])
        refine wpAnyH_take (i := 15) (oi := ⟨some 43, _, _, _, _, _⟩) (v := ?oav15) rfl (by kernel_rfl) (by kernel_rfl) (by kernel_rfl) (fun _ _ _ h => h) (Or.inl ⟨by rfl, ?oahy15⟩) hHeld ?oar15
        case oahy15 => (intro w hSw; (try dsimp only at hSw); go_simp; (try with_reducible rfl))
        (try simp only [Act.put, List.setIfInBounds_toArray, List.set_cons_zero, List.set_cons_succ])
        refine wpAnyH_take (i := 16) (oi := ⟨some 44, _, _, _, _, _⟩) (v := ?oav16) rfl (by kernel_rfl) (by kernel_rfl) (by kernel_rfl) (fun _ _ _ h => h) (Or.inl ⟨by rfl, ?oahy16⟩) hHeld ?oar16
        case oahy16 => (intro w hSw; (try dsimp only at hSw); go_simp; (try with_reducible rfl))
        (try simp only [Act.put, List.setIfInBounds_toArray, List.set_cons_zero, List.set_cons_succ])
        refine wpAnyH_done (by kernel_rfl) ?oadone _
        go_wp2_with fail
        go_loopw [8, 47] (fun v i wr => ZLoop1 (fun wr => Kn [go] w wr [(g7, At #[.int .i64 b0, .int .i64 kb, .bool d0] 57), (g4, At #[.int .i64 num, .slice va nm vc, .slice (some ⟨g2, off2, none⟩) nr occ] 63), (go, At (cs.setIfInBounds k (.pointer none)) 133)]) v i wr) (fun _ _ _ => 0)
        case atStart => exact ⟨rfl, rfl, KN⟩
        case round =>
          clear KN
          obtain ⟨rfl, rfl, KN⟩ := hrel
          go_upto_region 13 with fail
          (try go_frame)
          replace KN := KN.drew
          refine wp_region_held_drew (S := (fun w' => BlkT w' g7 #[.int .i64 b0, .int .i64 kb, .bool d0] 57 ∧ w'.cell? ⟨gk, 12, none⟩ = some (.slice (some ⟨go, 0, none⟩) nr nr))) (by kernel_rfl) ?obhS (fun hHeld => ?obrest)
          case obhS => exact ⟨KN.at_ (by repeat (first | exact Has.here | refine Has.there ?_)), (KN.old lgk (by simp; exact hgk)).trans HK12.out⟩
          refine wpAnyH_take (i := 0) (oi := ⟨some 66, _, _, _, _, _⟩) (v := ?obv0) rfl (by kernel_rfl) (by kernel_rfl) (by kernel_rfl) (fun _ _ _ h => h) (Or.inl ⟨by rfl, ?obhy0⟩) hHeld ?obr0
          case obhy0 => (intro w hSw; (try dsimp only at hSw); go_simp; (try with_reducible rfl))
          (try simp only [Act.put, List.setIfInBounds_toArray, List.set_cons_zero, List.set_cons_succ])
          refine wpAnyH_take (i := 1) (oi := ⟨some 67, _, _, _, _, _⟩) (v := ?obv1) rfl (by kernel_rfl) (by kernel_rfl) (by kernel_rfl) (fun _ _ _ h => h) (Or.inl ⟨by rfl, ?obhy1⟩) hHeld ?obr1
          case obhy1 => (intro w hSw; (try dsimp only at hSw); go_simp; (try with_reducible rfl))
          (try simp only [Act.put, List.setIfInBounds_toArray, List.set_cons_zero, List.set_cons_succ])
          refine wpAnyH_take (i := 2) (oi := ⟨some 68, _, _, _, _, _⟩) (v := ?obv2) rfl (by kernel_rfl) (by kernel_rfl) (by kernel_rfl) (fun _ _ _ h => h) (Or.inl ⟨by rfl, ?obhy2⟩) hHeld ?obr2
          case obhy2 => (intro w hSw; (try dsimp only at hSw); go_simp; (try with_reducible rfl))
          (try simp only [Act.put, List.setIfInBounds_toArray, List.set_cons_zero, List.set_cons_succ])
          refine wpAnyH_take (i := 3) (oi := ⟨some 69, _, _, _, _, _⟩) (v := (.slice (some ⟨go, 0, none⟩) nr nr)) rfl (by kernel_rfl) (by kernel_rfl) (by kernel_rfl) (fun _ _ _ h => h) (kn_yields_cell (by rfl) 88 _ rfl gk 12 rfl _ (fun _ h => h.2) _ Tryz.underlying88 rfl) hHeld ?obr3
          (try simp only [Act.put, List.setIfInBounds_toArray, List.set_cons_zero, List.set_cons_succ])
          refine wpAnyH_take (i := 4) (oi := ⟨some 70, _, _, _, _, _⟩) (v := ?obv4) rfl (by kernel_rfl) (by kernel_rfl) (by kernel_rfl) (fun _ _ _ h => h) (Or.inl ⟨by rfl, ?obhy4⟩) hHeld ?obr4
          case obhy4 => (intro w hSw; (try dsimp only at hSw); go_simp; (try with_reducible rfl))
          (try simp only [Act.put, List.setIfInBounds_toArray, List.set_cons_zero, List.set_cons_succ])
          refine wpAnyH_take (i := 5) (oi := ⟨some 71, _, _, _, _, _⟩) (v := ?obv5) rfl (by kernel_rfl) (by kernel_rfl) (by kernel_rfl) (fun _ _ _ h => h) (Or.inl ⟨by rfl, ?obhy5⟩) hHeld ?obr5
          case obhy5 => (intro w hSw; (try dsimp only at hSw); go_simp; (try with_reducible rfl))
          (try simp only [Act.put, List.setIfInBounds_toArray, List.set_cons_zero, List.set_cons_succ])
          refine wpAnyH_take (i := 6) (oi := ⟨some 72, _, _, _, _, _⟩) (v := (.agg #[.int .i64 b0, .int .i64 kb, .bool d0])) rfl (by kernel_rfl) (by kernel_rfl) (by kernel_rfl) (fun _ _ _ h => h) (kn_yieldsN (by rfl) 57 _ rfl g7 0 rfl _ 57 (fun _ h => h.1) #[.int .i64 b0, .int .i64 kb, .bool d0] rfl _ Tryz.underlying57 rfl (by kernel_rfl)) hHeld ?obr6
          (try simp only [Act.put, List.setIfInBounds_toArray, List.set_cons_zero, List.set_cons_succ])
          refine wpAnyH_take (i := 7) (oi := ⟨some 73, _, _, _, _, _⟩) (v := ?obv7) rfl (by kernel_rfl) (by kernel_rfl) (by kernel_rfl) (fun _ _ _ h => h) (Or.inl ⟨by rfl, ?obhy7⟩) hHeld ?obr7
          case obhy7 => (intro w hSw; (try dsimp only at hSw); go_simp; (try with_reducible rfl))
          (try simp only [Act.put, List.setIfInBounds_toArray, List.set_cons_zero, List.set_cons_succ])
          refine wpAnyH_ready (rs := [8]) (by kernel_rfl) (by simp) ?obc8
          refine AllReadyH.cons (o := ⟨some 74, _, _, _, _, _⟩) rfl (fun K hK => ?obst8) AllReadyH.nil
          go_simp
          (refine (ONew_any _ b0 kb d0 _).mono ?_; rintro e wx ⟨pa, rfl, hb1⟩; replace KN := KN.below hb1; clear hb1)
          refine hK.out _ _ ?obk8 (fun hHeld2 => ?obm8)
          case obk8 => exact ⟨KN.at_ (by repeat (first | exact Has.here | refine Has.there ?_)), (KN.old lgk (by simp; exact hgk)).trans HK12.out⟩
          clear hK K hHeld
          have hHeld := hHeld2; clear hHeld2
          (try simp only [Act.put, List.setIfInBounds_toArray, List.set_cons_zero, List.set_cons_succ])
          refine wpAnyH_take (i := 9) (oi := ⟨some 75, _, _, _, _, _⟩) (v := ?obv9) rfl (by kernel_rfl) (by kernel_rfl) (by kernel_rfl) (fun _ _ _ h => h) (Or.inl ⟨by rfl, ?obhy9⟩) hHeld ?obr9
          case obhy9 => (intro w hSw; (try dsimp only at hSw); go_simp; (try with_reducible rfl))
          (try simp only [Act.put, List.setIfInBounds_toArray, List.set_cons_zero, List.set_cons_succ])
          refine wpAnyH_ready (rs := [10]) (by kernel_rfl) (by simp) ?obc10
          refine AllReadyH.cons (o := ⟨none, _, _, _, _, _⟩) rfl (fun K hK => ?obst10) AllReadyH.nil
          (rw [if_pos (by rfl)]; refine wp_kn_store1 KN 133 _ _ rfl go k rfl (.pointer (some pa)) rfl rfl _ 133 (by repeat (first | exact Repl.here | apply Repl.there)) (by rw [Array.size_setIfInBounds, HCS.out]; omega) (by kernel_rfl) (by rfl) ?_; clear KN; intro wx KN)
          refine hK.out _ _ ?obk10 (fun hHeld2 => ?obm10)
          case obk10 => exact ⟨KN.at_ (by repeat (first | exact Has.here | refine Has.there ?_)), (KN.old lgk (by simp; exact hgk)).trans HK12.out⟩
          clear hK K hHeld
          have hHeld := hHeld2; clear hHeld2
          (try simp only [Act.put, List.setIfInBounds_toArray, List.set_cons_zero, List.set_cons_succ])
          refine wpAnyH_done (by kernel_rfl) ?obdone _
          go_wp2_with fail
          go_roundw
          case rel => exact ⟨k + 1, _, by go_num, by omega, by rw [Array.size_setIfInBounds, Array.size_setIfInBounds]; exact HCS.out, (HPT.out.set _ _).set _ _, KN.drop .here⟩
          case measure => simp [intOf]; omega
      · have e6 : (o != core) = true := by simp [hoc]
        clear hoc
        refine wp_region_held_drew (S := (fun w' => BlkT w' g4 #[.int .i64 num, .slice va nm vc, .slice (some ⟨g2, off2, none⟩) nr occ] 63 ∧ w'.cell? ⟨g2, off2 + k, none⟩ = some (.int .i64 o) ∧ w'.cell? ⟨gk, 0, none⟩ = some (.int .i64 core))) (by kernel_rfl) ?ochS (fun hHeld => ?ocrest)
        case ochS => exact ⟨KN.at_ (by repeat (first | exact Has.here | refine Has.there ?_)), (KN.old hg2 (by simp; exact hne2)).trans HOC.out, (KN.old lgk (by simp; exact hgk)).trans HK0.out⟩
        refine wpAnyH_take (i := 0) (oi := ⟨some 28, _, _, _, _, _⟩) (v := ?ocv0) rfl (by kernel_rfl) (by kernel_rfl) (by kernel_rfl) (fun _ _ _ h => h) (Or.inl ⟨by rfl, ?ochy0⟩) hHeld ?ocr0
        case ochy0 => (intro w hSw; (try dsimp only at hSw); go_simp; (try with_reducible rfl))
        (try simp only [Act.put, List.setIfInBounds_toArray, List.set_cons_zero, List.set_cons_succ])
        refine wpAnyH_take (i := 1) (oi := ⟨some 29, _, _, _, _, _⟩) (v := ?ocv1) rfl (by kernel_rfl) (by kernel_rfl) (by kernel_rfl) (fun _ _ _ h => h) (Or.inl ⟨by rfl, ?ochy1⟩) hHeld ?ocr1
        case ochy1 => (intro w hSw; (try dsimp only at hSw); go_simp; (try with_reducible rfl))
        (try simp only [Act.put, List.setIfInBounds_toArray, List.set_cons_zero, List.set_cons_succ])
        refine wpAnyH_take (i := 2) (oi := ⟨some 30, _, _, _, _, _⟩) (v := (.slice (some ⟨g2, off2, none⟩) nr occ)) rfl (by kernel_rfl) (by kernel_rfl) (by kernel_rfl) (fun _ _ _ h => h) (kn_yields1 (by rfl) 22 _ rfl g4 2 rfl _ 63 (fun _ h => h.1) _ rfl _ Tryz.underlying22 rfl) hHeld ?ocr2
        (try simp only [Act.put, List.setIfInBounds_toArray, List.set_cons_zero, List.set_cons_succ])
        refine wpAnyH_take (i := 3) (oi := ⟨some 31, _, _, _, _, _⟩) (v := ?ocv3) rfl (by kernel_rfl) (by kernel_rfl) (by kernel_rfl) (fun _ _ _ h => h) (Or.inl ⟨by rfl, ?ochy3⟩) hHeld ?ocr3
        case ochy3 => (intro w hSw; (try dsimp only at hSw); go_simp; (try with_reducible rfl))
        (try simp only [Act.put, List.setIfInBounds_toArray, List.set_cons_zero, List.set_cons_succ])
        refine wpAnyH_take (i := 4) (oi := ⟨some 32, _, _, _, _, _⟩) (v := ?ocv4) rfl (by kernel_rfl) (by kernel_rfl) (by kernel_rfl) (fun _ _ _ h => h) (Or.inl ⟨by rfl, ?ochy4⟩) hHeld ?ocr4
        case ochy4 => (intro w hSw; (try dsimp only at hSw); go_simp; (try with_reducible rfl))
        (try simp only [Act.put, List.setIfInBounds_toArray, List.set_cons_zero, List.set_cons_succ])
        refine wpAnyH_take (i := 5) (oi := ⟨some 33, _, _, _, _, _⟩) (v := ?ocv5) rfl (by kernel_rfl) (by kernel_rfl) (by kernel_rfl) (fun _ _ _ h => h) (Or.inl ⟨by rfl, ?ochy5⟩) hHeld ?ocr5
        case ochy5 => (intro w hSw; (try dsimp only at hSw); go_simp; (try with_reducible rfl))
        (try simp only [Act.put, List.setIfInBounds_toArray, List.set_cons_zero, List.set_cons_succ])
        refine wpAnyH_take (i := 6) (oi := ⟨some 34, _, _, _, _, _⟩) (v := ?ocv6) rfl (by kernel_rfl) (by kernel_rfl) (by kernel_rfl) (fun _ _ _ h => h) (Or.inl ⟨by rfl, ?ochy6⟩) hHeld ?ocr6
        case ochy6 => (intro w hSw; (try dsimp only at hSw); go_simp; (try with_reducible rfl))
        (try simp only [Act.put, List.setIfInBounds_toArray, List.set_cons_zero, List.set_cons_succ])
        refine wpAnyH_take (i := 7) (oi := ⟨some 35, _, _, _, _, _⟩) (v := (.slice (some ⟨g2, off2, none⟩) nr occ)) rfl (by kernel_rfl) (by kernel_rfl) (by kernel_rfl) (fun _ _ _ h => h) (kn_yields1 (by rfl) 22 _ rfl g4 2 rfl _ 63 (fun _ h => h.1) _ rfl _ Tryz.underlying22 rfl) hHeld ?ocr7
        (try simp only [Act.put, List.setIfInBounds_toArray, List.set_cons_zero, List.set_cons_succ])
        refine wpAnyH_take (i := 8) (oi := ⟨some 36, _, _, _, _, _⟩) (v := ?ocv8) rfl (by kernel_rfl) (by kernel_rfl) (by kernel_rfl) (fun _ _ _ h => h) (Or.inl ⟨by rfl, ?ochy8⟩) hHeld ?ocr8
        case ochy8 => (intro w hSw; (try dsimp only at hSw); go_simp; (try with_reducible rfl))
        (try simp only [Act.put, List.setIfInBounds_toArray, List.set_cons_zero, List.set_cons_succ])
        refine wpAnyH_take (i := 9) (oi := ⟨some 37, _, _, _, _, _⟩) (v := ?ocv9) rfl (by kernel_rfl) (by kernel_rfl) (by kernel_rfl) (fun _ _ _ h => h) (Or.inl ⟨by rfl, ?ochy9⟩) hHeld ?ocr9
        case ochy9 => (intro w hSw; (try dsimp only at hSw); go_simp; (try with_reducible rfl))
        (try simp only [Act.put, List.setIfInBounds_toArray, List.set_cons_zero, List.set_cons_succ])
        refine wpAnyH_take (i := 10) (oi := ⟨some 38, _, _, _, _, _⟩) (v := (.int .i64 o)) rfl (by kernel_rfl) (by kernel_rfl) (by kernel_rfl) (fun _ _ _ h => h) (kn_yields_cell (by rfl) 3 _ rfl g2 _ rfl _ (fun _ h => h.2.1) _ Tryz.underlying3 rfl) hHeld ?ocr10
        (try simp only [Act.put, List.setIfInBounds_toArray, List.set_cons_zero, List.set_cons_succ])
        refine wpAnyH_take (i := 11) (oi := ⟨some 39, _, _, _, _, _⟩) (v := ?ocv11) rfl (by kernel_rfl) (by kernel_rfl) (by kernel_rfl) (fun _ _ _ h => h) (Or.inl ⟨by rfl, ?ochy11⟩) hHeld ?ocr11
        case ochy11 => (intro w hSw; (try dsimp only at hSw); go_simp; (try with_reducible rfl))
        (try simp only [Act.put, List.setIfInBounds_toArray, List.set_cons_zero, List.set_cons_succ])
        refine wpAnyH_take (i := 12) (oi := ⟨some 40, _, _, _, _, _⟩) (v := ?ocv12) rfl (by kernel_rfl) (by kernel_rfl) (by kernel_rfl) (fun _ _ _ h => h) (Or.inl ⟨by rfl, ?ochy12⟩) hHeld ?ocr12
        case ochy12 => (intro w hSw; (try dsimp only at hSw); go_simp; (try with_reducible rfl))
        (try simp only [Act.put, List.setIfInBounds_toArray, List.set_cons_zero, List.set_cons_succ])
        refine wpAnyH_take (i := 13) (oi := ⟨some 41, _, _, _, _, _⟩) (v := ?ocv13) rfl (by kernel_rfl) (by kernel_rfl) (by kernel_rfl) (fun _ _ _ h => h) (Or.inl ⟨by rfl, ?ochy13⟩) hHeld ?ocr13
        case ochy13 => (intro w hSw; (try dsimp only at hSw); go_simp; (try with_reducible rfl))
        (try simp only [Act.put, List.setIfInBounds_toArray, List.set_cons_zero, List.set_cons_succ])
        refine wpAnyH_take (i := 14) (oi := ⟨some 42, _, _, _, _, _⟩) (v := (.int .i64 core)) rfl (by kernel_rfl) (by kernel_rfl) (by kernel_rfl) (fun _ _ _ h => h) (kn_yields_cell (by rfl) 3 _ rfl gk 0 rfl _ (fun _ h => h.2.2) _ Tryz.underlying3 rfl) hHeld ?ocr14
        (try simp only [Act.put, List.setIfInBounds_toArray, List.set_cons_zero, List.set_cons_succ])
        refine wpAnyH_take (i := 15) (oi := ⟨some 43, _, _, _, _, _⟩) (v := ?ocv15) rfl (by kernel_rfl) (by kernel_rfl) (by kernel_rfl) (fun _ _ _ h => h) (Or.inl ⟨by rfl, ?ochy15⟩) hHeld ?ocr15
        case ochy15 => (intro w hSw; (try dsimp only at hSw); go_simp; (try with_reducible rfl))
        (try simp only [Act.put, List.setIfInBounds_toArray, List.set_cons_zero, List.set_cons_succ])
        refine wpAnyH_take (i := 16) (oi := ⟨some 44, _, _, _, _, _⟩) (v := ?ocv16) rfl (by kernel_rfl) (by kernel_rfl) (by kernel_rfl) (fun _ _ _ h => h) (Or.inl ⟨by rfl, ?ochy16⟩) hHeld ?ocr16
        case ochy16 => (intro w hSw; (try dsimp only at hSw); go_simp; (try with_reducible rfl))
        (try simp only [Act.put, List.setIfInBounds_toArray, List.set_cons_zero, List.set_cons_succ])
        refine wpAnyH_done (by kernel_rfl) ?ocdone _
        go_wp2_with fail
        go_roundw
        case rel => exact ⟨k + 1, _, by go_num, by omega, by rw [Array.size_setIfInBounds]; exact HCS.out, HPT.out.set _ _, KN.drop .here⟩
        case measure => simp [intOf]; omega
    · obtain rfl : nr = k := by omega
      go_wp2_with fail
      refine bodyPost_ret (results_none rfl _ _ _) rfl ?_
      exact ⟨rfl, cs, HCS.out, HPT.out, KN.drop .here⟩
end Go.Proofs.YtlhmeeidlhpodaaGreat
