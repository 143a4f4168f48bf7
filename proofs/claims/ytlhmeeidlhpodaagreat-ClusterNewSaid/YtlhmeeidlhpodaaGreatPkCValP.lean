/- capmachine.ValidConfig: valid configurations. -/
import Derived.Test.YtlhmeeidlhpodaaGreatPkClB
set_option linter.unusedVariables false
set_option linter.unusedSimpArgs false
set_option linter.unusedSectionVars false
namespace Go.Proofs.YtlhmeeidlhpodaaGreat
open Go.RowKit Go.BigFrame
def VOut (c : Cfg) (w : World) (e : Ending) (w' : World) : Prop := ∃ b, e = .returned (.bool b) ∧ (b = true ↔ ValidC c) ∧ Below w.heap.size w w'
theorem VOut.no {c : Cfg} {w w' : World} (h : ¬ ValidC c) (hb : Below w.heap.size w w') : VOut c w (.returned (.bool false)) w' := ⟨false, rfl, ⟨fun q => (by cases q), fun q => absurd q h⟩, hb⟩
theorem VOut.yes {c : Cfg} {w w' : World} (h : ValidC c) (hb : Below w.heap.size w w') : VOut c w (.returned (.bool true)) w' := ⟨true, rfl, ⟨fun _ => h, fun _ => rfl⟩, hb⟩
def WidOk (c : Cfg) (k : Nat) : Prop := ∀ (j : Nat) (x : Int), j < k → c.ws[j]? = some x → x = 32 ∨ x = 39
theorem WidOk.zero (c : Cfg) : WidOk c 0 := fun _ _ h => absurd h (Nat.not_lt_zero _)
theorem WidOk.succ {c : Cfg} {k : Nat} (h : WidOk c k) {x : Int} (hx : c.ws[k]? = some x) (h1 : x = 32 ∨ x = 39) : WidOk c (k + 1) := fun j y hj hy => by
  rcases Nat.lt_or_ge j k with q | q
  · exact h j y q hy
  · obtain rfl : j = k := by omega
    rw [hx] at hy; cases hy; exact h1
theorem WidOk.all {c : Cfg} {k : Nat} (h : WidOk c k) (hk : k = c.ws.length) : ∀ x ∈ c.ws, x = 32 ∨ x = 39 := fun x hx => by
  obtain ⟨j, hj, rfl⟩ := List.mem_iff_getElem.1 hx
  exact h j _ (by omega) (List.getElem?_eq_getElem hj)
def WLoop (c : Cfg) (cells : Array Value) (g n : Nat) (w : World) (i : Value) (wr : World) : Prop := ∃ k : Nat, i = .int .i64 (k : Int) ∧ k ≤ n ∧ WidOk c k ∧ Kn [] w wr [(g, At cells 25)]
def GLoop (c : Cfg) (cells : Array Value) (g n : Nat) (w : World) (i : Value) (wr : World) : Prop := ∃ k : Nat, i = .int .i64 (k : Int) ∧ k ≤ n ∧ RegsOk c k ∧ Kn [] w wr [(g, At cells 25)]
/-- The region r overlaps none of the first k. -/
def NoOv (c : Cfg) (r : Reg) (k : Nat) : Prop := ∀ (j : Nat) (s : Reg), j < k → c.rs[j]? = some s → ¬ ovlR r s
theorem NoOv.succ {c : Cfg} {r s : Reg} {k : Nat} (h : NoOv c r k) (hs : c.rs[k]? = some s) (h1 : ¬ ovlR r s) : NoOv c r (k + 1) := fun j y hj hy => by
  rcases Nat.lt_or_ge j k with q | q
  · exact h j y q hy
  · obtain rfl : j = k := by omega
    rw [hs] at hy; cases hy; exact h1
def OLoop (c : Cfg) (r : Reg) (cells : Array Value) (g gr n : Nat) (w : World) (i : Value) (wr : World) : Prop := ∃ k : Nat, i = .int .i64 (k : Int) ∧ k ≤ n ∧ NoOv c r k ∧ Kn [] w wr [(gr, At #[.int .i64 r.1, .int .i64 r.2.1, .bool r.2.2] 57), (g, At cells 25)]
set_option maxRecDepth 100000 in
set_option maxHeartbeats 16000000 in
theorem PValidC_any {w : World} {sw sr so : Value} {c : Cfg} (h : CfgRd w sw sr so c) : Calls Tryz.prog 37 #[.agg #[sw, .int .i64 c.st, .int .i64 c.sl, sr, so]] w (VOut c w) := by
  have KN := Kn.start w
  have HC := Lib.hid h
  obtain ⟨wa, wc, rfl, hwm, hwf⟩ := ints_form h.rw_
  obtain ⟨ra, rc, rfl, hrm, hrf⟩ := reg_at h.rr
  obtain ⟨oa, oc, rfl, hom, hof⟩ := ints_form h.ro
  have HWF := Lib.hid hwf
  have HRF := Lib.hid hrf
  have HOF := Lib.hid hof
  obtain ⟨st0, st1⟩ := h.ist
  obtain ⟨sl0, sl1⟩ := h.isl
  obtain ⟨st, hst⟩ : ∃ x, x = c.st := ⟨_, rfl⟩
  obtain ⟨sl, hsl⟩ : ∃ x, x = c.sl := ⟨_, rfl⟩
  obtain ⟨nw, hnw⟩ : ∃ n, n = c.ws.length := ⟨_, rfl⟩
  obtain ⟨nr, hnr⟩ : ∃ n, n = c.rs.length := ⟨_, rfl⟩
  obtain ⟨no, hno⟩ : ∃ n, n = c.os.length := ⟨_, rfl⟩
  have HST := Lib.hid hst
  have HSL := Lib.hid hsl
  have HNW := Lib.hid hnw
  have HNR := Lib.hid hnr
  have HNO := Lib.hid hno
  rw [← hst] at st0 st1 ⊢
  rw [← hsl] at sl0 sl1 ⊢
  rw [← hnw] at hwm ⊢
  rw [← hnr] at hrm ⊢
  rw [← hno] at hom ⊢
  unfold maxLen at hwm hrm hom
  clear h hwf hrf hof hst hsl hnw hnr hno
  have HV : Hid (ValidC c → 1 ≤ nw ∧ nw ≤ 32 ∧ 1 ≤ st ∧ st ≤ nw ∧ 1 ≤ sl ∧ sl ≤ 64 ∧ nr ≤ 16 ∧ no = nr) := Lib.hid fun q => ⟨by rw [HNW.out]; exact q.head.w1, by rw [HNW.out]; exact q.head.w2, by rw [HST.out]; exact q.head.s1, by rw [HST.out, HNW.out]; exact q.head.s2, by rw [HSL.out]; exact q.head.l1, by rw [HSL.out]; exact q.head.l2, by rw [HNR.out]; exact q.head.r1, by rw [HNO.out, HNR.out]; exact q.head.o1⟩
  by_cases h0 : (nw : Int) < 1
  · have HF : Hid (¬ ValidC c) := Lib.hid fun q => by have := HV.out q; omega
    have e0 : decide ((nw : Int) < 1) = true := decide_eq_true h0
    go_enter Tryz.func37, Tryz.ntmps37
    go_wp2_with (first | ((with_reducible refine wpList_gate ?_); first | ((with_reducible refine gate_load ?_ ?_); rfl; first | (refine ks_load1 KN 22 Tryz.underlying22 ?_) | (refine ks_load1 KN 3 Tryz.underlying3 ?_) | (refine ks_load1 KN 23 Tryz.underlying23 ?_) | (refine ks_loadW KN 57 Tryz.underlying57 ?_)) | ((with_reducible refine gate_store ?_ ?_); rfl; first | (refine ks_storeW KN 57 ?_; clear KN; intro wx KN) | (refine ks_storeA KN 57 ?_; clear KN; intro wx KN)) | ((with_reducible refine gate_new ?_ ?_); rfl; first | (refine ks_boxA KN 25 (q := 1) ?_; clear KN; intro g1 wx hg1 KN) | (refine ks_alloc KN 57 (q := 6) #[.int .i64 0, .int .i64 0, .bool false] ?_; clear KN; intro g6 wx hg6 KN) | (refine ks_alloc KN 57 (q := 8) #[.int .i64 0, .int .i64 0, .bool false] ?_; clear KN; intro g8 wx hg8 KN))))
    go_ret
    exact VOut.no HF.out KN.toBelow
  have e0 : decide ((nw : Int) < 1) = false := decide_eq_false h0
  by_cases h1 : (32 : Int) < (nw : Int)
  · have HF : Hid (¬ ValidC c) := Lib.hid fun q => by have := HV.out q; omega
    have e1 : decide ((32 : Int) < (nw : Int)) = true := decide_eq_true h1
    go_enter Tryz.func37, Tryz.ntmps37
    go_wp2_with (first | ((with_reducible refine wpList_gate ?_); first | ((with_reducible refine gate_load ?_ ?_); rfl; first | (refine ks_load1 KN 22 Tryz.underlying22 ?_) | (refine ks_load1 KN 3 Tryz.underlying3 ?_) | (refine ks_load1 KN 23 Tryz.underlying23 ?_) | (refine ks_loadW KN 57 Tryz.underlying57 ?_)) | ((with_reducible refine gate_store ?_ ?_); rfl; first | (refine ks_storeW KN 57 ?_; clear KN; intro wx KN) | (refine ks_storeA KN 57 ?_; clear KN; intro wx KN)) | ((with_reducible refine gate_new ?_ ?_); rfl; first | (refine ks_boxA KN 25 (q := 1) ?_; clear KN; intro g1 wx hg1 KN) | (refine ks_alloc KN 57 (q := 6) #[.int .i64 0, .int .i64 0, .bool false] ?_; clear KN; intro g6 wx hg6 KN) | (refine ks_alloc KN 57 (q := 8) #[.int .i64 0, .int .i64 0, .bool false] ?_; clear KN; intro g8 wx hg8 KN))))
    go_ret
    exact VOut.no HF.out KN.toBelow
  have e1 : decide ((32 : Int) < (nw : Int)) = false := decide_eq_false h1
  by_cases h2 : st < 1
  · have HF : Hid (¬ ValidC c) := Lib.hid fun q => by have := HV.out q; omega
    have e2 : decide (st < 1) = true := decide_eq_true h2
    go_enter Tryz.func37, Tryz.ntmps37
    go_wp2_with (first | ((with_reducible refine wpList_gate ?_); first | ((with_reducible refine gate_load ?_ ?_); rfl; first | (refine ks_load1 KN 22 Tryz.underlying22 ?_) | (refine ks_load1 KN 3 Tryz.underlying3 ?_) | (refine ks_load1 KN 23 Tryz.underlying23 ?_) | (refine ks_loadW KN 57 Tryz.underlying57 ?_)) | ((with_reducible refine gate_store ?_ ?_); rfl; first | (refine ks_storeW KN 57 ?_; clear KN; intro wx KN) | (refine ks_storeA KN 57 ?_; clear KN; intro wx KN)) | ((with_reducible refine gate_new ?_ ?_); rfl; first | (refine ks_boxA KN 25 (q := 1) ?_; clear KN; intro g1 wx hg1 KN) | (refine ks_alloc KN 57 (q := 6) #[.int .i64 0, .int .i64 0, .bool false] ?_; clear KN; intro g6 wx hg6 KN) | (refine ks_alloc KN 57 (q := 8) #[.int .i64 0, .int .i64 0, .bool false] ?_; clear KN; intro g8 wx hg8 KN))))
    go_ret
    exact VOut.no HF.out KN.toBelow
  have e2 : decide (st < 1) = false := decide_eq_false h2
  by_cases h3 : (nw : Int) < st
  · have HF : Hid (¬ ValidC c) := Lib.hid fun q => by have := HV.out q; omega
    have e3 : decide ((nw : Int) < st) = true := decide_eq_true h3
    go_enter Tryz.func37, Tryz.ntmps37
    go_wp2_with (first | ((with_reducible refine wpList_gate ?_); first | ((with_reducible refine gate_load ?_ ?_); rfl; first | (refine ks_load1 KN 22 Tryz.underlying22 ?_) | (refine ks_load1 KN 3 Tryz.underlying3 ?_) | (refine ks_load1 KN 23 Tryz.underlying23 ?_) | (refine ks_loadW KN 57 Tryz.underlying57 ?_)) | ((with_reducible refine gate_store ?_ ?_); rfl; first | (refine ks_storeW KN 57 ?_; clear KN; intro wx KN) | (refine ks_storeA KN 57 ?_; clear KN; intro wx KN)) | ((with_reducible refine gate_new ?_ ?_); rfl; first | (refine ks_boxA KN 25 (q := 1) ?_; clear KN; intro g1 wx hg1 KN) | (refine ks_alloc KN 57 (q := 6) #[.int .i64 0, .int .i64 0, .bool false] ?_; clear KN; intro g6 wx hg6 KN) | (refine ks_alloc KN 57 (q := 8) #[.int .i64 0, .int .i64 0, .bool false] ?_; clear KN; intro g8 wx hg8 KN))))
    go_ret
    exact VOut.no HF.out KN.toBelow
  have e3 : decide ((nw : Int) < st) = false := decide_eq_false h3
  by_cases h4 : sl < 1
  · have HF : Hid (¬ ValidC c) := Lib.hid fun q => by have := HV.out q; omega
    have e4 : decide (sl < 1) = true := decide_eq_true h4
    go_enter Tryz.func37, Tryz.ntmps37
    go_wp2_with (first | ((with_reducible refine wpList_gate ?_); first | ((with_reducible refine gate_load ?_ ?_); rfl; first | (refine ks_load1 KN 22 Tryz.underlying22 ?_) | (refine ks_load1 KN 3 Tryz.underlying3 ?_) | (refine ks_load1 KN 23 Tryz.underlying23 ?_) | (refine ks_loadW KN 57 Tryz.underlying57 ?_)) | ((with_reducible refine gate_store ?_ ?_); rfl; first | (refine ks_storeW KN 57 ?_; clear KN; intro wx KN) | (refine ks_storeA KN 57 ?_; clear KN; intro wx KN)) | ((with_reducible refine gate_new ?_ ?_); rfl; first | (refine ks_boxA KN 25 (q := 1) ?_; clear KN; intro g1 wx hg1 KN) | (refine ks_alloc KN 57 (q := 6) #[.int .i64 0, .int .i64 0, .bool false] ?_; clear KN; intro g6 wx hg6 KN) | (refine ks_alloc KN 57 (q := 8) #[.int .i64 0, .int .i64 0, .bool false] ?_; clear KN; intro g8 wx hg8 KN))))
    go_ret
    exact VOut.no HF.out KN.toBelow
  have e4 : decide (sl < 1) = false := decide_eq_false h4
  by_cases h5 : 64 < sl
  · have HF : Hid (¬ ValidC c) := Lib.hid fun q => by have := HV.out q; omega
    have e5 : decide (64 < sl) = true := decide_eq_true h5
    go_enter Tryz.func37, Tryz.ntmps37
    go_wp2_with (first | ((with_reducible refine wpList_gate ?_); first | ((with_reducible refine gate_load ?_ ?_); rfl; first | (refine ks_load1 KN 22 Tryz.underlying22 ?_) | (refine ks_load1 KN 3 Tryz.underlying3 ?_) | (refine ks_load1 KN 23 Tryz.underlying23 ?_) | (refine ks_loadW KN 57 Tryz.underlying57 ?_)) | ((with_reducible refine gate_store ?_ ?_); rfl; first | (refine ks_storeW KN 57 ?_; clear KN; intro wx KN) | (refine ks_storeA KN 57 ?_; clear KN; intro wx KN)) | ((with_reducible refine gate_new ?_ ?_); rfl; first | (refine ks_boxA KN 25 (q := 1) ?_; clear KN; intro g1 wx hg1 KN) | (refine ks_alloc KN 57 (q := 6) #[.int .i64 0, .int .i64 0, .bool false] ?_; clear KN; intro g6 wx hg6 KN) | (refine ks_alloc KN 57 (q := 8) #[.int .i64 0, .int .i64 0, .bool false] ?_; clear KN; intro g8 wx hg8 KN))))
    go_ret
    exact VOut.no HF.out KN.toBelow
  have e5 : decide (64 < sl) = false := decide_eq_false h5
  by_cases h6 : (16 : Int) < (nr : Int)
  · have HF : Hid (¬ ValidC c) := Lib.hid fun q => by have := HV.out q; omega
    have e6 : decide ((16 : Int) < (nr : Int)) = true := decide_eq_true h6
    go_enter Tryz.func37, Tryz.ntmps37
    go_wp2_with (first | ((with_reducible refine wpList_gate ?_); first | ((with_reducible refine gate_load ?_ ?_); rfl; first | (refine ks_load1 KN 22 Tryz.underlying22 ?_) | (refine ks_load1 KN 3 Tryz.underlying3 ?_) | (refine ks_load1 KN 23 Tryz.underlying23 ?_) | (refine ks_loadW KN 57 Tryz.underlying57 ?_)) | ((with_reducible refine gate_store ?_ ?_); rfl; first | (refine ks_storeW KN 57 ?_; clear KN; intro wx KN) | (refine ks_storeA KN 57 ?_; clear KN; intro wx KN)) | ((with_reducible refine gate_new ?_ ?_); rfl; first | (refine ks_boxA KN 25 (q := 1) ?_; clear KN; intro g1 wx hg1 KN) | (refine ks_alloc KN 57 (q := 6) #[.int .i64 0, .int .i64 0, .bool false] ?_; clear KN; intro g6 wx hg6 KN) | (refine ks_alloc KN 57 (q := 8) #[.int .i64 0, .int .i64 0, .bool false] ?_; clear KN; intro g8 wx hg8 KN))))
    go_ret
    exact VOut.no HF.out KN.toBelow
  have e6 : decide ((16 : Int) < (nr : Int)) = false := decide_eq_false h6
  by_cases h8 : no = nr
  · subst h8
    have hne : ((no : Int) != (no : Int)) = false := by simp
    go_enter Tryz.func37, Tryz.ntmps37
    go_wp2_with (first | ((with_reducible refine wpList_gate ?_); first | ((with_reducible refine gate_load ?_ ?_); rfl; first | (refine ks_load1 KN 22 Tryz.underlying22 ?_) | (refine ks_load1 KN 3 Tryz.underlying3 ?_) | (refine ks_load1 KN 23 Tryz.underlying23 ?_) | (refine ks_loadW KN 57 Tryz.underlying57 ?_)) | ((with_reducible refine gate_store ?_ ?_); rfl; first | (refine ks_storeW KN 57 ?_; clear KN; intro wx KN) | (refine ks_storeA KN 57 ?_; clear KN; intro wx KN)) | ((with_reducible refine gate_new ?_ ?_); rfl; first | (refine ks_boxA KN 25 (q := 1) ?_; clear KN; intro g1 wx hg1 KN) | (refine ks_alloc KN 57 (q := 6) #[.int .i64 0, .int .i64 0, .bool false] ?_; clear KN; intro g6 wx hg6 KN) | (refine ks_alloc KN 57 (q := 8) #[.int .i64 0, .int .i64 0, .bool false] ?_; clear KN; intro g8 wx hg8 KN))))
    go_loopw [60] (fun i wr => WLoop c #[.slice wa nw wc, .int .i64 st, .int .i64 sl, .slice ra no rc, .slice oa no oc] g1 nw w i wr) (fun i _ => nw - (intOf i).toNat)
    case atStart => exact ⟨0, rfl, Nat.zero_le _, WidOk.zero c, KN⟩
    case round =>
      clear KN
      obtain ⟨k, rfl, hk, hwid, KN⟩ := hrel
      have HWID := Lib.hid hwid
      clear hwid
      by_cases hlt : k < nw
      · obtain ⟨x, hx⟩ : ∃ x, c.ws[k]? = some x := ⟨_, List.getElem?_eq_getElem (by rw [← HNW.out]; exact hlt)⟩
        obtain ⟨g, off, rfl, hg, hc1, hc2, hcell⟩ := HWF.out k x hx
        rw [← HNW.out] at hc1
        unfold maxLen at hc2
        have HX := Lib.hid hcell
        have HXX := Lib.hid hx
        clear hcell hx
        by_cases x32 : x = 32
        · subst x32
          go_wp2_with (first | ((with_reducible refine wpList_gate ?_); first | ((with_reducible refine gate_load ?_ ?_); rfl; first | (refine wpList_kn_old1 KN (by rfl) 3 _ rfl g _ rfl _ HX.out (by simp) _ Tryz.underlying3 rfl ?_) | (refine ks_load1 KN 22 Tryz.underlying22 ?_) | (refine ks_load1 KN 3 Tryz.underlying3 ?_) | (refine ks_load1 KN 23 Tryz.underlying23 ?_) | (refine ks_loadW KN 57 Tryz.underlying57 ?_)) | ((with_reducible refine gate_store ?_ ?_); rfl; first | (refine ks_storeW KN 57 ?_; clear KN; intro wx KN) | (refine ks_storeA KN 57 ?_; clear KN; intro wx KN)) | ((with_reducible refine gate_new ?_ ?_); rfl; first | (refine ks_boxA KN 25 (q := 1) ?_; clear KN; intro g1 wx hg1 KN) | (refine ks_alloc KN 57 (q := 6) #[.int .i64 0, .int .i64 0, .bool false] ?_; clear KN; intro g6 wx hg6 KN) | (refine ks_alloc KN 57 (q := 8) #[.int .i64 0, .int .i64 0, .bool false] ?_; clear KN; intro g8 wx hg8 KN))))
          go_roundw
          case rel => exact ⟨k + 1, by go_num, by omega, HWID.out.succ HXX.out (.inl rfl), KN⟩
          case measure => simp [intOf]; omega
        · have q32 : (x != 32) = true := by simp [x32]
          by_cases x39 : x = 39
          · subst x39
            go_wp2_with (first | ((with_reducible refine wpList_gate ?_); first | ((with_reducible refine gate_load ?_ ?_); rfl; first | (refine wpList_kn_old1 KN (by rfl) 3 _ rfl g _ rfl _ HX.out (by simp) _ Tryz.underlying3 rfl ?_) | (refine ks_load1 KN 22 Tryz.underlying22 ?_) | (refine ks_load1 KN 3 Tryz.underlying3 ?_) | (refine ks_load1 KN 23 Tryz.underlying23 ?_) | (refine ks_loadW KN 57 Tryz.underlying57 ?_)) | ((with_reducible refine gate_store ?_ ?_); rfl; first | (refine ks_storeW KN 57 ?_; clear KN; intro wx KN) | (refine ks_storeA KN 57 ?_; clear KN; intro wx KN)) | ((with_reducible refine gate_new ?_ ?_); rfl; first | (refine ks_boxA KN 25 (q := 1) ?_; clear KN; intro g1 wx hg1 KN) | (refine ks_alloc KN 57 (q := 6) #[.int .i64 0, .int .i64 0, .bool false] ?_; clear KN; intro g6 wx hg6 KN) | (refine ks_alloc KN 57 (q := 8) #[.int .i64 0, .int .i64 0, .bool false] ?_; clear KN; intro g8 wx hg8 KN))))
            go_roundw
            case rel => exact ⟨k + 1, by go_num, by omega, HWID.out.succ HXX.out (.inr rfl), KN⟩
            case measure => simp [intOf]; omega
          · have q39 : (x != 39) = true := by simp [x39]
            have HF : Hid (¬ ValidC c) := Lib.hid fun q => by rcases q.wid x (List.mem_of_getElem? HXX.out) with h | h <;> contradiction
            clear x32 x39
            go_wp2_with (first | ((with_reducible refine wpList_gate ?_); first | ((with_reducible refine gate_load ?_ ?_); rfl; first | (refine wpList_kn_old1 KN (by rfl) 3 _ rfl g _ rfl _ HX.out (by simp) _ Tryz.underlying3 rfl ?_) | (refine ks_load1 KN 22 Tryz.underlying22 ?_) | (refine ks_load1 KN 3 Tryz.underlying3 ?_) | (refine ks_load1 KN 23 Tryz.underlying23 ?_) | (refine ks_loadW KN 57 Tryz.underlying57 ?_)) | ((with_reducible refine gate_store ?_ ?_); rfl; first | (refine ks_storeW KN 57 ?_; clear KN; intro wx KN) | (refine ks_storeA KN 57 ?_; clear KN; intro wx KN)) | ((with_reducible refine gate_new ?_ ?_); rfl; first | (refine ks_boxA KN 25 (q := 1) ?_; clear KN; intro g1 wx hg1 KN) | (refine ks_alloc KN 57 (q := 6) #[.int .i64 0, .int .i64 0, .bool false] ?_; clear KN; intro g6 wx hg6 KN) | (refine ks_alloc KN 57 (q := 8) #[.int .i64 0, .int .i64 0, .bool false] ?_; clear KN; intro g8 wx hg8 KN))))
            go_ret
            exact VOut.no HF.out KN.toBelow
      · obtain rfl : nw = k := by omega
        have HWALL := Lib.hid (HWID.out.all HNW.out)
        go_wp2_with (first | ((with_reducible refine wpList_gate ?_); first | ((with_reducible refine gate_load ?_ ?_); rfl; first | (refine ks_load1 KN 22 Tryz.underlying22 ?_) | (refine ks_load1 KN 3 Tryz.underlying3 ?_) | (refine ks_load1 KN 23 Tryz.underlying23 ?_) | (refine ks_loadW KN 57 Tryz.underlying57 ?_)) | ((with_reducible refine gate_store ?_ ?_); rfl; first | (refine ks_storeW KN 57 ?_; clear KN; intro wx KN) | (refine ks_storeA KN 57 ?_; clear KN; intro wx KN)) | ((with_reducible refine gate_new ?_ ?_); rfl; first | (refine ks_boxA KN 25 (q := 1) ?_; clear KN; intro g1 wx hg1 KN) | (refine ks_alloc KN 57 (q := 6) #[.int .i64 0, .int .i64 0, .bool false] ?_; clear KN; intro g6 wx hg6 KN) | (refine ks_alloc KN 57 (q := 8) #[.int .i64 0, .int .i64 0, .bool false] ?_; clear KN; intro g8 wx hg8 KN))))
        go_loopw [74] (fun i wr => GLoop c #[.slice wa nw wc, .int .i64 st, .int .i64 sl, .slice ra no rc, .slice oa no oc] g1 no w i wr) (fun i _ => no - (intOf i).toNat)
        case atStart => exact ⟨0, rfl, Nat.zero_le _, RegsOk.zero c, KN⟩
        case round =>
          clear KN
          obtain ⟨k, rfl, hk, hreg, KN⟩ := hrel
          have HREG := Lib.hid hreg
          clear hreg
          by_cases hgt : k < no
          · obtain ⟨⟨b0, k0, d0⟩, hr⟩ : ∃ r, c.rs[k]? = some r := ⟨_, List.getElem?_eq_getElem (by rw [← HNR.out]; exact hgt)⟩
            obtain ⟨o, ho⟩ : ∃ o, c.os[k]? = some o := ⟨_, List.getElem?_eq_getElem (by rw [← HNO.out]; exact hgt)⟩
            obtain ⟨gr, offr, rfl, hgr, hr1, hr2, hrng⟩ := HRF.out k _ hr
            obtain ⟨go, offo, rfl, hgo, ho1, ho2, hocell⟩ := HOF.out k o ho
            rw [← HNR.out] at hr1
            rw [← HNO.out] at ho1
            unfold maxLen at hr2 ho2
            have HRR := Lib.hid hr
            have HOO := Lib.hid ho
            have HRNG := Lib.hid hrng
            have HOC := Lib.hid hocell
            have HB := Lib.hid (HC.out.irs _ (List.mem_of_getElem? hr)).1
            have HK := Lib.hid (HC.out.irs _ (List.mem_of_getElem? hr)).2
            obtain ⟨o64, o65⟩ := HC.out.ios _ (List.mem_of_getElem? ho)
            have HRO : Hid (ValidC c → okB b0 k0 ∧ 0 ≤ o ∧ o < st ∧ ∀ (j : Nat) (s : Reg), j < k → c.rs[j]? = some s → ¬ ovlB b0 k0 s.1 s.2.1) := Lib.hid fun q => by rw [HST.out]; exact q.regs.of HRR.out HOO.out
            clear hr ho hrng hocell
            go_upto_region 12 with (first | ((with_reducible refine wpList_gate ?_); first | ((with_reducible refine gate_load ?_ ?_); rfl; first | (refine wpList_kn_oldN KN (by rfl) 57 _ rfl gr _ rfl #[.int .i64 b0, .int .i64 k0, .bool d0] HRNG.out hgr (by simp) _ Tryz.underlying57 rfl (by kernel_rfl) ?_) | (refine ks_load1 KN 22 Tryz.underlying22 ?_) | (refine ks_load1 KN 3 Tryz.underlying3 ?_) | (refine ks_load1 KN 23 Tryz.underlying23 ?_) | (refine ks_loadW KN 57 Tryz.underlying57 ?_)) | ((with_reducible refine gate_store ?_ ?_); rfl; first | (refine ks_storeW KN 57 ?_; clear KN; intro wx KN) | (refine ks_storeA KN 57 ?_; clear KN; intro wx KN)) | ((with_reducible refine gate_new ?_ ?_); rfl; first | (refine ks_boxA KN 25 (q := 1) ?_; clear KN; intro g1 wx hg1 KN) | (refine ks_alloc KN 57 (q := 6) #[.int .i64 0, .int .i64 0, .bool false] ?_; clear KN; intro g6 wx hg6 KN) | (refine ks_alloc KN 57 (q := 8) #[.int .i64 0, .int .i64 0, .bool false] ?_; clear KN; intro g8 wx hg8 KN))))
            (try go_frame)
            replace KN := KN.drew
            replace KN := KN.as_ g6 #[.int .i64 b0, .int .i64 k0, .bool d0] (by repeat (first | exact Repl.here | apply Repl.there)) (by kernel_rfl)
            by_cases hok : okB b0 k0
            · have HD := Lib.hid (decide_eq_true hok)
              by_cases o0 : o < 0
              · have q0 : decide (o < 0) = true := decide_eq_true o0
                have HF : Hid (¬ ValidC c) := Lib.hid fun q => by have := (HRO.out q).2.1; omega
                refine wp_region_held_drew (S := (fun w' => BlkT w' g6 #[.int .i64 b0, .int .i64 k0, .bool d0] 57 ∧ BlkT w' g1 #[.slice wa nw wc, .int .i64 st, .int .i64 sl, .slice (some ⟨gr, offr, none⟩) no rc, .slice (some ⟨go, offo, none⟩) no oc] 25 ∧ w'.cell? ⟨go, offo + k, none⟩ = some (.int .i64 o))) (by kernel_rfl) ?rahS (fun hHeld => ?rarest)
                case rahS => exact ⟨KN.at_ (by repeat (first | exact Has.here | refine Has.there ?_)), KN.at_ (by repeat (first | exact Has.here | refine Has.there ?_)), (KN.old hgo (by simp)).trans HOC.out⟩
                refine wpAnyH_take (i := 0) (oi := ⟨some 79, _, _, _, _, _⟩) (v := (.agg #[.int .i64 b0, .int .i64 k0, .bool d0])) rfl (by kernel_rfl) (by kernel_rfl) (by kernel_rfl) (fun _ _ _ h => h) (kn_yieldsN (by rfl) 57 _ rfl g6 0 rfl _ 57 (fun _ h => h.1) #[.int .i64 b0, .int .i64 k0, .bool d0] rfl _ Tryz.underlying57 rfl (by kernel_rfl)) hHeld ?rar0
                (try simp only [Act.put, List.setIfInBounds_toArray, List.set_cons_zero, List.set_cons_succ])
                refine wpAnyH_ready (rs := [1]) (by kernel_rfl) (by simp) ?rac1
                refine AllReadyH.cons (o := ⟨some 80, _, _, _, _, _⟩) rfl (fun K hK => ?rast1) AllReadyH.nil
                go_simp
                (refine (Prange_any b0 k0 d0 _).mono ?_; rintro e wx ⟨rfl, hb1⟩; replace KN := KN.below hb1; clear hb1)
                refine hK.out _ _ ?rak1 (fun hHeld2 => ?ram1)
                case rak1 => exact ⟨KN.at_ (by repeat (first | exact Has.here | refine Has.there ?_)), KN.at_ (by repeat (first | exact Has.here | refine Has.there ?_)), (KN.old hgo (by simp)).trans HOC.out⟩
                clear hK K hHeld
                have hHeld := hHeld2; clear hHeld2
                (try simp only [Act.put, List.setIfInBounds_toArray, List.set_cons_zero, List.set_cons_succ])
                refine wpAnyH_ready (rs := [2]) (by kernel_rfl) (by simp) ?rac2
                refine AllReadyH.cons (o := ⟨some 81, _, _, _, _, _⟩) rfl (fun K hK => ?rast2) AllReadyH.nil
                go_simp
                (refine (PValid_any b0 k0 HB.out HK.out _).mono ?_; rw [HD.out]; rintro e wx ⟨rfl, hb1⟩; replace KN := KN.below hb1; clear hb1)
                refine hK.out _ _ ?rak2 (fun hHeld2 => ?ram2)
                case rak2 => exact ⟨KN.at_ (by repeat (first | exact Has.here | refine Has.there ?_)), KN.at_ (by repeat (first | exact Has.here | refine Has.there ?_)), (KN.old hgo (by simp)).trans HOC.out⟩
                clear hK K hHeld
                have hHeld := hHeld2; clear hHeld2
                (try simp only [Act.put, List.setIfInBounds_toArray, List.set_cons_zero, List.set_cons_succ])
                refine wpAnyH_take (i := 3) (oi := ⟨some 82, _, _, _, _, _⟩) (v := ?rav3) rfl (by kernel_rfl) (by kernel_rfl) (by kernel_rfl) (fun _ _ _ h => h) (Or.inl ⟨by rfl, ?rahy3⟩) hHeld ?rar3
                case rahy3 => (intro w hSw; (try dsimp only at hSw); go_simp; (try with_reducible rfl))
                (try simp only [Act.put, List.setIfInBounds_toArray, List.set_cons_zero, List.set_cons_succ])
                refine wpAnyH_take (i := 4) (oi := ⟨some 83, _, _, _, _, _⟩) (v := ?rav4) rfl (by kernel_rfl) (by kernel_rfl) (by kernel_rfl) (fun _ _ _ h => h) (Or.inl ⟨by rfl, ?rahy4⟩) hHeld ?rar4
                case rahy4 => (intro w hSw; (try dsimp only at hSw); go_simp; (try with_reducible rfl))
                (try simp only [Act.put, List.setIfInBounds_toArray, List.set_cons_zero, List.set_cons_succ])
                refine wpAnyH_take (i := 5) (oi := ⟨some 84, _, _, _, _, _⟩) (v := ?rav5) rfl (by kernel_rfl) (by kernel_rfl) (by kernel_rfl) (fun _ _ _ h => h) (Or.inl ⟨by rfl, ?rahy5⟩) hHeld ?rar5
                case rahy5 => (intro w hSw; (try dsimp only at hSw); go_simp; (try with_reducible rfl))
                (try simp only [Act.put, List.setIfInBounds_toArray, List.set_cons_zero, List.set_cons_succ])
                refine wpAnyH_take (i := 6) (oi := ⟨some 85, _, _, _, _, _⟩) (v := (.slice (some ⟨go, offo, none⟩) no oc)) rfl (by kernel_rfl) (by kernel_rfl) (by kernel_rfl) (fun _ _ _ h => h) (kn_yields1 (by rfl) 22 _ rfl g1 4 rfl _ 25 (fun _ h => h.2.1) _ rfl _ Tryz.underlying22 rfl) hHeld ?rar6
                (try simp only [Act.put, List.setIfInBounds_toArray, List.set_cons_zero, List.set_cons_succ])
                refine wpAnyH_take (i := 7) (oi := ⟨some 86, _, _, _, _, _⟩) (v := ?rav7) rfl (by kernel_rfl) (by kernel_rfl) (by kernel_rfl) (fun _ _ _ h => h) (Or.inl ⟨by rfl, ?rahy7⟩) hHeld ?rar7
                case rahy7 => (intro w hSw; (try dsimp only at hSw); go_simp; (try with_reducible rfl))
                (try simp only [Act.put, List.setIfInBounds_toArray, List.set_cons_zero, List.set_cons_succ])
                refine wpAnyH_take (i := 8) (oi := ⟨some 87, _, _, _, _, _⟩) (v := ?rav8) rfl (by kernel_rfl) (by kernel_rfl) (by kernel_rfl) (fun _ _ _ h => h) (Or.inl ⟨by rfl, ?rahy8⟩) hHeld ?rar8
                case rahy8 => (intro w hSw; (try dsimp only at hSw); go_simp; (try with_reducible rfl))
                (try simp only [Act.put, List.setIfInBounds_toArray, List.set_cons_zero, List.set_cons_succ])
                refine wpAnyH_take (i := 9) (oi := ⟨some 88, _, _, _, _, _⟩) (v := (.int .i64 o)) rfl (by kernel_rfl) (by kernel_rfl) (by kernel_rfl) (fun _ _ _ h => h) (kn_yields_cell (by rfl) 3 _ rfl go _ rfl _ (fun _ h => h.2.2) _ Tryz.underlying3 rfl) hHeld ?rar9
                (try simp only [Act.put, List.setIfInBounds_toArray, List.set_cons_zero, List.set_cons_succ])
                refine wpAnyH_take (i := 10) (oi := ⟨some 89, _, _, _, _, _⟩) (v := ?rav10) rfl (by kernel_rfl) (by kernel_rfl) (by kernel_rfl) (fun _ _ _ h => h) (Or.inl ⟨by rfl, ?rahy10⟩) hHeld ?rar10
                case rahy10 => (intro w hSw; (try dsimp only at hSw); go_simp; (try with_reducible rfl))
                (try simp only [Act.put, List.setIfInBounds_toArray, List.set_cons_zero, List.set_cons_succ])
                refine wpAnyH_take (i := 11) (oi := ⟨some 90, _, _, _, _, _⟩) (v := ?rav11) rfl (by kernel_rfl) (by kernel_rfl) (by kernel_rfl) (fun _ _ _ h => h) (Or.inl ⟨by rfl, ?rahy11⟩) hHeld ?rar11
                case rahy11 => (intro w hSw; (try dsimp only at hSw); go_simp; (try with_reducible rfl))
                (try simp only [Act.put, List.setIfInBounds_toArray, List.set_cons_zero, List.set_cons_succ])
                refine wpAnyH_take (i := 12) (oi := ⟨some 91, _, _, _, _, _⟩) (v := ?rav12) rfl (by kernel_rfl) (by kernel_rfl) (by kernel_rfl) (fun _ _ _ h => h) (Or.inl ⟨by rfl, ?rahy12⟩) hHeld ?rar12
                case rahy12 => (intro w hSw; (try dsimp only at hSw); go_simp; (try with_reducible rfl))
                (try simp only [Act.put, List.setIfInBounds_toArray, List.set_cons_zero, List.set_cons_succ])
                refine wpAnyH_take (i := 13) (oi := ⟨some 92, _, _, _, _, _⟩) (v := undef) rfl (by kernel_rfl) (by kernel_rfl) (by kernel_rfl) (fun _ _ _ h => h) (Or.inr ⟨by rfl, rfl⟩) hHeld ?rar13
                (try simp only [Act.put, List.setIfInBounds_toArray, List.set_cons_zero, List.set_cons_succ])
                refine wpAnyH_take (i := 14) (oi := ⟨some 93, _, _, _, _, _⟩) (v := undef) rfl (by kernel_rfl) (by kernel_rfl) (by kernel_rfl) (fun _ _ _ h => h) (Or.inr ⟨by rfl, rfl⟩) hHeld ?rar14
                (try simp only [Act.put, List.setIfInBounds_toArray, List.set_cons_zero, List.set_cons_succ])
                refine wpAnyH_take (i := 15) (oi := ⟨some 94, _, _, _, _, _⟩) (v := undef) rfl (by kernel_rfl) (by kernel_rfl) (by kernel_rfl) (fun _ _ _ h => h) (Or.inr ⟨by rfl, rfl⟩) hHeld ?rar15
                (try simp only [Act.put, List.setIfInBounds_toArray, List.set_cons_zero, List.set_cons_succ])
                refine wpAnyH_take (i := 16) (oi := ⟨some 95, _, _, _, _, _⟩) (v := undef) rfl (by kernel_rfl) (by kernel_rfl) (by kernel_rfl) (fun _ _ _ h => h) (Or.inr ⟨by rfl, rfl⟩) hHeld ?rar16
                (try simp only [Act.put, List.setIfInBounds_toArray, List.set_cons_zero, List.set_cons_succ])
                refine wpAnyH_take (i := 17) (oi := ⟨some 96, _, _, _, _, _⟩) (v := undef) rfl (by kernel_rfl) (by kernel_rfl) (by kernel_rfl) (fun _ _ _ h => h) (Or.inr ⟨by rfl, rfl⟩) hHeld ?rar17
                (try simp only [Act.put, List.setIfInBounds_toArray, List.set_cons_zero, List.set_cons_succ])
                refine wpAnyH_take (i := 18) (oi := ⟨some 97, _, _, _, _, _⟩) (v := undef) rfl (by kernel_rfl) (by kernel_rfl) (by kernel_rfl) (fun _ _ _ h => h) (Or.inr ⟨by rfl, rfl⟩) hHeld ?rar18
                (try simp only [Act.put, List.setIfInBounds_toArray, List.set_cons_zero, List.set_cons_succ])
                refine wpAnyH_take (i := 19) (oi := ⟨some 98, _, _, _, _, _⟩) (v := undef) rfl (by kernel_rfl) (by kernel_rfl) (by kernel_rfl) (fun _ _ _ h => h) (Or.inr ⟨by rfl, rfl⟩) hHeld ?rar19
                (try simp only [Act.put, List.setIfInBounds_toArray, List.set_cons_zero, List.set_cons_succ])
                refine wpAnyH_take (i := 20) (oi := ⟨some 99, _, _, _, _, _⟩) (v := undef) rfl (by kernel_rfl) (by kernel_rfl) (by kernel_rfl) (fun _ _ _ h => h) (Or.inr ⟨by rfl, rfl⟩) hHeld ?rar20
                (try simp only [Act.put, List.setIfInBounds_toArray, List.set_cons_zero, List.set_cons_succ])
                refine wpAnyH_take (i := 21) (oi := ⟨some 100, _, _, _, _, _⟩) (v := ?rav21) rfl (by kernel_rfl) (by kernel_rfl) (by kernel_rfl) (fun _ _ _ h => h) (Or.inl ⟨by rfl, ?rahy21⟩) hHeld ?rar21
                case rahy21 => (intro w hSw; (try dsimp only at hSw); go_simp; (try with_reducible rfl))
                (try simp only [Act.put, List.setIfInBounds_toArray, List.set_cons_zero, List.set_cons_succ])
                refine wpAnyH_done (by kernel_rfl) ?radone _
                go_wp2_with fail
                go_ret
                exact VOut.no HF.out KN.toBelow
              · have q0 : decide (o < 0) = false := decide_eq_false o0
                by_cases o1 : st ≤ o
                · have q1 : decide (st ≤ o) = true := decide_eq_true o1
                  have HF : Hid (¬ ValidC c) := Lib.hid fun q => by have := (HRO.out q).2.2.1; omega
                  refine wp_region_held_drew (S := (fun w' => BlkT w' g6 #[.int .i64 b0, .int .i64 k0, .bool d0] 57 ∧ BlkT w' g1 #[.slice wa nw wc, .int .i64 st, .int .i64 sl, .slice (some ⟨gr, offr, none⟩) no rc, .slice (some ⟨go, offo, none⟩) no oc] 25 ∧ w'.cell? ⟨go, offo + k, none⟩ = some (.int .i64 o))) (by kernel_rfl) ?rbhS (fun hHeld => ?rbrest)
                  case rbhS => exact ⟨KN.at_ (by repeat (first | exact Has.here | refine Has.there ?_)), KN.at_ (by repeat (first | exact Has.here | refine Has.there ?_)), (KN.old hgo (by simp)).trans HOC.out⟩
                  refine wpAnyH_take (i := 0) (oi := ⟨some 79, _, _, _, _, _⟩) (v := (.agg #[.int .i64 b0, .int .i64 k0, .bool d0])) rfl (by kernel_rfl) (by kernel_rfl) (by kernel_rfl) (fun _ _ _ h => h) (kn_yieldsN (by rfl) 57 _ rfl g6 0 rfl _ 57 (fun _ h => h.1) #[.int .i64 b0, .int .i64 k0, .bool d0] rfl _ Tryz.underlying57 rfl (by kernel_rfl)) hHeld ?rbr0
                  (try simp only [Act.put, List.setIfInBounds_toArray, List.set_cons_zero, List.set_cons_succ])
                  refine wpAnyH_ready (rs := [1]) (by kernel_rfl) (by simp) ?rbc1
                  refine AllReadyH.cons (o := ⟨some 80, _, _, _, _, _⟩) rfl (fun K hK => ?rbst1) AllReadyH.nil
                  go_simp
                  (refine (Prange_any b0 k0 d0 _).mono ?_; rintro e wx ⟨rfl, hb1⟩; replace KN := KN.below hb1; clear hb1)
                  refine hK.out _ _ ?rbk1 (fun hHeld2 => ?rbm1)
                  case rbk1 => exact ⟨KN.at_ (by repeat (first | exact Has.here | refine Has.there ?_)), KN.at_ (by repeat (first | exact Has.here | refine Has.there ?_)), (KN.old hgo (by simp)).trans HOC.out⟩
                  clear hK K hHeld
                  have hHeld := hHeld2; clear hHeld2
                  (try simp only [Act.put, List.setIfInBounds_toArray, List.set_cons_zero, List.set_cons_succ])
                  refine wpAnyH_ready (rs := [2]) (by kernel_rfl) (by simp) ?rbc2
                  refine AllReadyH.cons (o := ⟨some 81, _, _, _, _, _⟩) rfl (fun K hK => ?rbst2) AllReadyH.nil
                  go_simp
                  (refine (PValid_any b0 k0 HB.out HK.out _).mono ?_; rw [HD.out]; rintro e wx ⟨rfl, hb1⟩; replace KN := KN.below hb1; clear hb1)
                  refine hK.out _ _ ?rbk2 (fun hHeld2 => ?rbm2)
                  case rbk2 => exact ⟨KN.at_ (by repeat (first | exact Has.here | refine Has.there ?_)), KN.at_ (by repeat (first | exact Has.here | refine Has.there ?_)), (KN.old hgo (by simp)).trans HOC.out⟩
                  clear hK K hHeld
                  have hHeld := hHeld2; clear hHeld2
                  (try simp only [Act.put, List.setIfInBounds_toArray, List.set_cons_zero, List.set_cons_succ])
                  refine wpAnyH_take (i := 3) (oi := ⟨some 82, _, _, _, _, _⟩) (v := ?rbv3) rfl (by kernel_rfl) (by kernel_rfl) (by kernel_rfl) (fun _ _ _ h => h) (Or.inl ⟨by rfl, ?rbhy3⟩) hHeld ?rbr3
                  case rbhy3 => (intro w hSw; (try dsimp only at hSw); go_simp; (try with_reducible rfl))
                  (try simp only [Act.put, List.setIfInBounds_toArray, List.set_cons_zero, List.set_cons_succ])
                  refine wpAnyH_take (i := 4) (oi := ⟨some 83, _, _, _, _, _⟩) (v := ?rbv4) rfl (by kernel_rfl) (by kernel_rfl) (by kernel_rfl) (fun _ _ _ h => h) (Or.inl ⟨by rfl, ?rbhy4⟩) hHeld ?rbr4
                  case rbhy4 => (intro w hSw; (try dsimp only at hSw); go_simp; (try with_reducible rfl))
                  (try simp only [Act.put, List.setIfInBounds_toArray, List.set_cons_zero, List.set_cons_succ])
                  refine wpAnyH_take (i := 5) (oi := ⟨some 84, _, _, _, _, _⟩) (v := ?rbv5) rfl (by kernel_rfl) (by kernel_rfl) (by kernel_rfl) (fun _ _ _ h => h) (Or.inl ⟨by rfl, ?rbhy5⟩) hHeld ?rbr5
                  case rbhy5 => (intro w hSw; (try dsimp only at hSw); go_simp; (try with_reducible rfl))
                  (try simp only [Act.put, List.setIfInBounds_toArray, List.set_cons_zero, List.set_cons_succ])
                  refine wpAnyH_take (i := 6) (oi := ⟨some 85, _, _, _, _, _⟩) (v := (.slice (some ⟨go, offo, none⟩) no oc)) rfl (by kernel_rfl) (by kernel_rfl) (by kernel_rfl) (fun _ _ _ h => h) (kn_yields1 (by rfl) 22 _ rfl g1 4 rfl _ 25 (fun _ h => h.2.1) _ rfl _ Tryz.underlying22 rfl) hHeld ?rbr6
                  (try simp only [Act.put, List.setIfInBounds_toArray, List.set_cons_zero, List.set_cons_succ])
                  refine wpAnyH_take (i := 7) (oi := ⟨some 86, _, _, _, _, _⟩) (v := ?rbv7) rfl (by kernel_rfl) (by kernel_rfl) (by kernel_rfl) (fun _ _ _ h => h) (Or.inl ⟨by rfl, ?rbhy7⟩) hHeld ?rbr7
                  case rbhy7 => (intro w hSw; (try dsimp only at hSw); go_simp; (try with_reducible rfl))
                  (try simp only [Act.put, List.setIfInBounds_toArray, List.set_cons_zero, List.set_cons_succ])
                  refine wpAnyH_take (i := 8) (oi := ⟨some 87, _, _, _, _, _⟩) (v := ?rbv8) rfl (by kernel_rfl) (by kernel_rfl) (by kernel_rfl) (fun _ _ _ h => h) (Or.inl ⟨by rfl, ?rbhy8⟩) hHeld ?rbr8
                  case rbhy8 => (intro w hSw; (try dsimp only at hSw); go_simp; (try with_reducible rfl))
                  (try simp only [Act.put, List.setIfInBounds_toArray, List.set_cons_zero, List.set_cons_succ])
                  refine wpAnyH_take (i := 9) (oi := ⟨some 88, _, _, _, _, _⟩) (v := (.int .i64 o)) rfl (by kernel_rfl) (by kernel_rfl) (by kernel_rfl) (fun _ _ _ h => h) (kn_yields_cell (by rfl) 3 _ rfl go _ rfl _ (fun _ h => h.2.2) _ Tryz.underlying3 rfl) hHeld ?rbr9
                  (try simp only [Act.put, List.setIfInBounds_toArray, List.set_cons_zero, List.set_cons_succ])
                  refine wpAnyH_take (i := 10) (oi := ⟨some 89, _, _, _, _, _⟩) (v := ?rbv10) rfl (by kernel_rfl) (by kernel_rfl) (by kernel_rfl) (fun _ _ _ h => h) (Or.inl ⟨by rfl, ?rbhy10⟩) hHeld ?rbr10
                  case rbhy10 => (intro w hSw; (try dsimp only at hSw); go_simp; (try with_reducible rfl))
                  (try simp only [Act.put, List.setIfInBounds_toArray, List.set_cons_zero, List.set_cons_succ])
                  refine wpAnyH_take (i := 11) (oi := ⟨some 90, _, _, _, _, _⟩) (v := ?rbv11) rfl (by kernel_rfl) (by kernel_rfl) (by kernel_rfl) (fun _ _ _ h => h) (Or.inl ⟨by rfl, ?rbhy11⟩) hHeld ?rbr11
                  case rbhy11 => (intro w hSw; (try dsimp only at hSw); go_simp; (try with_reducible rfl))
                  (try simp only [Act.put, List.setIfInBounds_toArray, List.set_cons_zero, List.set_cons_succ])
                  refine wpAnyH_take (i := 12) (oi := ⟨some 91, _, _, _, _, _⟩) (v := ?rbv12) rfl (by kernel_rfl) (by kernel_rfl) (by kernel_rfl) (fun _ _ _ h => h) (Or.inl ⟨by rfl, ?rbhy12⟩) hHeld ?rbr12
                  case rbhy12 => (intro w hSw; (try dsimp only at hSw); go_simp; (try with_reducible rfl))
                  (try simp only [Act.put, List.setIfInBounds_toArray, List.set_cons_zero, List.set_cons_succ])
                  refine wpAnyH_take (i := 13) (oi := ⟨some 92, _, _, _, _, _⟩) (v := ?rbv13) rfl (by kernel_rfl) (by kernel_rfl) (by kernel_rfl) (fun _ _ _ h => h) (Or.inl ⟨by rfl, ?rbhy13⟩) hHeld ?rbr13
                  case rbhy13 => (intro w hSw; (try dsimp only at hSw); go_simp; (try with_reducible rfl))
                  (try simp only [Act.put, List.setIfInBounds_toArray, List.set_cons_zero, List.set_cons_succ])
                  refine wpAnyH_take (i := 14) (oi := ⟨some 93, _, _, _, _, _⟩) (v := (.slice (some ⟨go, offo, none⟩) no oc)) rfl (by kernel_rfl) (by kernel_rfl) (by kernel_rfl) (fun _ _ _ h => h) (kn_yields1 (by rfl) 22 _ rfl g1 4 rfl _ 25 (fun _ h => h.2.1) _ rfl _ Tryz.underlying22 rfl) hHeld ?rbr14
                  (try simp only [Act.put, List.setIfInBounds_toArray, List.set_cons_zero, List.set_cons_succ])
                  refine wpAnyH_take (i := 15) (oi := ⟨some 94, _, _, _, _, _⟩) (v := ?rbv15) rfl (by kernel_rfl) (by kernel_rfl) (by kernel_rfl) (fun _ _ _ h => h) (Or.inl ⟨by rfl, ?rbhy15⟩) hHeld ?rbr15
                  case rbhy15 => (intro w hSw; (try dsimp only at hSw); go_simp; (try with_reducible rfl))
                  (try simp only [Act.put, List.setIfInBounds_toArray, List.set_cons_zero, List.set_cons_succ])
                  refine wpAnyH_take (i := 16) (oi := ⟨some 95, _, _, _, _, _⟩) (v := ?rbv16) rfl (by kernel_rfl) (by kernel_rfl) (by kernel_rfl) (fun _ _ _ h => h) (Or.inl ⟨by rfl, ?rbhy16⟩) hHeld ?rbr16
                  case rbhy16 => (intro w hSw; (try dsimp only at hSw); go_simp; (try with_reducible rfl))
                  (try simp only [Act.put, List.setIfInBounds_toArray, List.set_cons_zero, List.set_cons_succ])
                  refine wpAnyH_take (i := 17) (oi := ⟨some 96, _, _, _, _, _⟩) (v := (.int .i64 o)) rfl (by kernel_rfl) (by kernel_rfl) (by kernel_rfl) (fun _ _ _ h => h) (kn_yields_cell (by rfl) 3 _ rfl go _ rfl _ (fun _ h => h.2.2) _ Tryz.underlying3 rfl) hHeld ?rbr17
                  (try simp only [Act.put, List.setIfInBounds_toArray, List.set_cons_zero, List.set_cons_succ])
                  refine wpAnyH_take (i := 18) (oi := ⟨some 97, _, _, _, _, _⟩) (v := ?rbv18) rfl (by kernel_rfl) (by kernel_rfl) (by kernel_rfl) (fun _ _ _ h => h) (Or.inl ⟨by rfl, ?rbhy18⟩) hHeld ?rbr18
                  case rbhy18 => (intro w hSw; (try dsimp only at hSw); go_simp; (try with_reducible rfl))
                  (try simp only [Act.put, List.setIfInBounds_toArray, List.set_cons_zero, List.set_cons_succ])
                  refine wpAnyH_take (i := 19) (oi := ⟨some 98, _, _, _, _, _⟩) (v := (.int .i64 st)) rfl (by kernel_rfl) (by kernel_rfl) (by kernel_rfl) (fun _ _ _ h => h) (kn_yields1 (by rfl) 3 _ rfl g1 1 rfl _ 25 (fun _ h => h.2.1) _ rfl _ Tryz.underlying3 rfl) hHeld ?rbr19
                  (try simp only [Act.put, List.setIfInBounds_toArray, List.set_cons_zero, List.set_cons_succ])
                  refine wpAnyH_take (i := 20) (oi := ⟨some 99, _, _, _, _, _⟩) (v := ?rbv20) rfl (by kernel_rfl) (by kernel_rfl) (by kernel_rfl) (fun _ _ _ h => h) (Or.inl ⟨by rfl, ?rbhy20⟩) hHeld ?rbr20
                  case rbhy20 => (intro w hSw; (try dsimp only at hSw); go_simp; (try with_reducible rfl))
                  (try simp only [Act.put, List.setIfInBounds_toArray, List.set_cons_zero, List.set_cons_succ])
                  refine wpAnyH_take (i := 21) (oi := ⟨some 100, _, _, _, _, _⟩) (v := ?rbv21) rfl (by kernel_rfl) (by kernel_rfl) (by kernel_rfl) (fun _ _ _ h => h) (Or.inl ⟨by rfl, ?rbhy21⟩) hHeld ?rbr21
                  case rbhy21 => (intro w hSw; (try dsimp only at hSw); go_simp; (try with_reducible rfl))
                  (try simp only [Act.put, List.setIfInBounds_toArray, List.set_cons_zero, List.set_cons_succ])
                  refine wpAnyH_done (by kernel_rfl) ?rbdone _
                  go_wp2_with fail
                  go_ret
                  exact VOut.no HF.out KN.toBelow
                · have q1 : decide (st ≤ o) = false := decide_eq_false o1
                  have HO0 : Hid (0 ≤ o) := Lib.hid (by omega)
                  have HO1 : Hid (o < c.st) := Lib.hid (by rw [← HST.out]; omega)
                  have HOK := Lib.hid hok
                  refine wp_region_held_drew (S := (fun w' => BlkT w' g6 #[.int .i64 b0, .int .i64 k0, .bool d0] 57 ∧ BlkT w' g1 #[.slice wa nw wc, .int .i64 st, .int .i64 sl, .slice (some ⟨gr, offr, none⟩) no rc, .slice (some ⟨go, offo, none⟩) no oc] 25 ∧ w'.cell? ⟨go, offo + k, none⟩ = some (.int .i64 o))) (by kernel_rfl) ?rchS (fun hHeld => ?rcrest)
                  case rchS => exact ⟨KN.at_ (by repeat (first | exact Has.here | refine Has.there ?_)), KN.at_ (by repeat (first | exact Has.here | refine Has.there ?_)), (KN.old hgo (by simp)).trans HOC.out⟩
                  refine wpAnyH_take (i := 0) (oi := ⟨some 79, _, _, _, _, _⟩) (v := (.agg #[.int .i64 b0, .int .i64 k0, .bool d0])) rfl (by kernel_rfl) (by kernel_rfl) (by kernel_rfl) (fun _ _ _ h => h) (kn_yieldsN (by rfl) 57 _ rfl g6 0 rfl _ 57 (fun _ h => h.1) #[.int .i64 b0, .int .i64 k0, .bool d0] rfl _ Tryz.underlying57 rfl (by kernel_rfl)) hHeld ?rcr0
                  (try simp only [Act.put, List.setIfInBounds_toArray, List.set_cons_zero, List.set_cons_succ])
                  refine wpAnyH_ready (rs := [1]) (by kernel_rfl) (by simp) ?rcc1
                  refine AllReadyH.cons (o := ⟨some 80, _, _, _, _, _⟩) rfl (fun K hK => ?rcst1) AllReadyH.nil
                  go_simp
                  (refine (Prange_any b0 k0 d0 _).mono ?_; rintro e wx ⟨rfl, hb1⟩; replace KN := KN.below hb1; clear hb1)
                  refine hK.out _ _ ?rck1 (fun hHeld2 => ?rcm1)
                  case rck1 => exact ⟨KN.at_ (by repeat (first | exact Has.here | refine Has.there ?_)), KN.at_ (by repeat (first | exact Has.here | refine Has.there ?_)), (KN.old hgo (by simp)).trans HOC.out⟩
                  clear hK K hHeld
                  have hHeld := hHeld2; clear hHeld2
                  (try simp only [Act.put, List.setIfInBounds_toArray, List.set_cons_zero, List.set_cons_succ])
                  refine wpAnyH_ready (rs := [2]) (by kernel_rfl) (by simp) ?rcc2
                  refine AllReadyH.cons (o := ⟨some 81, _, _, _, _, _⟩) rfl (fun K hK => ?rcst2) AllReadyH.nil
                  go_simp
                  (refine (PValid_any b0 k0 HB.out HK.out _).mono ?_; rw [HD.out]; rintro e wx ⟨rfl, hb1⟩; replace KN := KN.below hb1; clear hb1)
                  refine hK.out _ _ ?rck2 (fun hHeld2 => ?rcm2)
                  case rck2 => exact ⟨KN.at_ (by repeat (first | exact Has.here | refine Has.there ?_)), KN.at_ (by repeat (first | exact Has.here | refine Has.there ?_)), (KN.old hgo (by simp)).trans HOC.out⟩
                  clear hK K hHeld
                  have hHeld := hHeld2; clear hHeld2
                  (try simp only [Act.put, List.setIfInBounds_toArray, List.set_cons_zero, List.set_cons_succ])
                  refine wpAnyH_take (i := 3) (oi := ⟨some 82, _, _, _, _, _⟩) (v := ?rcv3) rfl (by kernel_rfl) (by kernel_rfl) (by kernel_rfl) (fun _ _ _ h => h) (Or.inl ⟨by rfl, ?rchy3⟩) hHeld ?rcr3
                  case rchy3 => (intro w hSw; (try dsimp only at hSw); go_simp; (try with_reducible rfl))
                  (try simp only [Act.put, List.setIfInBounds_toArray, List.set_cons_zero, List.set_cons_succ])
                  refine wpAnyH_take (i := 4) (oi := ⟨some 83, _, _, _, _, _⟩) (v := ?rcv4) rfl (by kernel_rfl) (by kernel_rfl) (by kernel_rfl) (fun _ _ _ h => h) (Or.inl ⟨by rfl, ?rchy4⟩) hHeld ?rcr4
                  case rchy4 => (intro w hSw; (try dsimp only at hSw); go_simp; (try with_reducible rfl))
                  (try simp only [Act.put, List.setIfInBounds_toArray, List.set_cons_zero, List.set_cons_succ])
                  refine wpAnyH_take (i := 5) (oi := ⟨some 84, _, _, _, _, _⟩) (v := ?rcv5) rfl (by kernel_rfl) (by kernel_rfl) (by kernel_rfl) (fun _ _ _ h => h) (Or.inl ⟨by rfl, ?rchy5⟩) hHeld ?rcr5
                  case rchy5 => (intro w hSw; (try dsimp only at hSw); go_simp; (try with_reducible rfl))
                  (try simp only [Act.put, List.setIfInBounds_toArray, List.set_cons_zero, List.set_cons_succ])
                  refine wpAnyH_take (i := 6) (oi := ⟨some 85, _, _, _, _, _⟩) (v := (.slice (some ⟨go, offo, none⟩) no oc)) rfl (by kernel_rfl) (by kernel_rfl) (by kernel_rfl) (fun _ _ _ h => h) (kn_yields1 (by rfl) 22 _ rfl g1 4 rfl _ 25 (fun _ h => h.2.1) _ rfl _ Tryz.underlying22 rfl) hHeld ?rcr6
                  (try simp only [Act.put, List.setIfInBounds_toArray, List.set_cons_zero, List.set_cons_succ])
                  refine wpAnyH_take (i := 7) (oi := ⟨some 86, _, _, _, _, _⟩) (v := ?rcv7) rfl (by kernel_rfl) (by kernel_rfl) (by kernel_rfl) (fun _ _ _ h => h) (Or.inl ⟨by rfl, ?rchy7⟩) hHeld ?rcr7
                  case rchy7 => (intro w hSw; (try dsimp only at hSw); go_simp; (try with_reducible rfl))
                  (try simp only [Act.put, List.setIfInBounds_toArray, List.set_cons_zero, List.set_cons_succ])
                  refine wpAnyH_take (i := 8) (oi := ⟨some 87, _, _, _, _, _⟩) (v := ?rcv8) rfl (by kernel_rfl) (by kernel_rfl) (by kernel_rfl) (fun _ _ _ h => h) (Or.inl ⟨by rfl, ?rchy8⟩) hHeld ?rcr8
                  case rchy8 => (intro w hSw; (try dsimp only at hSw); go_simp; (try with_reducible rfl))
                  (try simp only [Act.put, List.setIfInBounds_toArray, List.set_cons_zero, List.set_cons_succ])
                  refine wpAnyH_take (i := 9) (oi := ⟨some 88, _, _, _, _, _⟩) (v := (.int .i64 o)) rfl (by kernel_rfl) (by kernel_rfl) (by kernel_rfl) (fun _ _ _ h => h) (kn_yields_cell (by rfl) 3 _ rfl go _ rfl _ (fun _ h => h.2.2) _ Tryz.underlying3 rfl) hHeld ?rcr9
                  (try simp only [Act.put, List.setIfInBounds_toArray, List.set_cons_zero, List.set_cons_succ])
                  refine wpAnyH_take (i := 10) (oi := ⟨some 89, _, _, _, _, _⟩) (v := ?rcv10) rfl (by kernel_rfl) (by kernel_rfl) (by kernel_rfl) (fun _ _ _ h => h) (Or.inl ⟨by rfl, ?rchy10⟩) hHeld ?rcr10
                  case rchy10 => (intro w hSw; (try dsimp only at hSw); go_simp; (try with_reducible rfl))
                  (try simp only [Act.put, List.setIfInBounds_toArray, List.set_cons_zero, List.set_cons_succ])
                  refine wpAnyH_take (i := 11) (oi := ⟨some 90, _, _, _, _, _⟩) (v := ?rcv11) rfl (by kernel_rfl) (by kernel_rfl) (by kernel_rfl) (fun _ _ _ h => h) (Or.inl ⟨by rfl, ?rchy11⟩) hHeld ?rcr11
                  case rchy11 => (intro w hSw; (try dsimp only at hSw); go_simp; (try with_reducible rfl))
                  (try simp only [Act.put, List.setIfInBounds_toArray, List.set_cons_zero, List.set_cons_succ])
                  refine wpAnyH_take (i := 12) (oi := ⟨some 91, _, _, _, _, _⟩) (v := ?rcv12) rfl (by kernel_rfl) (by kernel_rfl) (by kernel_rfl) (fun _ _ _ h => h) (Or.inl ⟨by rfl, ?rchy12⟩) hHeld ?rcr12
                  case rchy12 => (intro w hSw; (try dsimp only at hSw); go_simp; (try with_reducible rfl))
                  (try simp only [Act.put, List.setIfInBounds_toArray, List.set_cons_zero, List.set_cons_succ])
                  refine wpAnyH_take (i := 13) (oi := ⟨some 92, _, _, _, _, _⟩) (v := ?rcv13) rfl (by kernel_rfl) (by kernel_rfl) (by kernel_rfl) (fun _ _ _ h => h) (Or.inl ⟨by rfl, ?rchy13⟩) hHeld ?rcr13
                  case rchy13 => (intro w hSw; (try dsimp only at hSw); go_simp; (try with_reducible rfl))
                  (try simp only [Act.put, List.setIfInBounds_toArray, List.set_cons_zero, List.set_cons_succ])
                  refine wpAnyH_take (i := 14) (oi := ⟨some 93, _, _, _, _, _⟩) (v := (.slice (some ⟨go, offo, none⟩) no oc)) rfl (by kernel_rfl) (by kernel_rfl) (by kernel_rfl) (fun _ _ _ h => h) (kn_yields1 (by rfl) 22 _ rfl g1 4 rfl _ 25 (fun _ h => h.2.1) _ rfl _ Tryz.underlying22 rfl) hHeld ?rcr14
                  (try simp only [Act.put, List.setIfInBounds_toArray, List.set_cons_zero, List.set_cons_succ])
                  refine wpAnyH_take (i := 15) (oi := ⟨some 94, _, _, _, _, _⟩) (v := ?rcv15) rfl (by kernel_rfl) (by kernel_rfl) (by kernel_rfl) (fun _ _ _ h => h) (Or.inl ⟨by rfl, ?rchy15⟩) hHeld ?rcr15
                  case rchy15 => (intro w hSw; (try dsimp only at hSw); go_simp; (try with_reducible rfl))
                  (try simp only [Act.put, List.setIfInBounds_toArray, List.set_cons_zero, List.set_cons_succ])
                  refine wpAnyH_take (i := 16) (oi := ⟨some 95, _, _, _, _, _⟩) (v := ?rcv16) rfl (by kernel_rfl) (by kernel_rfl) (by kernel_rfl) (fun _ _ _ h => h) (Or.inl ⟨by rfl, ?rchy16⟩) hHeld ?rcr16
                  case rchy16 => (intro w hSw; (try dsimp only at hSw); go_simp; (try with_reducible rfl))
                  (try simp only [Act.put, List.setIfInBounds_toArray, List.set_cons_zero, List.set_cons_succ])
                  refine wpAnyH_take (i := 17) (oi := ⟨some 96, _, _, _, _, _⟩) (v := (.int .i64 o)) rfl (by kernel_rfl) (by kernel_rfl) (by kernel_rfl) (fun _ _ _ h => h) (kn_yields_cell (by rfl) 3 _ rfl go _ rfl _ (fun _ h => h.2.2) _ Tryz.underlying3 rfl) hHeld ?rcr17
                  (try simp only [Act.put, List.setIfInBounds_toArray, List.set_cons_zero, List.set_cons_succ])
                  refine wpAnyH_take (i := 18) (oi := ⟨some 97, _, _, _, _, _⟩) (v := ?rcv18) rfl (by kernel_rfl) (by kernel_rfl) (by kernel_rfl) (fun _ _ _ h => h) (Or.inl ⟨by rfl, ?rchy18⟩) hHeld ?rcr18
                  case rchy18 => (intro w hSw; (try dsimp only at hSw); go_simp; (try with_reducible rfl))
                  (try simp only [Act.put, List.setIfInBounds_toArray, List.set_cons_zero, List.set_cons_succ])
                  refine wpAnyH_take (i := 19) (oi := ⟨some 98, _, _, _, _, _⟩) (v := (.int .i64 st)) rfl (by kernel_rfl) (by kernel_rfl) (by kernel_rfl) (fun _ _ _ h => h) (kn_yields1 (by rfl) 3 _ rfl g1 1 rfl _ 25 (fun _ h => h.2.1) _ rfl _ Tryz.underlying3 rfl) hHeld ?rcr19
                  (try simp only [Act.put, List.setIfInBounds_toArray, List.set_cons_zero, List.set_cons_succ])
                  refine wpAnyH_take (i := 20) (oi := ⟨some 99, _, _, _, _, _⟩) (v := ?rcv20) rfl (by kernel_rfl) (by kernel_rfl) (by kernel_rfl) (fun _ _ _ h => h) (Or.inl ⟨by rfl, ?rchy20⟩) hHeld ?rcr20
                  case rchy20 => (intro w hSw; (try dsimp only at hSw); go_simp; (try with_reducible rfl))
                  (try simp only [Act.put, List.setIfInBounds_toArray, List.set_cons_zero, List.set_cons_succ])
                  refine wpAnyH_take (i := 21) (oi := ⟨some 100, _, _, _, _, _⟩) (v := ?rcv21) rfl (by kernel_rfl) (by kernel_rfl) (by kernel_rfl) (fun _ _ _ h => h) (Or.inl ⟨by rfl, ?rchy21⟩) hHeld ?rcr21
                  case rchy21 => (intro w hSw; (try dsimp only at hSw); go_simp; (try with_reducible rfl))
                  (try simp only [Act.put, List.setIfInBounds_toArray, List.set_cons_zero, List.set_cons_succ])
                  refine wpAnyH_done (by kernel_rfl) ?rcdone _
                  clear q0 q1 o0 o1 hok
                  go_wp2_with (first | ((with_reducible refine wpList_gate ?_); first | ((with_reducible refine gate_load ?_ ?_); rfl; first | (refine ks_load1 KN 22 Tryz.underlying22 ?_) | (refine ks_load1 KN 3 Tryz.underlying3 ?_) | (refine ks_load1 KN 23 Tryz.underlying23 ?_) | (refine ks_loadW KN 57 Tryz.underlying57 ?_)) | ((with_reducible refine gate_store ?_ ?_); rfl; first | (refine ks_storeW KN 57 ?_; clear KN; intro wx KN) | (refine ks_storeA KN 57 ?_; clear KN; intro wx KN)) | ((with_reducible refine gate_new ?_ ?_); rfl; first | (refine ks_boxA KN 25 (q := 1) ?_; clear KN; intro g1 wx hg1 KN) | (refine ks_alloc KN 57 (q := 6) #[.int .i64 0, .int .i64 0, .bool false] ?_; clear KN; intro g6 wx hg6 KN) | (refine ks_alloc KN 57 (q := 8) #[.int .i64 0, .int .i64 0, .bool false] ?_; clear KN; intro g8 wx hg8 KN))))
                  go_loopw [106] (fun i wr => OLoop c (b0, k0, d0) #[.slice wa nw wc, .int .i64 st, .int .i64 sl, .slice (some ⟨gr, offr, none⟩) no rc, .slice (some ⟨go, offo, none⟩) no oc] g1 g6 k w i wr) (fun i _ => k - (intOf i).toNat)
                  case atStart => exact ⟨0, rfl, Nat.zero_le _, fun _ _ h => absurd h (Nat.not_lt_zero _), KN⟩
                  case round =>
                    clear KN
                    obtain ⟨j, rfl, hj, hov, KN⟩ := hrel
                    have HOV := Lib.hid hov
                    clear hov
                    by_cases hjk : j < k
                    · obtain ⟨⟨b1, k1, d1⟩, hs⟩ : ∃ s, c.rs[j]? = some s := ⟨_, List.getElem?_eq_getElem (by rw [← HNR.out]; omega)⟩
                      obtain ⟨gs, offs, hgs0, _, _, _, hsrng⟩ := HRF.out j _ hs
                      have hgs : gr = gs ∧ offr = offs := by simpa using hgs0
                      clear hgs0
                      rw [← hgs.1, ← hgs.2] at hsrng
                      clear hgs
                      have HSR := Lib.hid hs
                      have HSN := Lib.hid hsrng
                      have HB1 := Lib.hid (HC.out.irs _ (List.mem_of_getElem? hs)).1
                      have HK1 := Lib.hid (HC.out.irs _ (List.mem_of_getElem? hs)).2
                      clear hs hsrng
                      go_upto_region 17 with (first | ((with_reducible refine wpList_gate ?_); first | ((with_reducible refine gate_load ?_ ?_); rfl; first | (refine wpList_kn_oldN KN (by rfl) 57 _ rfl gr _ rfl #[.int .i64 b1, .int .i64 k1, .bool d1] HSN.out hgr (by simp) _ Tryz.underlying57 rfl (by kernel_rfl) ?_) | (refine ks_load1 KN 22 Tryz.underlying22 ?_) | (refine ks_load1 KN 3 Tryz.underlying3 ?_) | (refine ks_load1 KN 23 Tryz.underlying23 ?_) | (refine ks_loadW KN 57 Tryz.underlying57 ?_)) | ((with_reducible refine gate_store ?_ ?_); rfl; first | (refine ks_storeW KN 57 ?_; clear KN; intro wx KN) | (refine ks_storeA KN 57 ?_; clear KN; intro wx KN)) | ((with_reducible refine gate_new ?_ ?_); rfl; first | (refine ks_boxA KN 25 (q := 1) ?_; clear KN; intro g1 wx hg1 KN) | (refine ks_alloc KN 57 (q := 6) #[.int .i64 0, .int .i64 0, .bool false] ?_; clear KN; intro g6 wx hg6 KN) | (refine ks_alloc KN 57 (q := 8) #[.int .i64 0, .int .i64 0, .bool false] ?_; clear KN; intro g8 wx hg8 KN))))
                      (try go_frame)
                      replace KN := KN.drew
                      replace KN := KN.as_ g8 #[.int .i64 b1, .int .i64 k1, .bool d1] (by repeat (first | exact Repl.here | apply Repl.there)) (by kernel_rfl)
                      by_cases hv : ovlB b0 k0 b1 k1
                      · have HDV := Lib.hid (decide_eq_true hv)
                        have HF : Hid (¬ ValidC c) := Lib.hid fun q => (HRO.out q).2.2.2 j (b1, k1, d1) hjk HSR.out hv
                        refine wp_region_held_drew (S := (fun w' => BlkT w' g6 #[.int .i64 b0, .int .i64 k0, .bool d0] 57 ∧ BlkT w' g8 #[.int .i64 b1, .int .i64 k1, .bool d1] 57)) (by kernel_rfl) ?rxhS (fun hHeld => ?rxrest)
                        case rxhS => exact ⟨KN.at_ (by repeat (first | exact Has.here | refine Has.there ?_)), KN.at_ (by repeat (first | exact Has.here | refine Has.there ?_))⟩
                        refine wpAnyH_take (i := 0) (oi := ⟨some 110, _, _, _, _, _⟩) (v := (.agg #[.int .i64 b0, .int .i64 k0, .bool d0])) rfl (by kernel_rfl) (by kernel_rfl) (by kernel_rfl) (fun _ _ _ h => h) (kn_yieldsN (by rfl) 57 _ rfl g6 0 rfl _ 57 (fun _ h => h.1) #[.int .i64 b0, .int .i64 k0, .bool d0] rfl _ Tryz.underlying57 rfl (by kernel_rfl)) hHeld ?rxr0
                        (try simp only [Act.put, List.setIfInBounds_toArray, List.set_cons_zero, List.set_cons_succ])
                        refine wpAnyH_take (i := 2) (oi := ⟨some 112, _, _, _, _, _⟩) (v := (.agg #[.int .i64 b1, .int .i64 k1, .bool d1])) rfl (by kernel_rfl) (by kernel_rfl) (by kernel_rfl) (fun _ _ _ h => h) (kn_yieldsN (by rfl) 57 _ rfl g8 0 rfl _ 57 (fun _ h => h.2) #[.int .i64 b1, .int .i64 k1, .bool d1] rfl _ Tryz.underlying57 rfl (by kernel_rfl)) hHeld ?rxr2
                        (try simp only [Act.put, List.setIfInBounds_toArray, List.set_cons_zero, List.set_cons_succ])
                        refine wpAnyH_ready (rs := [1]) (by kernel_rfl) (by simp) ?rxc1
                        refine AllReadyH.cons (o := ⟨some 111, _, _, _, _, _⟩) rfl (fun K hK => ?rxst1) AllReadyH.nil
                        go_simp
                        (refine (Prange_any b0 k0 d0 _).mono ?_; rintro e wx ⟨rfl, hb1⟩; replace KN := KN.below hb1; clear hb1)
                        refine hK.out _ _ ?rxk1 (fun hHeld2 => ?rxm1)
                        case rxk1 => exact ⟨KN.at_ (by repeat (first | exact Has.here | refine Has.there ?_)), KN.at_ (by repeat (first | exact Has.here | refine Has.there ?_))⟩
                        clear hK K hHeld
                        have hHeld := hHeld2; clear hHeld2
                        (try simp only [Act.put, List.setIfInBounds_toArray, List.set_cons_zero, List.set_cons_succ])
                        refine wpAnyH_ready (rs := [3]) (by kernel_rfl) (by simp) ?rxc3
                        refine AllReadyH.cons (o := ⟨some 113, _, _, _, _, _⟩) rfl (fun K hK => ?rxst3) AllReadyH.nil
                        go_simp
                        (refine (Prange_any b1 k1 d1 _).mono ?_; rintro e wx ⟨rfl, hb1⟩; replace KN := KN.below hb1; clear hb1)
                        refine hK.out _ _ ?rxk3 (fun hHeld2 => ?rxm3)
                        case rxk3 => exact ⟨KN.at_ (by repeat (first | exact Has.here | refine Has.there ?_)), KN.at_ (by repeat (first | exact Has.here | refine Has.there ?_))⟩
                        clear hK K hHeld
                        have hHeld := hHeld2; clear hHeld2
                        (try simp only [Act.put, List.setIfInBounds_toArray, List.set_cons_zero, List.set_cons_succ])
                        refine wpAnyH_ready (rs := [4]) (by kernel_rfl) (by simp) ?rxc4
                        refine AllReadyH.cons (o := ⟨some 114, _, _, _, _, _⟩) rfl (fun K hK => ?rxst4) AllReadyH.nil
                        go_simp
                        (refine (POvl_any b0 k0 b1 k1 HB.out HK.out HB1.out HK1.out _).mono ?_; rw [HDV.out]; rintro e wx ⟨rfl, hb1⟩; replace KN := KN.below hb1; clear hb1)
                        refine hK.out _ _ ?rxk4 (fun hHeld2 => ?rxm4)
                        case rxk4 => exact ⟨KN.at_ (by repeat (first | exact Has.here | refine Has.there ?_)), KN.at_ (by repeat (first | exact Has.here | refine Has.there ?_))⟩
                        clear hK K hHeld
                        have hHeld := hHeld2; clear hHeld2
                        (try simp only [Act.put, List.setIfInBounds_toArray, List.set_cons_zero, List.set_cons_succ])
                        refine wpAnyH_done (by kernel_rfl) ?rxdone _
                        go_wp2_with fail
                        go_ret
                        exact VOut.no HF.out KN.toBelow
                      · have HDV := Lib.hid (decide_eq_false hv)
                        refine wp_region_held_drew (S := (fun w' => BlkT w' g6 #[.int .i64 b0, .int .i64 k0, .bool d0] 57 ∧ BlkT w' g8 #[.int .i64 b1, .int .i64 k1, .bool d1] 57)) (by kernel_rfl) ?ryhS (fun hHeld => ?ryrest)
                        case ryhS => exact ⟨KN.at_ (by repeat (first | exact Has.here | refine Has.there ?_)), KN.at_ (by repeat (first | exact Has.here | refine Has.there ?_))⟩
                        refine wpAnyH_take (i := 0) (oi := ⟨some 110, _, _, _, _, _⟩) (v := (.agg #[.int .i64 b0, .int .i64 k0, .bool d0])) rfl (by kernel_rfl) (by kernel_rfl) (by kernel_rfl) (fun _ _ _ h => h) (kn_yieldsN (by rfl) 57 _ rfl g6 0 rfl _ 57 (fun _ h => h.1) #[.int .i64 b0, .int .i64 k0, .bool d0] rfl _ Tryz.underlying57 rfl (by kernel_rfl)) hHeld ?ryr0
                        (try simp only [Act.put, List.setIfInBounds_toArray, List.set_cons_zero, List.set_cons_succ])
                        refine wpAnyH_take (i := 2) (oi := ⟨some 112, _, _, _, _, _⟩) (v := (.agg #[.int .i64 b1, .int .i64 k1, .bool d1])) rfl (by kernel_rfl) (by kernel_rfl) (by kernel_rfl) (fun _ _ _ h => h) (kn_yieldsN (by rfl) 57 _ rfl g8 0 rfl _ 57 (fun _ h => h.2) #[.int .i64 b1, .int .i64 k1, .bool d1] rfl _ Tryz.underlying57 rfl (by kernel_rfl)) hHeld ?ryr2
                        (try simp only [Act.put, List.setIfInBounds_toArray, List.set_cons_zero, List.set_cons_succ])
                        refine wpAnyH_ready (rs := [1]) (by kernel_rfl) (by simp) ?ryc1
                        refine AllReadyH.cons (o := ⟨some 111, _, _, _, _, _⟩) rfl (fun K hK => ?ryst1) AllReadyH.nil
                        go_simp
                        (refine (Prange_any b0 k0 d0 _).mono ?_; rintro e wx ⟨rfl, hb1⟩; replace KN := KN.below hb1; clear hb1)
                        refine hK.out _ _ ?ryk1 (fun hHeld2 => ?rym1)
                        case ryk1 => exact ⟨KN.at_ (by repeat (first | exact Has.here | refine Has.there ?_)), KN.at_ (by repeat (first | exact Has.here | refine Has.there ?_))⟩
                        clear hK K hHeld
                        have hHeld := hHeld2; clear hHeld2
                        (try simp only [Act.put, List.setIfInBounds_toArray, List.set_cons_zero, List.set_cons_succ])
                        refine wpAnyH_ready (rs := [3]) (by kernel_rfl) (by simp) ?ryc3
                        refine AllReadyH.cons (o := ⟨some 113, _, _, _, _, _⟩) rfl (fun K hK => ?ryst3) AllReadyH.nil
                        go_simp
                        (refine (Prange_any b1 k1 d1 _).mono ?_; rintro e wx ⟨rfl, hb1⟩; replace KN := KN.below hb1; clear hb1)
                        refine hK.out _ _ ?ryk3 (fun hHeld2 => ?rym3)
                        case ryk3 => exact ⟨KN.at_ (by repeat (first | exact Has.here | refine Has.there ?_)), KN.at_ (by repeat (first | exact Has.here | refine Has.there ?_))⟩
                        clear hK K hHeld
                        have hHeld := hHeld2; clear hHeld2
                        (try simp only [Act.put, List.setIfInBounds_toArray, List.set_cons_zero, List.set_cons_succ])
                        refine wpAnyH_ready (rs := [4]) (by kernel_rfl) (by simp) ?ryc4
                        refine AllReadyH.cons (o := ⟨some 114, _, _, _, _, _⟩) rfl (fun K hK => ?ryst4) AllReadyH.nil
                        go_simp
                        (refine (POvl_any b0 k0 b1 k1 HB.out HK.out HB1.out HK1.out _).mono ?_; rw [HDV.out]; rintro e wx ⟨rfl, hb1⟩; replace KN := KN.below hb1; clear hb1)
                        refine hK.out _ _ ?ryk4 (fun hHeld2 => ?rym4)
                        case ryk4 => exact ⟨KN.at_ (by repeat (first | exact Has.here | refine Has.there ?_)), KN.at_ (by repeat (first | exact Has.here | refine Has.there ?_))⟩
                        clear hK K hHeld
                        have hHeld := hHeld2; clear hHeld2
                        (try simp only [Act.put, List.setIfInBounds_toArray, List.set_cons_zero, List.set_cons_succ])
                        refine wpAnyH_done (by kernel_rfl) ?rydone _
                        go_wp2_with fail
                        go_roundw
                        case rel => exact ⟨j + 1, by go_num, by omega, HOV.out.succ HSR.out hv, KN.drop .here⟩
                        case measure => simp [intOf]; omega
                    · obtain rfl : k = j := by omega
                      have HNEW := Lib.hid (HREG.out.succ HRR.out HOO.out HOK.out HO0.out HO1.out HOV.out)
                      go_wp2_with (first | ((with_reducible refine wpList_gate ?_); first | ((with_reducible refine gate_load ?_ ?_); rfl; first | (refine ks_load1 KN 22 Tryz.underlying22 ?_) | (refine ks_load1 KN 3 Tryz.underlying3 ?_) | (refine ks_load1 KN 23 Tryz.underlying23 ?_) | (refine ks_loadW KN 57 Tryz.underlying57 ?_)) | ((with_reducible refine gate_store ?_ ?_); rfl; first | (refine ks_storeW KN 57 ?_; clear KN; intro wx KN) | (refine ks_storeA KN 57 ?_; clear KN; intro wx KN)) | ((with_reducible refine gate_new ?_ ?_); rfl; first | (refine ks_boxA KN 25 (q := 1) ?_; clear KN; intro g1 wx hg1 KN) | (refine ks_alloc KN 57 (q := 6) #[.int .i64 0, .int .i64 0, .bool false] ?_; clear KN; intro g6 wx hg6 KN) | (refine ks_alloc KN 57 (q := 8) #[.int .i64 0, .int .i64 0, .bool false] ?_; clear KN; intro g8 wx hg8 KN))))
                      go_roundw
                      case rel => exact ⟨k + 1, by go_num, by omega, HNEW.out, KN.drop .here⟩
                      case measure => simp [intOf]; omega
            · have HD := Lib.hid (decide_eq_false hok)
              have HF : Hid (¬ ValidC c) := Lib.hid fun q => hok (HRO.out q).1
              refine wp_region_held_drew (S := (fun w' => BlkT w' g6 #[.int .i64 b0, .int .i64 k0, .bool d0] 57 ∧ BlkT w' g1 #[.slice wa nw wc, .int .i64 st, .int .i64 sl, .slice (some ⟨gr, offr, none⟩) no rc, .slice (some ⟨go, offo, none⟩) no oc] 25 ∧ w'.cell? ⟨go, offo + k, none⟩ = some (.int .i64 o))) (by kernel_rfl) ?rdhS (fun hHeld => ?rdrest)
              case rdhS => exact ⟨KN.at_ (by repeat (first | exact Has.here | refine Has.there ?_)), KN.at_ (by repeat (first | exact Has.here | refine Has.there ?_)), (KN.old hgo (by simp)).trans HOC.out⟩
              refine wpAnyH_take (i := 0) (oi := ⟨some 79, _, _, _, _, _⟩) (v := (.agg #[.int .i64 b0, .int .i64 k0, .bool d0])) rfl (by kernel_rfl) (by kernel_rfl) (by kernel_rfl) (fun _ _ _ h => h) (kn_yieldsN (by rfl) 57 _ rfl g6 0 rfl _ 57 (fun _ h => h.1) #[.int .i64 b0, .int .i64 k0, .bool d0] rfl _ Tryz.underlying57 rfl (by kernel_rfl)) hHeld ?rdr0
              (try simp only [Act.put, List.setIfInBounds_toArray, List.set_cons_zero, List.set_cons_succ])
              refine wpAnyH_ready (rs := [1]) (by kernel_rfl) (by simp) ?rdc1
              refine AllReadyH.cons (o := ⟨some 80, _, _, _, _, _⟩) rfl (fun K hK => ?rdst1) AllReadyH.nil
              go_simp
              (refine (Prange_any b0 k0 d0 _).mono ?_; rintro e wx ⟨rfl, hb1⟩; replace KN := KN.below hb1; clear hb1)
              refine hK.out _ _ ?rdk1 (fun hHeld2 => ?rdm1)
              case rdk1 => exact ⟨KN.at_ (by repeat (first | exact Has.here | refine Has.there ?_)), KN.at_ (by repeat (first | exact Has.here | refine Has.there ?_)), (KN.old hgo (by simp)).trans HOC.out⟩
              clear hK K hHeld
              have hHeld := hHeld2; clear hHeld2
              (try simp only [Act.put, List.setIfInBounds_toArray, List.set_cons_zero, List.set_cons_succ])
              refine wpAnyH_ready (rs := [2]) (by kernel_rfl) (by simp) ?rdc2
              refine AllReadyH.cons (o := ⟨some 81, _, _, _, _, _⟩) rfl (fun K hK => ?rdst2) AllReadyH.nil
              go_simp
              (refine (PValid_any b0 k0 HB.out HK.out _).mono ?_; rw [HD.out]; rintro e wx ⟨rfl, hb1⟩; replace KN := KN.below hb1; clear hb1)
              refine hK.out _ _ ?rdk2 (fun hHeld2 => ?rdm2)
              case rdk2 => exact ⟨KN.at_ (by repeat (first | exact Has.here | refine Has.there ?_)), KN.at_ (by repeat (first | exact Has.here | refine Has.there ?_)), (KN.old hgo (by simp)).trans HOC.out⟩
              clear hK K hHeld
              have hHeld := hHeld2; clear hHeld2
              (try simp only [Act.put, List.setIfInBounds_toArray, List.set_cons_zero, List.set_cons_succ])
              refine wpAnyH_take (i := 3) (oi := ⟨some 82, _, _, _, _, _⟩) (v := ?rdv3) rfl (by kernel_rfl) (by kernel_rfl) (by kernel_rfl) (fun _ _ _ h => h) (Or.inl ⟨by rfl, ?rdhy3⟩) hHeld ?rdr3
              case rdhy3 => (intro w hSw; (try dsimp only at hSw); go_simp; (try with_reducible rfl))
              (try simp only [Act.put, List.setIfInBounds_toArray, List.set_cons_zero, List.set_cons_succ])
              refine wpAnyH_take (i := 4) (oi := ⟨some 83, _, _, _, _, _⟩) (v := ?rdv4) rfl (by kernel_rfl) (by kernel_rfl) (by kernel_rfl) (fun _ _ _ h => h) (Or.inl ⟨by rfl, ?rdhy4⟩) hHeld ?rdr4
              case rdhy4 => (intro w hSw; (try dsimp only at hSw); go_simp; (try with_reducible rfl))
              (try simp only [Act.put, List.setIfInBounds_toArray, List.set_cons_zero, List.set_cons_succ])
              refine wpAnyH_take (i := 5) (oi := ⟨some 84, _, _, _, _, _⟩) (v := undef) rfl (by kernel_rfl) (by kernel_rfl) (by kernel_rfl) (fun _ _ _ h => h) (Or.inr ⟨by rfl, rfl⟩) hHeld ?rdr5
              (try simp only [Act.put, List.setIfInBounds_toArray, List.set_cons_zero, List.set_cons_succ])
              refine wpAnyH_take (i := 6) (oi := ⟨some 85, _, _, _, _, _⟩) (v := undef) rfl (by kernel_rfl) (by kernel_rfl) (by kernel_rfl) (fun _ _ _ h => h) (Or.inr ⟨by rfl, rfl⟩) hHeld ?rdr6
              (try simp only [Act.put, List.setIfInBounds_toArray, List.set_cons_zero, List.set_cons_succ])
              refine wpAnyH_take (i := 7) (oi := ⟨some 86, _, _, _, _, _⟩) (v := undef) rfl (by kernel_rfl) (by kernel_rfl) (by kernel_rfl) (fun _ _ _ h => h) (Or.inr ⟨by rfl, rfl⟩) hHeld ?rdr7
              (try simp only [Act.put, List.setIfInBounds_toArray, List.set_cons_zero, List.set_cons_succ])
              refine wpAnyH_take (i := 8) (oi := ⟨some 87, _, _, _, _, _⟩) (v := undef) rfl (by kernel_rfl) (by kernel_rfl) (by kernel_rfl) (fun _ _ _ h => h) (Or.inr ⟨by rfl, rfl⟩) hHeld ?rdr8
              (try simp only [Act.put, List.setIfInBounds_toArray, List.set_cons_zero, List.set_cons_succ])
              refine wpAnyH_take (i := 9) (oi := ⟨some 88, _, _, _, _, _⟩) (v := undef) rfl (by kernel_rfl) (by kernel_rfl) (by kernel_rfl) (fun _ _ _ h => h) (Or.inr ⟨by rfl, rfl⟩) hHeld ?rdr9
              (try simp only [Act.put, List.setIfInBounds_toArray, List.set_cons_zero, List.set_cons_succ])
              refine wpAnyH_take (i := 10) (oi := ⟨some 89, _, _, _, _, _⟩) (v := undef) rfl (by kernel_rfl) (by kernel_rfl) (by kernel_rfl) (fun _ _ _ h => h) (Or.inr ⟨by rfl, rfl⟩) hHeld ?rdr10
              (try simp only [Act.put, List.setIfInBounds_toArray, List.set_cons_zero, List.set_cons_succ])
              refine wpAnyH_take (i := 11) (oi := ⟨some 90, _, _, _, _, _⟩) (v := ?rdv11) rfl (by kernel_rfl) (by kernel_rfl) (by kernel_rfl) (fun _ _ _ h => h) (Or.inl ⟨by rfl, ?rdhy11⟩) hHeld ?rdr11
              case rdhy11 => (intro w hSw; (try dsimp only at hSw); go_simp; (try with_reducible rfl))
              (try simp only [Act.put, List.setIfInBounds_toArray, List.set_cons_zero, List.set_cons_succ])
              refine wpAnyH_take (i := 12) (oi := ⟨some 91, _, _, _, _, _⟩) (v := ?rdv12) rfl (by kernel_rfl) (by kernel_rfl) (by kernel_rfl) (fun _ _ _ h => h) (Or.inl ⟨by rfl, ?rdhy12⟩) hHeld ?rdr12
              case rdhy12 => (intro w hSw; (try dsimp only at hSw); go_simp; (try with_reducible rfl))
              (try simp only [Act.put, List.setIfInBounds_toArray, List.set_cons_zero, List.set_cons_succ])
              refine wpAnyH_take (i := 13) (oi := ⟨some 92, _, _, _, _, _⟩) (v := undef) rfl (by kernel_rfl) (by kernel_rfl) (by kernel_rfl) (fun _ _ _ h => h) (Or.inr ⟨by rfl, rfl⟩) hHeld ?rdr13
              (try simp only [Act.put, List.setIfInBounds_toArray, List.set_cons_zero, List.set_cons_succ])
              refine wpAnyH_take (i := 14) (oi := ⟨some 93, _, _, _, _, _⟩) (v := undef) rfl (by kernel_rfl) (by kernel_rfl) (by kernel_rfl) (fun _ _ _ h => h) (Or.inr ⟨by rfl, rfl⟩) hHeld ?rdr14
              (try simp only [Act.put, List.setIfInBounds_toArray, List.set_cons_zero, List.set_cons_succ])
              refine wpAnyH_take (i := 15) (oi := ⟨some 94, _, _, _, _, _⟩) (v := undef) rfl (by kernel_rfl) (by kernel_rfl) (by kernel_rfl) (fun _ _ _ h => h) (Or.inr ⟨by rfl, rfl⟩) hHeld ?rdr15
              (try simp only [Act.put, List.setIfInBounds_toArray, List.set_cons_zero, List.set_cons_succ])
              refine wpAnyH_take (i := 16) (oi := ⟨some 95, _, _, _, _, _⟩) (v := undef) rfl (by kernel_rfl) (by kernel_rfl) (by kernel_rfl) (fun _ _ _ h => h) (Or.inr ⟨by rfl, rfl⟩) hHeld ?rdr16
              (try simp only [Act.put, List.setIfInBounds_toArray, List.set_cons_zero, List.set_cons_succ])
              refine wpAnyH_take (i := 17) (oi := ⟨some 96, _, _, _, _, _⟩) (v := undef) rfl (by kernel_rfl) (by kernel_rfl) (by kernel_rfl) (fun _ _ _ h => h) (Or.inr ⟨by rfl, rfl⟩) hHeld ?rdr17
              (try simp only [Act.put, List.setIfInBounds_toArray, List.set_cons_zero, List.set_cons_succ])
              refine wpAnyH_take (i := 18) (oi := ⟨some 97, _, _, _, _, _⟩) (v := undef) rfl (by kernel_rfl) (by kernel_rfl) (by kernel_rfl) (fun _ _ _ h => h) (Or.inr ⟨by rfl, rfl⟩) hHeld ?rdr18
              (try simp only [Act.put, List.setIfInBounds_toArray, List.set_cons_zero, List.set_cons_succ])
              refine wpAnyH_take (i := 19) (oi := ⟨some 98, _, _, _, _, _⟩) (v := undef) rfl (by kernel_rfl) (by kernel_rfl) (by kernel_rfl) (fun _ _ _ h => h) (Or.inr ⟨by rfl, rfl⟩) hHeld ?rdr19
              (try simp only [Act.put, List.setIfInBounds_toArray, List.set_cons_zero, List.set_cons_succ])
              refine wpAnyH_take (i := 20) (oi := ⟨some 99, _, _, _, _, _⟩) (v := undef) rfl (by kernel_rfl) (by kernel_rfl) (by kernel_rfl) (fun _ _ _ h => h) (Or.inr ⟨by rfl, rfl⟩) hHeld ?rdr20
              (try simp only [Act.put, List.setIfInBounds_toArray, List.set_cons_zero, List.set_cons_succ])
              refine wpAnyH_take (i := 21) (oi := ⟨some 100, _, _, _, _, _⟩) (v := ?rdv21) rfl (by kernel_rfl) (by kernel_rfl) (by kernel_rfl) (fun _ _ _ h => h) (Or.inl ⟨by rfl, ?rdhy21⟩) hHeld ?rdr21
              case rdhy21 => (intro w hSw; (try dsimp only at hSw); go_simp; (try with_reducible rfl))
              (try simp only [Act.put, List.setIfInBounds_toArray, List.set_cons_zero, List.set_cons_succ])
              refine wpAnyH_done (by kernel_rfl) ?rddone _
              go_wp2_with fail
              go_ret
              exact VOut.no HF.out KN.toBelow
          · obtain rfl : no = k := by omega
            have HVC : Hid (ValidC c) := Lib.hid ⟨⟨by rw [← HNW.out]; omega, by rw [← HNW.out]; omega, by rw [← HST.out]; omega, by rw [← HST.out, ← HNW.out]; omega, by rw [← HSL.out]; omega, by rw [← HSL.out]; omega, by rw [← HNR.out]; omega, by rw [← HNR.out, ← HNO.out]⟩, HWALL.out, by rw [← HNR.out]; exact HREG.out⟩
            go_wp2_with (first | ((with_reducible refine wpList_gate ?_); first | ((with_reducible refine gate_load ?_ ?_); rfl; first | (refine ks_load1 KN 22 Tryz.underlying22 ?_) | (refine ks_load1 KN 3 Tryz.underlying3 ?_) | (refine ks_load1 KN 23 Tryz.underlying23 ?_) | (refine ks_loadW KN 57 Tryz.underlying57 ?_)) | ((with_reducible refine gate_store ?_ ?_); rfl; first | (refine ks_storeW KN 57 ?_; clear KN; intro wx KN) | (refine ks_storeA KN 57 ?_; clear KN; intro wx KN)) | ((with_reducible refine gate_new ?_ ?_); rfl; first | (refine ks_boxA KN 25 (q := 1) ?_; clear KN; intro g1 wx hg1 KN) | (refine ks_alloc KN 57 (q := 6) #[.int .i64 0, .int .i64 0, .bool false] ?_; clear KN; intro g6 wx hg6 KN) | (refine ks_alloc KN 57 (q := 8) #[.int .i64 0, .int .i64 0, .bool false] ?_; clear KN; intro g8 wx hg8 KN))))
            go_ret
            exact VOut.yes HVC.out KN.toBelow
  · have hne : ((no : Int) != (nr : Int)) = true := by simp; omega
    have HF : Hid (¬ ValidC c) := Lib.hid fun q => by have := HV.out q; omega
    go_enter Tryz.func37, Tryz.ntmps37
    go_wp2_with (first | ((with_reducible refine wpList_gate ?_); first | ((with_reducible refine gate_load ?_ ?_); rfl; first | (refine ks_load1 KN 22 Tryz.underlying22 ?_) | (refine ks_load1 KN 3 Tryz.underlying3 ?_) | (refine ks_load1 KN 23 Tryz.underlying23 ?_) | (refine ks_loadW KN 57 Tryz.underlying57 ?_)) | ((with_reducible refine gate_store ?_ ?_); rfl; first | (refine ks_storeW KN 57 ?_; clear KN; intro wx KN) | (refine ks_storeA KN 57 ?_; clear KN; intro wx KN)) | ((with_reducible refine gate_new ?_ ?_); rfl; first | (refine ks_boxA KN 25 (q := 1) ?_; clear KN; intro g1 wx hg1 KN) | (refine ks_alloc KN 57 (q := 6) #[.int .i64 0, .int .i64 0, .bool false] ?_; clear KN; intro g6 wx hg6 KN) | (refine ks_alloc KN 57 (q := 8) #[.int .i64 0, .int .i64 0, .bool false] ?_; clear KN; intro g8 wx hg8 KN))))
    go_ret
    exact VOut.no HF.out KN.toBelow
end Go.Proofs.YtlhmeeidlhpodaaGreat
