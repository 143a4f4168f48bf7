/- Merged: Slc, Clo, Clear, MkView, Exc, Inc, MkState, MkRep, Syn0. -/
import Derived.Test.YtlhmeeidlhpodaaGreatPkGenJ
import Derived.Lib.MinMax
import Derived.Lib.SliceRun
set_option linter.unusedVariables false
set_option linter.unusedSimpArgs false
set_option linter.unusedSectionVars false
namespace Go.Proofs.YtlhmeeidlhpodaaGreat
section
open Go.RowKit Go.BigFrame

def IsMax (m : Int) (l : List Int) : Prop := m ∈ l ∧ ∀ z ∈ l, z ≤ m
def IsMin (m : Int) (l : List Int) : Prop := m ∈ l ∧ ∀ z ∈ l, m ≤ z
theorem IsMax.snoc {m x : Int} {l : List Int} (h : IsMax m l) : IsMax (max m x) (l ++ [x]) := by
  refine ⟨?_, fun z hz => ?_⟩
  · rcases Int.le_total m x with h' | h'
    · rw [Int.max_eq_right h']; simp
    · rw [Int.max_eq_left h']; exact List.mem_append_left _ h.1
  · rcases List.mem_append.1 hz with hz | hz
    · have := h.2 z hz; omega
    · have : z = x := by simpa using hz
      omega
theorem IsMin.snoc {m x : Int} {l : List Int} (h : IsMin m l) : IsMin (min m x) (l ++ [x]) := by
  refine ⟨?_, fun z hz => ?_⟩
  · rcases Int.le_total m x with h' | h'
    · rw [Int.min_eq_left h']; exact List.mem_append_left _ h.1
    · rw [Int.min_eq_right h']; simp
  · rcases List.mem_append.1 hz with hz | hz
    · have := h.2 z hz; omega
    · have : z = x := by simpa using hz
      omega
theorem take_snocI {l : List Int} {k : Nat} {x : Int} (h : l[k]? = some x) : l.take (k + 1) = l.take k ++ [x] := by rw [List.take_add_one, h]; rfl
end
section
open Go.RowKit Go.BigFrame

end
section
open Go Go.RowKit Go.BigFrame
section
variable {P : Program} {ops : Array Oper} {rest : List Oper} {op : Oper} {a : Act} {w W : World} {Q : Exit → Act → World → Prop} {M : List Nat} {l l' : Ents} {g o n c : Nat} {cs : Array Value} {T : TypeId}
end
end
section
open Go.RowKit Go.BigFrame

def I64s (zs : List Int) : Prop := ∀ z ∈ zs, -9223372036854775808 ≤ z ∧ z ≤ 9223372036854775807
theorem I64s.drop {zs : List Int} (h : I64s zs) (n : Nat) : I64s (zs.drop n) := fun z hz => h z (List.mem_of_mem_drop hz)
theorem int_info : (Tryz.prog.info? 3).map (fun i => (i.size, i.bytes, i.zero.map (·.cells.size))) = some (1, 8, some 1) := by kernel_rfl
end
section
open Go.RowKit Go.BigFrame

set_option maxRecDepth 100000 in
theorem Clone_any {w : World} {v : Value} {zs : List Int} (h : Row w v 1 (intRows zs)) (hn : zs.length ≤ 1000000) :
    Calls Tryz.prog 17 #[v] w fun e w' => ∃ v' ol, e = .returned v' ∧ OwnT 3 1 v' (intRows zs) ol ∧ Kn [] w w' ol ∧ (zs = [] ∨ ∃ a n c, v' = .slice (some a) n c) := by
  have KN := Kn.start w
  have HR := Lib.hid h
  obtain ⟨a, c, hv, hm, hc⟩ := ints_form h
  obtain ⟨n, hn'⟩ : ∃ n, n = zs.length := ⟨_, rfl⟩
  have HN := Lib.hid hn'
  rw [← hn'] at hv hn
  subst hv
  cases a with
  | none =>
    have HZ : Hid (zs = []) := Lib.hid (by
      cases zs with
      | nil => rfl
      | cons z zs => obtain ⟨g, off, h, _⟩ := hc 0 z rfl; cases h)
    clear h hc hm hn'
    have hq : ∀ w, Sem.run Tryz.prog (binOp .eql 22 (.slice none n c) (.slice none 0 0)) w = .ok (.bool true) w := fun w => Lib.run_eql_slice_nil w _ _ none n c 0 0 Tryz.underlying22
    go_enter Tryz.func17, Tryz.ntmps17
    go_wp2
    go_ret
    exact ⟨.slice none 0 0, [], rfl, by rw [HZ.out]; exact .nil, KN, .inl HZ.out⟩
  | some a =>
    clear h hc hm hn'
    have hq : ∀ w, Sem.run Tryz.prog (binOp .eql 22 (.slice (some a) n c) (.slice none 0 0)) w = .ok (.bool false) w := fun w => Lib.run_eql_slice_nil w _ _ (some a) n c 0 0 Tryz.underlying22
    go_enter Tryz.func17, Tryz.ntmps17
    go_wp2_with (first | ((with_reducible refine wpList_gate ?_); first | (at_builtin; refine wpList_kn_appendR (f := fun o => o) KN (.blk (L := []) (cap := 0) (by decide) (by decide) (by simp)) (by rfl) _ _ 22 rfl 8 Tryz.underlying22 int_info (by decide) rfl (.slice (some a) n c) rfl _ (HR.out.below KN.toBelow) (intRows_len _) (intRows_one _) (by rw [List.length_map, ← HN.out]; unfold maxLen; simp; omega) (by rw [List.length_map, ← HN.out]; simp; omega) .id rfl ?_; clear KN; intro v7 wx ol7 OW7 KN; have HO7 := Lib.hid OW7; clear OW7) | ((with_reducible refine gate_new ?_ ?_); rfl; first | (refine wpList_kn_buildSlice KN (by rfl) 22 0 _ rfl 5 rfl 3 #[] (by kernel_rfl) ?_; clear KN; intro g5 wx hg5 KN; replace KN : Kn [] w wx [(g5, CapAt 3 1 0 [])] := KN.weak (fun o ho => ⟨#[], ho, rfl, rfl⟩) Repl.here))))
    go_ret
    refine ⟨v7, ol7, rfl, HO7.out, KN, ?_⟩
    rcases Nat.eq_zero_or_pos zs.length with h | h
    · exact .inl (List.eq_nil_of_length_eq_zero h)
    · obtain ⟨g, cap, hv, _⟩ := HO7.out.pos (by rw [List.nil_append, List.length_map]; exact h)
      exact .inr ⟨_, _, _, hv⟩
end
section
open Go.RowKit Go.BigFrame

end
section
open Go.RowKit Go.BigFrame

def SlotsOk (cs : Array Value) : Prop := cs.size = 180 ∧ ∀ k, k < 12 → cs[k * 15]? = some (.int .i64 0) ∧ cs[k * 15 + 1]? = some (.int .i64 0) ∧ cs[k * 15 + 2]? = some (.int .i64 0)
theorem SlotsOk.set {cs : Array Value} (h : SlotsOk cs) (k : Nat) (v : Value) : SlotsOk (cs.setIfInBounds (k * 15 + 11) v) := by
  refine ⟨by rw [Array.size_setIfInBounds]; exact h.1, fun j hj => ?_⟩
  obtain ⟨a, b, c⟩ := h.2 j hj
  refine ⟨?_, ?_, ?_⟩ <;> (rw [Array.getElem?_setIfInBounds_ne (by omega)]; assumption)
theorem SlotsOk.part {cs : Array Value} (h : SlotsOk cs) {k : Nat} (hk : k < 12) : (cs.extract (k * 15) (k * 15 + 15)).size = 15 ∧ (cs.extract (k * 15) (k * 15 + 15)).extract 0 3 = #[.int .i64 0, .int .i64 0, .int .i64 0] := by
  obtain ⟨a, b, c⟩ := h.2 k hk
  have hs := h.1
  refine ⟨by rw [Array.size_extract]; omega, ?_⟩
  apply Array.ext
  · simp; omega
  · intro i h1 h2
    have hi : i < 3 := by simpa using h2
    have : i = 0 ∨ i = 1 ∨ i = 2 := by omega
    rcases this with rfl | rfl | rfl
    · simp only [Array.getElem_extract]
      have := (Array.getElem?_eq_some_iff.1 a).2
      simpa using this
    · simp only [Array.getElem_extract]
      have := (Array.getElem?_eq_some_iff.1 b).2
      simpa using this
    · simp only [Array.getElem_extract]
      have := (Array.getElem?_eq_some_iff.1 c).2
      simpa using this
theorem slot_info : (Tryz.prog.info? 266).map (fun i => (i.size, i.bytes, i.zero.map (·.cells.size))) = some (15, 136, some 15) := by kernel_rfl
end
section
open Go.RowKit Go.BigFrame

/-- A slice, by its parts. -/
structure SL where
  a : Option Addr
  n : Nat
  c : Nat
def SL.v (s : SL) : Value := .slice s.a s.n s.c
def SL.nil : SL := ⟨none, 0, 0⟩
end
section
open Go.RowKit Go.BigFrame

def upto (n : Nat) : List Int := (List.range n).map fun (k : Nat) => (k : Int)
theorem upto_succ (n : Nat) : upto (n + 1) = upto n ++ [(n : Int)] := by unfold upto; rw [List.range_succ, List.map_append]; rfl
theorem upto_len (n : Nat) : (upto n).length = n := by simp [upto]
theorem region_info : (Tryz.prog.info? 57).map (fun i => (i.size, i.bytes, i.zero.map (·.cells.size))) = some (3, 24, some 3) := by kernel_rfl
set_option maxRecDepth 100000 in
set_option maxHeartbeats 8000000 in
theorem copyView_any {w : World} {num : Int} {vm vo : Value} {mem own : List Int} (hm : Row w vm 1 (intRows mem)) (ho : Row w vo 1 (intRows own)) (h1 : mem.length ≤ 1000000) (h2 : own.length ≤ 1000000) :
    Calls Tryz.prog 60 #[.agg #[.int .i64 num, vm, vo]] w fun e w' => ∃ (ma : Option Addr) (mn mc : Nat) (oa : Option Addr) (on oc : Nat) (om oo : Ents), e = .returned (.agg #[.int .i64 num, .slice ma mn mc, .slice oa on oc]) ∧ OwnT 3 1 (.slice ma mn mc) (intRows mem) om ∧ OwnT 3 1 (.slice oa on oc) (intRows own) oo ∧ Kn [] w w' (om ++ oo) := by
  have KN := Kn.start w
  have HM := Lib.hid hm
  have HO := Lib.hid ho
  have H1 := Lib.hid h1
  have H2 := Lib.hid h2
  obtain ⟨xa, xc, rfl, _⟩ := ints_form hm
  obtain ⟨ya, yc, rfl, _⟩ := ints_form ho
  clear hm ho h1 h2
  go_enter Tryz.func60, Tryz.ntmps60
  go_upto_region 1 with (first | ((with_reducible refine wpList_gate ?_); first | ((with_reducible refine gate_load ?_ ?_); rfl; first | (refine ks_load1 KN 22 Tryz.underlying22 ?_) | (refine ks_loadW KN 63 Tryz.underlying63 ?_)) | ((with_reducible refine gate_store ?_ ?_); rfl; first | (refine ks_store1 KN 22 ?_; clear KN; intro wx KN) | (refine ks_storeW KN 63 ?_; clear KN; intro wx KN) | (refine ks_storeA KN 63 ?_; clear KN; intro wx KN)) | ((with_reducible refine gate_new ?_ ?_); rfl; first | (refine ks_boxA KN 63 (q := 1) ?_; clear KN; intro g1 wx hg1 KN) | (refine ks_alloc KN 63 (q := 2) #[.int .i64 0, .slice none 0 0, .slice none 0 0] ?_; clear KN; intro g2 wx hg2 KN))))
  (try go_frame)
  replace KN := KN.drew
  obtain ⟨mn0, hmn⟩ : ∃ n, n = mem.length := ⟨_, rfl⟩
  obtain ⟨on0, hon⟩ : ∃ n, n = own.length := ⟨_, rfl⟩
  rw [← hmn] at KN HM
  rw [← hon] at KN HO
  rw [← hmn, ← hon]
  clear hmn hon
  refine wp_region_held_drew (S := (fun _ => True)) (by kernel_rfl) ?cvhS (fun hHeld => ?cvrest)
  case cvhS => exact trivial
  refine wpAnyH_take (i := 0) (oi := ⟨some 3, _, _, _, _, _⟩) (v := ?cvv0) rfl (by kernel_rfl) (by kernel_rfl) (by kernel_rfl) (fun _ _ _ h => h) (Or.inl ⟨by rfl, ?cvhy0⟩) hHeld ?cvr0
  case cvhy0 => (intro w hSw; (try dsimp only at hSw); go_simp; (try with_reducible rfl))
  (try simp only [Act.put, List.setIfInBounds_toArray, List.set_cons_zero, List.set_cons_succ])
  refine wpAnyH_take (i := 3) (oi := ⟨some 6, _, _, _, _, _⟩) (v := ?cvv3) rfl (by kernel_rfl) (by kernel_rfl) (by kernel_rfl) (fun _ _ _ h => h) (Or.inl ⟨by rfl, ?cvhy3⟩) hHeld ?cvr3
  case cvhy3 => (intro w hSw; (try dsimp only at hSw); go_simp; (try with_reducible rfl))
  (try simp only [Act.put, List.setIfInBounds_toArray, List.set_cons_zero, List.set_cons_succ])
  refine wpAnyH_ready (rs := [1, 4]) (by kernel_rfl) (by simp) ?cvc1_4
  refine (AllReadyH.cons (o := ⟨some 4, _, _, _, _, _⟩) rfl (fun K hK => ?cvst1) (AllReadyH.cons (o := ⟨some 7, _, _, _, _, _⟩) rfl (fun K hK => ?cvst4) AllReadyH.nil))
  case cvst1 =>
    (rw [if_pos (by rfl)]; refine wp_kn_load1 KN 22 _ rfl g1 1 rfl _ 63 (by repeat (first | exact Has.here | refine Has.there ?_)) (.slice xa mn0 xc) rfl _ Tryz.underlying22 rfl ?_)
    refine hK.out _ _ ?cv1xk1 (fun hHeld2 => ?cv1xm1)
    case cv1xk1 => exact trivial
    clear hK K hHeld
    have hHeld := hHeld2; clear hHeld2
    (try simp only [Act.put, List.setIfInBounds_toArray, List.set_cons_zero, List.set_cons_succ])
    refine wpAnyH_ready (rs := [2, 4]) (by kernel_rfl) (by simp) ?cv1xc2_4
    refine (AllReadyH.cons (o := ⟨some 5, _, _, _, _, _⟩) rfl (fun K hK => ?cv1xst2) (AllReadyH.cons (o := ⟨some 7, _, _, _, _, _⟩) rfl (fun K hK => ?cv1xst4) AllReadyH.nil))
    case cv1xst2 =>
      go_simp
      (refine (Clone_any (HM.out.below KN.toBelow) H1.out).mono ?_; rintro e wx ⟨v1, ol1, rfl, O1, K2, _⟩; obtain ⟨ma, mn, mc, rfl⟩ := O1.form3; have HO1 := Lib.hid O1; replace KN := (KN.call0 K2).perm List.perm_append_comm; simp only [List.cons_append, List.nil_append] at KN; clear K2 O1)
      refine hK.out _ _ ?cv1x2xk2 (fun hHeld2 => ?cv1x2xm2)
      case cv1x2xk2 => exact trivial
      clear hK K hHeld
      have hHeld := hHeld2; clear hHeld2
      (try simp only [Act.put, List.setIfInBounds_toArray, List.set_cons_zero, List.set_cons_succ])
      refine wpAnyH_ready (rs := [4]) (by kernel_rfl) (by simp) ?cv1x2xc4
      refine AllReadyH.cons (o := ⟨some 7, _, _, _, _, _⟩) rfl (fun K hK => ?cv1x2xst4) AllReadyH.nil
      (rw [if_pos (by rfl)]; refine wp_kn_load1 KN 22 _ rfl g1 2 rfl _ 63 (by repeat (first | exact Has.here | refine Has.there ?_)) (.slice ya on0 yc) rfl _ Tryz.underlying22 rfl ?_)
      refine hK.out _ _ ?cv1x2xk4 (fun hHeld2 => ?cv1x2xm4)
      case cv1x2xk4 => exact trivial
      clear hK K hHeld
      have hHeld := hHeld2; clear hHeld2
      (try simp only [Act.put, List.setIfInBounds_toArray, List.set_cons_zero, List.set_cons_succ])
      refine wpAnyH_take (i := 6) (oi := ⟨some 9, _, _, _, _, _⟩) (v := ?cv1x2xv6) rfl (by kernel_rfl) (by kernel_rfl) (by kernel_rfl) (fun _ _ _ h => h) (Or.inl ⟨by rfl, ?cv1x2xhy6⟩) hHeld ?cv1x2xr6
      case cv1x2xhy6 => (intro w hSw; (try dsimp only at hSw); go_simp; (try with_reducible rfl))
      (try simp only [Act.put, List.setIfInBounds_toArray, List.set_cons_zero, List.set_cons_succ])
      refine wpAnyH_ready (rs := [5]) (by kernel_rfl) (by simp) ?cv1x2xc5
      refine AllReadyH.cons (o := ⟨some 8, _, _, _, _, _⟩) rfl (fun K hK => ?cv1x2xst5) AllReadyH.nil
      go_simp
      (refine (Clone_any (HO.out.below KN.toBelow) H2.out).mono ?_; rintro e wx ⟨v1, ol2, rfl, O1, K2, _⟩; obtain ⟨oa, on, oc, rfl⟩ := O1.form3; have HO2 := Lib.hid O1; replace KN := (KN.call0 K2).perm List.perm_append_comm; simp only [List.cons_append, List.nil_append] at KN; clear K2 O1)
      refine hK.out _ _ ?cv1x2xk5 (fun hHeld2 => ?cv1x2xm5)
      case cv1x2xk5 => exact trivial
      clear hK K hHeld
      have hHeld := hHeld2; clear hHeld2
      (try simp only [Act.put, List.setIfInBounds_toArray, List.set_cons_zero, List.set_cons_succ])
      refine wpAnyH_ready (rs := [7]) (by kernel_rfl) (by simp) ?cv1x2xc7
      refine AllReadyH.cons (o := ⟨none, _, _, _, _, _⟩) rfl (fun K hK => ?cv1x2xst7) AllReadyH.nil
      (rw [if_pos (by rfl)]; refine wp_kn_store1 KN 22 _ _ rfl g1 1 rfl (.slice ma mn mc) rfl rfl _ 63 (by repeat (first | exact Repl.here | apply Repl.there)) (by (try simp only [Array.size_setIfInBounds, putL_size]); first | exact Nat.le_of_ble_eq_true rfl | (simp; omega)) (by kernel_rfl) (by rfl) ?_; clear KN; intro wx KN)
      refine hK.out _ _ ?cv1x2xk7 (fun hHeld2 => ?cv1x2xm7)
      case cv1x2xk7 => exact trivial
      clear hK K hHeld
      have hHeld := hHeld2; clear hHeld2
      (try simp only [Act.put, List.setIfInBounds_toArray, List.set_cons_zero, List.set_cons_succ])
      refine wpAnyH_take (i := 8) (oi := ⟨some 10, _, _, _, _, _⟩) (v := ?cv1x2xv8) rfl (by kernel_rfl) (by kernel_rfl) (by kernel_rfl) (fun _ _ _ h => h) (Or.inl ⟨by rfl, ?cv1x2xhy8⟩) hHeld ?cv1x2xr8
      case cv1x2xhy8 => (intro w hSw; (try dsimp only at hSw); go_simp; (try with_reducible rfl))
      (try simp only [Act.put, List.setIfInBounds_toArray, List.set_cons_zero, List.set_cons_succ])
      refine wpAnyH_ready (rs := [9]) (by kernel_rfl) (by simp) ?cv1x2xc9
      refine AllReadyH.cons (o := ⟨none, _, _, _, _, _⟩) rfl (fun K hK => ?cv1x2xst9) AllReadyH.nil
      (rw [if_pos (by rfl)]; refine wp_kn_store1 KN 22 _ _ rfl g1 2 rfl (.slice oa on oc) rfl rfl _ 63 (by repeat (first | exact Repl.here | apply Repl.there)) (by (try simp only [Array.size_setIfInBounds, putL_size]); first | exact Nat.le_of_ble_eq_true rfl | (simp; omega)) (by kernel_rfl) (by rfl) ?_; clear KN; intro wx KN)
      refine hK.out _ _ ?cv1x2xk9 (fun hHeld2 => ?cv1x2xm9)
      case cv1x2xk9 => exact trivial
      clear hK K hHeld
      have hHeld := hHeld2; clear hHeld2
      (try simp only [Act.put, List.setIfInBounds_toArray, List.set_cons_zero, List.set_cons_succ])
      refine wpAnyH_done (by kernel_rfl) ?cv1x2xdone _
      replace KN := KN.as_ g1 #[.int .i64 num, .slice ma mn mc, .slice oa on oc] (by repeat (first | exact Repl.here | apply Repl.there)) (by kernel_rfl)
      go_wp2_with (first | ((with_reducible refine wpList_gate ?_); first | ((with_reducible refine gate_load ?_ ?_); rfl; first | (refine ks_load1 KN 22 Tryz.underlying22 ?_) | (refine ks_loadW KN 63 Tryz.underlying63 ?_)) | ((with_reducible refine gate_store ?_ ?_); rfl; first | (refine ks_store1 KN 22 ?_; clear KN; intro wx KN) | (refine ks_storeW KN 63 ?_; clear KN; intro wx KN) | (refine ks_storeA KN 63 ?_; clear KN; intro wx KN)) | ((with_reducible refine gate_new ?_ ?_); rfl; first | (refine ks_boxA KN 63 (q := 1) ?_; clear KN; intro g1 wx hg1 KN) | (refine ks_alloc KN 63 (q := 2) #[.int .i64 0, .slice none 0 0, .slice none 0 0] ?_; clear KN; intro g2 wx hg2 KN))))
      refine bodyPost_ret (results_cell_row (p := 2) Tryz.results60 _ _ g2 63 #[.int .i64 num, .slice ma mn mc, .slice oa on oc] (0, 0) _ rfl (KN.at_ (by repeat (first | exact Has.here | refine Has.there ?_))) Tryz.underlying63 rfl (by kernel_rfl)) rfl ?_
      exact ⟨_, _, _, _, _, _, ol1, ol2, rfl, HO1.out, HO2.out, (by first | exact (KN.drop .here).drop .here | exact ((KN.drop .here).drop .here).perm List.perm_append_comm)⟩
    case cv1xst4 =>
      (rw [if_pos (by rfl)]; refine wp_kn_load1 KN 22 _ rfl g1 2 rfl _ 63 (by repeat (first | exact Has.here | refine Has.there ?_)) (.slice ya on0 yc) rfl _ Tryz.underlying22 rfl ?_)
      refine hK.out _ _ ?cv1x4xk4 (fun hHeld2 => ?cv1x4xm4)
      case cv1x4xk4 => exact trivial
      clear hK K hHeld
      have hHeld := hHeld2; clear hHeld2
      (try simp only [Act.put, List.setIfInBounds_toArray, List.set_cons_zero, List.set_cons_succ])
      refine wpAnyH_ready (rs := [2]) (by kernel_rfl) (by simp) ?cv1x4xc2
      refine AllReadyH.cons (o := ⟨some 5, _, _, _, _, _⟩) rfl (fun K hK => ?cv1x4xst2) AllReadyH.nil
      go_simp
      (refine (Clone_any (HM.out.below KN.toBelow) H1.out).mono ?_; rintro e wx ⟨v1, ol1, rfl, O1, K2, _⟩; obtain ⟨ma, mn, mc, rfl⟩ := O1.form3; have HO1 := Lib.hid O1; replace KN := (KN.call0 K2).perm List.perm_append_comm; simp only [List.cons_append, List.nil_append] at KN; clear K2 O1)
      refine hK.out _ _ ?cv1x4xk2 (fun hHeld2 => ?cv1x4xm2)
      case cv1x4xk2 => exact trivial
      clear hK K hHeld
      have hHeld := hHeld2; clear hHeld2
      (try simp only [Act.put, List.setIfInBounds_toArray, List.set_cons_zero, List.set_cons_succ])
      refine wpAnyH_take (i := 6) (oi := ⟨some 9, _, _, _, _, _⟩) (v := ?cv1x4xv6) rfl (by kernel_rfl) (by kernel_rfl) (by kernel_rfl) (fun _ _ _ h => h) (Or.inl ⟨by rfl, ?cv1x4xhy6⟩) hHeld ?cv1x4xr6
      case cv1x4xhy6 => (intro w hSw; (try dsimp only at hSw); go_simp; (try with_reducible rfl))
      (try simp only [Act.put, List.setIfInBounds_toArray, List.set_cons_zero, List.set_cons_succ])
      refine wpAnyH_ready (rs := [5]) (by kernel_rfl) (by simp) ?cv1x4xc5
      refine AllReadyH.cons (o := ⟨some 8, _, _, _, _, _⟩) rfl (fun K hK => ?cv1x4xst5) AllReadyH.nil
      go_simp
      (refine (Clone_any (HO.out.below KN.toBelow) H2.out).mono ?_; rintro e wx ⟨v1, ol2, rfl, O1, K2, _⟩; obtain ⟨oa, on, oc, rfl⟩ := O1.form3; have HO2 := Lib.hid O1; replace KN := (KN.call0 K2).perm List.perm_append_comm; simp only [List.cons_append, List.nil_append] at KN; clear K2 O1)
      refine hK.out _ _ ?cv1x4xk5 (fun hHeld2 => ?cv1x4xm5)
      case cv1x4xk5 => exact trivial
      clear hK K hHeld
      have hHeld := hHeld2; clear hHeld2
      (try simp only [Act.put, List.setIfInBounds_toArray, List.set_cons_zero, List.set_cons_succ])
      refine wpAnyH_ready (rs := [7]) (by kernel_rfl) (by simp) ?cv1x4xc7
      refine AllReadyH.cons (o := ⟨none, _, _, _, _, _⟩) rfl (fun K hK => ?cv1x4xst7) AllReadyH.nil
      (rw [if_pos (by rfl)]; refine wp_kn_store1 KN 22 _ _ rfl g1 1 rfl (.slice ma mn mc) rfl rfl _ 63 (by repeat (first | exact Repl.here | apply Repl.there)) (by (try simp only [Array.size_setIfInBounds, putL_size]); first | exact Nat.le_of_ble_eq_true rfl | (simp; omega)) (by kernel_rfl) (by rfl) ?_; clear KN; intro wx KN)
      refine hK.out _ _ ?cv1x4xk7 (fun hHeld2 => ?cv1x4xm7)
      case cv1x4xk7 => exact trivial
      clear hK K hHeld
      have hHeld := hHeld2; clear hHeld2
      (try simp only [Act.put, List.setIfInBounds_toArray, List.set_cons_zero, List.set_cons_succ])
      refine wpAnyH_take (i := 8) (oi := ⟨some 10, _, _, _, _, _⟩) (v := ?cv1x4xv8) rfl (by kernel_rfl) (by kernel_rfl) (by kernel_rfl) (fun _ _ _ h => h) (Or.inl ⟨by rfl, ?cv1x4xhy8⟩) hHeld ?cv1x4xr8
      case cv1x4xhy8 => (intro w hSw; (try dsimp only at hSw); go_simp; (try with_reducible rfl))
      (try simp only [Act.put, List.setIfInBounds_toArray, List.set_cons_zero, List.set_cons_succ])
      refine wpAnyH_ready (rs := [9]) (by kernel_rfl) (by simp) ?cv1x4xc9
      refine AllReadyH.cons (o := ⟨none, _, _, _, _, _⟩) rfl (fun K hK => ?cv1x4xst9) AllReadyH.nil
      (rw [if_pos (by rfl)]; refine wp_kn_store1 KN 22 _ _ rfl g1 2 rfl (.slice oa on oc) rfl rfl _ 63 (by repeat (first | exact Repl.here | apply Repl.there)) (by (try simp only [Array.size_setIfInBounds, putL_size]); first | exact Nat.le_of_ble_eq_true rfl | (simp; omega)) (by kernel_rfl) (by rfl) ?_; clear KN; intro wx KN)
      refine hK.out _ _ ?cv1x4xk9 (fun hHeld2 => ?cv1x4xm9)
      case cv1x4xk9 => exact trivial
      clear hK K hHeld
      have hHeld := hHeld2; clear hHeld2
      (try simp only [Act.put, List.setIfInBounds_toArray, List.set_cons_zero, List.set_cons_succ])
      refine wpAnyH_done (by kernel_rfl) ?cv1x4xdone _
      replace KN := KN.as_ g1 #[.int .i64 num, .slice ma mn mc, .slice oa on oc] (by repeat (first | exact Repl.here | apply Repl.there)) (by kernel_rfl)
      go_wp2_with (first | ((with_reducible refine wpList_gate ?_); first | ((with_reducible refine gate_load ?_ ?_); rfl; first | (refine ks_load1 KN 22 Tryz.underlying22 ?_) | (refine ks_loadW KN 63 Tryz.underlying63 ?_)) | ((with_reducible refine gate_store ?_ ?_); rfl; first | (refine ks_store1 KN 22 ?_; clear KN; intro wx KN) | (refine ks_storeW KN 63 ?_; clear KN; intro wx KN) | (refine ks_storeA KN 63 ?_; clear KN; intro wx KN)) | ((with_reducible refine gate_new ?_ ?_); rfl; first | (refine ks_boxA KN 63 (q := 1) ?_; clear KN; intro g1 wx hg1 KN) | (refine ks_alloc KN 63 (q := 2) #[.int .i64 0, .slice none 0 0, .slice none 0 0] ?_; clear KN; intro g2 wx hg2 KN))))
      refine bodyPost_ret (results_cell_row (p := 2) Tryz.results60 _ _ g2 63 #[.int .i64 num, .slice ma mn mc, .slice oa on oc] (0, 0) _ rfl (KN.at_ (by repeat (first | exact Has.here | refine Has.there ?_))) Tryz.underlying63 rfl (by kernel_rfl)) rfl ?_
      exact ⟨_, _, _, _, _, _, ol1, ol2, rfl, HO1.out, HO2.out, (by first | exact (KN.drop .here).drop .here | exact ((KN.drop .here).drop .here).perm List.perm_append_comm)⟩
  case cvst4 =>
    (rw [if_pos (by rfl)]; refine wp_kn_load1 KN 22 _ rfl g1 2 rfl _ 63 (by repeat (first | exact Has.here | refine Has.there ?_)) (.slice ya on0 yc) rfl _ Tryz.underlying22 rfl ?_)
    refine hK.out _ _ ?cv4xk4 (fun hHeld2 => ?cv4xm4)
    case cv4xk4 => exact trivial
    clear hK K hHeld
    have hHeld := hHeld2; clear hHeld2
    (try simp only [Act.put, List.setIfInBounds_toArray, List.set_cons_zero, List.set_cons_succ])
    refine wpAnyH_ready (rs := [1]) (by kernel_rfl) (by simp) ?cv4xc1
    refine AllReadyH.cons (o := ⟨some 4, _, _, _, _, _⟩) rfl (fun K hK => ?cv4xst1) AllReadyH.nil
    (rw [if_pos (by rfl)]; refine wp_kn_load1 KN 22 _ rfl g1 1 rfl _ 63 (by repeat (first | exact Has.here | refine Has.there ?_)) (.slice xa mn0 xc) rfl _ Tryz.underlying22 rfl ?_)
    refine hK.out _ _ ?cv4xk1 (fun hHeld2 => ?cv4xm1)
    case cv4xk1 => exact trivial
    clear hK K hHeld
    have hHeld := hHeld2; clear hHeld2
    (try simp only [Act.put, List.setIfInBounds_toArray, List.set_cons_zero, List.set_cons_succ])
    refine wpAnyH_ready (rs := [2]) (by kernel_rfl) (by simp) ?cv4xc2
    refine AllReadyH.cons (o := ⟨some 5, _, _, _, _, _⟩) rfl (fun K hK => ?cv4xst2) AllReadyH.nil
    go_simp
    (refine (Clone_any (HM.out.below KN.toBelow) H1.out).mono ?_; rintro e wx ⟨v1, ol1, rfl, O1, K2, _⟩; obtain ⟨ma, mn, mc, rfl⟩ := O1.form3; have HO1 := Lib.hid O1; replace KN := (KN.call0 K2).perm List.perm_append_comm; simp only [List.cons_append, List.nil_append] at KN; clear K2 O1)
    refine hK.out _ _ ?cv4xk2 (fun hHeld2 => ?cv4xm2)
    case cv4xk2 => exact trivial
    clear hK K hHeld
    have hHeld := hHeld2; clear hHeld2
    (try simp only [Act.put, List.setIfInBounds_toArray, List.set_cons_zero, List.set_cons_succ])
    refine wpAnyH_take (i := 6) (oi := ⟨some 9, _, _, _, _, _⟩) (v := ?cv4xv6) rfl (by kernel_rfl) (by kernel_rfl) (by kernel_rfl) (fun _ _ _ h => h) (Or.inl ⟨by rfl, ?cv4xhy6⟩) hHeld ?cv4xr6
    case cv4xhy6 => (intro w hSw; (try dsimp only at hSw); go_simp; (try with_reducible rfl))
    (try simp only [Act.put, List.setIfInBounds_toArray, List.set_cons_zero, List.set_cons_succ])
    refine wpAnyH_ready (rs := [5]) (by kernel_rfl) (by simp) ?cv4xc5
    refine AllReadyH.cons (o := ⟨some 8, _, _, _, _, _⟩) rfl (fun K hK => ?cv4xst5) AllReadyH.nil
    go_simp
    (refine (Clone_any (HO.out.below KN.toBelow) H2.out).mono ?_; rintro e wx ⟨v1, ol2, rfl, O1, K2, _⟩; obtain ⟨oa, on, oc, rfl⟩ := O1.form3; have HO2 := Lib.hid O1; replace KN := (KN.call0 K2).perm List.perm_append_comm; simp only [List.cons_append, List.nil_append] at KN; clear K2 O1)
    refine hK.out _ _ ?cv4xk5 (fun hHeld2 => ?cv4xm5)
    case cv4xk5 => exact trivial
    clear hK K hHeld
    have hHeld := hHeld2; clear hHeld2
    (try simp only [Act.put, List.setIfInBounds_toArray, List.set_cons_zero, List.set_cons_succ])
    refine wpAnyH_ready (rs := [7]) (by kernel_rfl) (by simp) ?cv4xc7
    refine AllReadyH.cons (o := ⟨none, _, _, _, _, _⟩) rfl (fun K hK => ?cv4xst7) AllReadyH.nil
    (rw [if_pos (by rfl)]; refine wp_kn_store1 KN 22 _ _ rfl g1 1 rfl (.slice ma mn mc) rfl rfl _ 63 (by repeat (first | exact Repl.here | apply Repl.there)) (by (try simp only [Array.size_setIfInBounds, putL_size]); first | exact Nat.le_of_ble_eq_true rfl | (simp; omega)) (by kernel_rfl) (by rfl) ?_; clear KN; intro wx KN)
    refine hK.out _ _ ?cv4xk7 (fun hHeld2 => ?cv4xm7)
    case cv4xk7 => exact trivial
    clear hK K hHeld
    have hHeld := hHeld2; clear hHeld2
    (try simp only [Act.put, List.setIfInBounds_toArray, List.set_cons_zero, List.set_cons_succ])
    refine wpAnyH_take (i := 8) (oi := ⟨some 10, _, _, _, _, _⟩) (v := ?cv4xv8) rfl (by kernel_rfl) (by kernel_rfl) (by kernel_rfl) (fun _ _ _ h => h) (Or.inl ⟨by rfl, ?cv4xhy8⟩) hHeld ?cv4xr8
    case cv4xhy8 => (intro w hSw; (try dsimp only at hSw); go_simp; (try with_reducible rfl))
    (try simp only [Act.put, List.setIfInBounds_toArray, List.set_cons_zero, List.set_cons_succ])
    refine wpAnyH_ready (rs := [9]) (by kernel_rfl) (by simp) ?cv4xc9
    refine AllReadyH.cons (o := ⟨none, _, _, _, _, _⟩) rfl (fun K hK => ?cv4xst9) AllReadyH.nil
    (rw [if_pos (by rfl)]; refine wp_kn_store1 KN 22 _ _ rfl g1 2 rfl (.slice oa on oc) rfl rfl _ 63 (by repeat (first | exact Repl.here | apply Repl.there)) (by (try simp only [Array.size_setIfInBounds, putL_size]); first | exact Nat.le_of_ble_eq_true rfl | (simp; omega)) (by kernel_rfl) (by rfl) ?_; clear KN; intro wx KN)
    refine hK.out _ _ ?cv4xk9 (fun hHeld2 => ?cv4xm9)
    case cv4xk9 => exact trivial
    clear hK K hHeld
    have hHeld := hHeld2; clear hHeld2
    (try simp only [Act.put, List.setIfInBounds_toArray, List.set_cons_zero, List.set_cons_succ])
    refine wpAnyH_done (by kernel_rfl) ?cv4xdone _
    replace KN := KN.as_ g1 #[.int .i64 num, .slice ma mn mc, .slice oa on oc] (by repeat (first | exact Repl.here | apply Repl.there)) (by kernel_rfl)
    go_wp2_with (first | ((with_reducible refine wpList_gate ?_); first | ((with_reducible refine gate_load ?_ ?_); rfl; first | (refine ks_load1 KN 22 Tryz.underlying22 ?_) | (refine ks_loadW KN 63 Tryz.underlying63 ?_)) | ((with_reducible refine gate_store ?_ ?_); rfl; first | (refine ks_store1 KN 22 ?_; clear KN; intro wx KN) | (refine ks_storeW KN 63 ?_; clear KN; intro wx KN) | (refine ks_storeA KN 63 ?_; clear KN; intro wx KN)) | ((with_reducible refine gate_new ?_ ?_); rfl; first | (refine ks_boxA KN 63 (q := 1) ?_; clear KN; intro g1 wx hg1 KN) | (refine ks_alloc KN 63 (q := 2) #[.int .i64 0, .slice none 0 0, .slice none 0 0] ?_; clear KN; intro g2 wx hg2 KN))))
    refine bodyPost_ret (results_cell_row (p := 2) Tryz.results60 _ _ g2 63 #[.int .i64 num, .slice ma mn mc, .slice oa on oc] (0, 0) _ rfl (KN.at_ (by repeat (first | exact Has.here | refine Has.there ?_))) Tryz.underlying63 rfl (by kernel_rfl)) rfl ?_
    exact ⟨_, _, _, _, _, _, ol1, ol2, rfl, HO1.out, HO2.out, (by first | exact (KN.drop .here).drop .here | exact ((KN.drop .here).drop .here).perm List.perm_append_comm)⟩
end
end Go.Proofs.YtlhmeeidlhpodaaGreat
