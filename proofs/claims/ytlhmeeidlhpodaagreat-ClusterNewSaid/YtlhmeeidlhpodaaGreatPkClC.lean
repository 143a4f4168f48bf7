/- Merged: CClu, CUse, CIdx, CIdle. -/
import Derived.Test.YtlhmeeidlhpodaaGreatPkClB
import Derived.Test.YtlhmeeidlhpodaaGreatPkEngH
import Derived.Test.YtlhmeeidlhpodaaGreatPkCLem
set_option linter.unusedVariables false
set_option linter.unusedSimpArgs false
set_option linter.unusedSectionVars false
namespace Go.Proofs.YtlhmeeidlhpodaaGreat
section
open Go.RowKit Go.BigFrame
structure CluRd (w : World) (gc n sm gr gd gm : Nat) (ak : Option Addr) (ck : Nat) (mv : Value) : Prop where
  ck : w.cell? ⟨gc, 5, none⟩ = some (.slice ak n ck)
  cr : w.cell? ⟨gc, 6, none⟩ = some (.slice (some ⟨gr, 0, none⟩) n n)
  cd : w.cell? ⟨gc, 7, none⟩ = some (.slice (some ⟨gd, 0, none⟩) n n)
  cm : w.cell? ⟨gc, 8, none⟩ = some (.map (some gm))
  cn : w.cell? ⟨gc, 9, none⟩ = some (.int .i64 0)
  cv : w.cell? ⟨gc, 14, none⟩ = some mv
  rr : ∀ i, i < n → w.cell? ⟨gr, i, none⟩ = some (.bool (decide (i < sm)))
  rd : ∀ i, i < n → w.cell? ⟨gd, i, none⟩ = some (.bool false)
  hm : w.heap[gm]? = some (.map #[] 0)
  rm : Row w mv 1 (intRows (upto sm))
theorem CluRd.below {w w' : World} {gc n sm gr gd gm : Nat} {ak : Option Addr} {ck : Nat} {mv : Value} (h : CluRd w gc n sm gr gd gm ak ck mv) (hb : Below w.heap.size w w') : CluRd w' gc n sm gr gd gm ak ck mv :=
  ⟨(hb.cell (cell_spot h.ck).2).trans h.ck, (hb.cell (cell_spot h.cr).2).trans h.cr, (hb.cell (cell_spot h.cd).2).trans h.cd, (hb.cell (cell_spot h.cm).2).trans h.cm, (hb.cell (cell_spot h.cn).2).trans h.cn, (hb.cell (cell_spot h.cv).2).trans h.cv,
   fun i hi => (hb.cell (cell_spot (h.rr i hi)).2).trans (h.rr i hi), fun i hi => (hb.cell (cell_spot (h.rd i hi)).2).trans (h.rd i hi), (hb.block gm (Array.getElem?_eq_some_iff.1 h.hm).1).trans h.hm, h.rm.below hb⟩
section
variable {w : World} {gc n sm gr gd gm : Nat} {ak : Option Addr} {ck : Nat} {mv : Value}
set_option maxRecDepth 100000 in
theorem Now_any (h : CluRd w gc n sm gr gd gm ak ck mv) : Calls Tryz.prog 9 #[.pointer (some ⟨gc, 0, none⟩)] w fun e w' => e = .returned (.int .i64 0) ∧ w = w' := by
  have hc := h.cn
  clear h
  go_enter Tryz.func9, Tryz.ntmps9
  go_wp2
  go_ret
  exact ⟨rfl, rfl⟩
set_option maxRecDepth 100000 in
theorem isCoreC_any (h : CluRd w gc n sm gr gd gm ak ck mv) (i : Nat) (hi : i < n) : Calls Tryz.prog 28 #[.pointer (some ⟨gc, 0, none⟩), .int .i64 (i : Int)] w fun e w' => e = .returned (.bool true) ∧ w = w' := by
  have hc := h.ck
  have e1 : decide (i < n) = true := decide_eq_true hi
  clear h
  go_enter Tryz.func28, Tryz.ntmps28
  go_wp2
  go_ret
  exact ⟨rfl, rfl⟩
set_option maxRecDepth 100000 in
theorem Running_any (h : CluRd w gc n sm gr gd gm ak ck mv) (i : Nat) (hi : i < n) : Calls Tryz.prog 10 #[.pointer (some ⟨gc, 0, none⟩), .int .i64 (i : Int)] w fun e w' => e = .returned (.bool (decide (i < sm))) ∧ w = w' := by
  have hc := h.cr
  have hr := h.rr i hi
  have HI := Lib.hid (isCoreC_any h i hi)
  obtain ⟨b, hb⟩ : ∃ b, b = decide (i < sm) := ⟨_, rfl⟩
  rw [← hb] at hr ⊢
  clear h hb
  go_enter Tryz.func10, Tryz.ntmps10
  go_wp2_with (go_at_call 28; refine HI.out.mono ?_; rintro e wx ⟨rfl, rfl⟩)
  go_ret
  exact ⟨rfl, rfl⟩
set_option maxRecDepth 100000 in
theorem unknown_any (h : CluRd w gc n sm gr gd gm ak ck mv) (i j : Nat) (hi : i < n) (hj : j < n) : Calls Tryz.prog 46 #[.pointer (some ⟨gc, 0, none⟩), .int .i64 (i : Int), .int .i64 (j : Int)] w fun e w' => e = .returned (.bool false) ∧ w = w' := by
  have hc := h.cr
  have hc2 := h.cd
  have hr := h.rr i hi
  have hd := h.rd j hj
  by_cases hb : i < sm
  · rw [decide_eq_true hb] at hr
    clear h hb
    go_enter Tryz.func46, Tryz.ntmps46
    go_wp2
    go_ret
    exact ⟨rfl, rfl⟩
  · rw [decide_eq_false hb] at hr
    clear h hb
    go_enter Tryz.func46, Tryz.ntmps46
    go_wp2
    go_ret
    exact ⟨rfl, rfl⟩
/-- An event that Calm considers. -/
def evA (k : Int) (i j : Nat) : Array Value := #[.int .i64 k, .int .i64 (i : Int), .int .i64 (j : Int), .int .i64 0, .int .i64 0, .int .i64 0, .int .i64 0, .int .i64 0, .int .i64 0, .int .i64 0, .int .i64 0, .int .i64 0, .int .i64 0, .int .i64 0, .int .i64 0, .int .i64 0]
theorem lookup_empty {wx : World} (h : wx.heap[gm]? = some (.map #[] 0)) (i j : Nat) : (Instr.lookup 59 (.map (some gm)) (.agg #[.int .i64 (i : Int), .int .i64 (j : Int)]) false).run Tryz.prog wx = .ok (.slice none 0 0) wx := by
  have hgo : Sem.run Tryz.prog (getObj gm) wx = .ok (.map #[] 0) wx := by simp only [getObj, Sem.run, h]
  have h1 : Sem.run Tryz.prog (underlying 59) wx = .ok (.map 83 41) wx := by kernel_rfl
  have h2 : Sem.run Tryz.prog (Instr.checkKey true 10000 83 (.agg #[.int .i64 (i : Int), .int .i64 (j : Int)])) wx = .ok () wx := by kernel_rfl
  have h3 : Sem.run Tryz.prog (Instr.findKey 83 (.agg #[.int .i64 (i : Int), .int .i64 (j : Int)]) []) wx = .ok none wx := by kernel_rfl
  have h4 : Sem.run Tryz.prog (zeroValue 41) wx = .ok (.slice none 0 0) wx := by kernel_rfl
  unfold Instr.lookup
  rw [Sem.run_bind, h1, Result.andThen_ok]
  dsimp only
  rw [Sem.run_bind, hgo, Result.andThen_ok]
  dsimp only
  rw [Sem.run_bind, Sem.run_pure, Result.andThen_ok, Sem.run_bind]
  erw [h2]
  rw [Result.andThen_ok, Sem.run_bind]
  erw [h3]
  rw [Result.andThen_ok]
  dsimp only
  rw [Sem.run_bind, h4]
  rfl
end
end
section
open Go.RowKit Go.BigFrame
theorem yields_lookup {P : Program} {ops : Array Oper} {op : Oper} {a : Act} {S : World → Prop} (hw : Region.wanted op (yielded ops a.tmps) = true) (t : TypeId) (x y : Operand) (ho : op.op = .lookup t x y false) (m k v : Value) (hx : a.eval x = m) (hy : a.eval y = k)
    (hr : ∀ w, S w → (Instr.lookup t m k false).run P w = .ok v w) : YieldsIf P ops S op v a := .inl ⟨hw, fun w hS => by
  unfold execOp
  simp only [ho, hx, hy, Sem.run_bind, hr w hS, Result.andThen_ok, Sem.run_pure]⟩
section
variable {w : World} {gc n sm gr gd gm : Nat} {ak : Option Addr} {ck : Nat} {mv : Value}
set_option maxRecDepth 100000 in
set_option maxHeartbeats 4000000 in
theorem useful4_any (h : CluRd w gc n sm gr gd gm ak ck mv) (i j : Nat) (hi : i < n) (hj : j < n) : Calls Tryz.prog 27 #[.pointer (some ⟨gc, 0, none⟩), .agg (evA 4 i j)] w fun e w' => e = .returned (.bool false) ∧ Below w.heap.size w w' := by
  have KN := Kn.start w
  have HU : Hid (∀ wx, Below w.heap.size w wx → Calls Tryz.prog 46 #[.pointer (some ⟨gc, 0, none⟩), .int .i64 (i : Int), .int .i64 (j : Int)] wx fun e w' => e = .returned (.bool false) ∧ wx = w') := Lib.hid fun wx hb => unknown_any (h.below hb) i j hi hj
  clear h
  unfold evA
  go_enter Tryz.func27, Tryz.ntmps27
  go_wp2_with (first | (go_at_call 46; refine (HU.out _ KN.toBelow).mono ?_; rintro e wx ⟨rfl, rfl⟩) | ((with_reducible refine wpList_gate ?_); first | ((with_reducible refine gate_load ?_ ?_); rfl; first | (refine ks_load1 KN 3 Tryz.underlying3 ?_) | (refine ks_load1 KN 59 Tryz.underlying59 ?_)) | ((with_reducible refine gate_new ?_ ?_); rfl; first | (refine ks_boxA KN 40 (q := 3) ?_; clear KN; intro g3 wx hg3 KN))))
  go_ret
  exact ⟨rfl, KN.toBelow⟩
set_option maxRecDepth 100000 in
set_option maxHeartbeats 4000000 in
theorem useful2_any (h : CluRd w gc n sm gr gd gm ak ck mv) (i j : Nat) (hi : i < n) (hj : j < n) : Calls Tryz.prog 27 #[.pointer (some ⟨gc, 0, none⟩), .agg (evA 2 i j)] w fun e w' => e = .returned (.bool false) ∧ Below w.heap.size w w' := by
  have KN := Kn.start w
  have hgm := (Array.getElem?_eq_some_iff.1 h.hm).1
  have hgc := (cell_spot h.cm).2
  have HM := Lib.hid h.hm
  have HCM := Lib.hid h.cm
  clear h
  unfold evA
  go_enter Tryz.func27, Tryz.ntmps27
  go_upto_region 3 with (first | ((with_reducible refine wpList_gate ?_); first | ((with_reducible refine gate_load ?_ ?_); rfl; first | (refine ks_load1 KN 3 Tryz.underlying3 ?_) | (refine ks_load1 KN 59 Tryz.underlying59 ?_)) | ((with_reducible refine gate_new ?_ ?_); rfl; first | (refine ks_boxA KN 40 (q := 3) ?_; clear KN; intro g3 wx hg3 KN))))
  (try go_frame)
  replace KN := KN.drew
  refine wp_region_held_drew (S := (fun w' => BlkT w' g3 (evA 2 i j) 40 ∧ w'.cell? ⟨gc, 8, none⟩ = some (.map (some gm)) ∧ w'.heap[gm]? = some (.map #[] 0))) (by kernel_rfl) ?ushS (fun hHeld => ?usrest)
  case ushS => exact ⟨KN.at_ (by repeat (first | exact Has.here | refine Has.there ?_)), (KN.old hgc (by simp)).trans HCM.out, (KN.frame gm hgm (by simp)).trans HM.out⟩
  refine wpAnyH_take (i := 0) (oi := ⟨some 14, _, _, _, _, _⟩) (v := ?usv0) rfl (by kernel_rfl) (by kernel_rfl) (by kernel_rfl) (fun _ _ _ h => h) (Or.inl ⟨by rfl, ?ushy0⟩) hHeld ?usr0
  case ushy0 => (intro w hSw; (try dsimp only at hSw); go_simp; (try with_reducible rfl))
  (try simp only [Act.put, List.setIfInBounds_toArray, List.set_cons_zero, List.set_cons_succ])
  refine wpAnyH_take (i := 1) (oi := ⟨some 15, _, _, _, _, _⟩) (v := ?usv1) rfl (by kernel_rfl) (by kernel_rfl) (by kernel_rfl) (fun _ _ _ h => h) (Or.inl ⟨by rfl, ?ushy1⟩) hHeld ?usr1
  case ushy1 => (intro w hSw; (try dsimp only at hSw); go_simp; (try with_reducible rfl))
  (try simp only [Act.put, List.setIfInBounds_toArray, List.set_cons_zero, List.set_cons_succ])
  refine wpAnyH_take (i := 2) (oi := ⟨some 16, _, _, _, _, _⟩) (v := ?usv2) rfl (by kernel_rfl) (by kernel_rfl) (by kernel_rfl) (fun _ _ _ h => h) (Or.inl ⟨by rfl, ?ushy2⟩) hHeld ?usr2
  case ushy2 => (intro w hSw; (try dsimp only at hSw); go_simp; (try with_reducible rfl))
  (try simp only [Act.put, List.setIfInBounds_toArray, List.set_cons_zero, List.set_cons_succ])
  refine wpAnyH_take (i := 3) (oi := ⟨some 17, _, _, _, _, _⟩) (v := (.map (some gm))) rfl (by kernel_rfl) (by kernel_rfl) (by kernel_rfl) (fun _ _ _ h => h) (kn_yields_cell (by rfl) 59 _ rfl gc 8 rfl _ (fun _ h => h.2.1) _ Tryz.underlying59 rfl) hHeld ?usr3
  (try simp only [Act.put, List.setIfInBounds_toArray, List.set_cons_zero, List.set_cons_succ])
  refine wpAnyH_take (i := 4) (oi := ⟨some 18, _, _, _, _, _⟩) (v := ?usv4) rfl (by kernel_rfl) (by kernel_rfl) (by kernel_rfl) (fun _ _ _ h => h) (Or.inl ⟨by rfl, ?ushy4⟩) hHeld ?usr4
  case ushy4 => (intro w hSw; (try dsimp only at hSw); go_simp; (try with_reducible rfl))
  (try simp only [Act.put, List.setIfInBounds_toArray, List.set_cons_zero, List.set_cons_succ])
  refine wpAnyH_take (i := 5) (oi := ⟨some 19, _, _, _, _, _⟩) (v := (.int .i64 (i : Int))) rfl (by kernel_rfl) (by kernel_rfl) (by kernel_rfl) (fun _ _ _ h => h) (kn_yields1 (by rfl) 3 _ rfl g3 1 rfl _ 40 (fun _ h => h.1) _ rfl _ Tryz.underlying3 rfl) hHeld ?usr5
  (try simp only [Act.put, List.setIfInBounds_toArray, List.set_cons_zero, List.set_cons_succ])
  refine wpAnyH_take (i := 6) (oi := ⟨some 20, _, _, _, _, _⟩) (v := ?usv6) rfl (by kernel_rfl) (by kernel_rfl) (by kernel_rfl) (fun _ _ _ h => h) (Or.inl ⟨by rfl, ?ushy6⟩) hHeld ?usr6
  case ushy6 => (intro w hSw; (try dsimp only at hSw); go_simp; (try with_reducible rfl))
  (try simp only [Act.put, List.setIfInBounds_toArray, List.set_cons_zero, List.set_cons_succ])
  refine wpAnyH_take (i := 7) (oi := ⟨some 21, _, _, _, _, _⟩) (v := (.int .i64 (j : Int))) rfl (by kernel_rfl) (by kernel_rfl) (by kernel_rfl) (fun _ _ _ h => h) (kn_yields1 (by rfl) 3 _ rfl g3 2 rfl _ 40 (fun _ h => h.1) _ rfl _ Tryz.underlying3 rfl) hHeld ?usr7
  (try simp only [Act.put, List.setIfInBounds_toArray, List.set_cons_zero, List.set_cons_succ])
  refine wpAnyH_take (i := 8) (oi := ⟨some 22, _, _, _, _, _⟩) (v := (.agg #[.int .i64 (i : Int), .int .i64 (j : Int)])) rfl (by kernel_rfl) (by kernel_rfl) (by kernel_rfl) (fun _ _ _ h => h) (yields_built (by rfl) 83 #[(0, .tmp 19), (1, .tmp 21)] rfl _ (by kernel_rfl)) hHeld ?usr8
  (try simp only [Act.put, List.setIfInBounds_toArray, List.set_cons_zero, List.set_cons_succ])
  refine wpAnyH_take (i := 9) (oi := ⟨some 23, _, _, _, _, _⟩) (v := (.slice none 0 0)) rfl (by kernel_rfl) (by kernel_rfl) (by kernel_rfl) (fun _ _ _ h => h) (yields_lookup (by rfl) 59 (.tmp 17) (.tmp 22) rfl (.map (some gm)) (.agg #[.int .i64 (i : Int), .int .i64 (j : Int)]) _ rfl rfl (fun _ h => lookup_empty h.2.2 i j)) hHeld ?usr9
  (try simp only [Act.put, List.setIfInBounds_toArray, List.set_cons_zero, List.set_cons_succ])
  refine wpAnyH_take (i := 10) (oi := ⟨some 24, _, _, _, _, _⟩) (v := ?usv10) rfl (by kernel_rfl) (by kernel_rfl) (by kernel_rfl) (fun _ _ _ h => h) (Or.inl ⟨by rfl, ?ushy10⟩) hHeld ?usr10
  case ushy10 => (intro w hSw; (try dsimp only at hSw); go_simp; (try with_reducible rfl))
  (try simp only [Act.put, List.setIfInBounds_toArray, List.set_cons_zero, List.set_cons_succ])
  refine wpAnyH_take (i := 11) (oi := ⟨some 25, _, _, _, _, _⟩) (v := ?usv11) rfl (by kernel_rfl) (by kernel_rfl) (by kernel_rfl) (fun _ _ _ h => h) (Or.inl ⟨by rfl, ?ushy11⟩) hHeld ?usr11
  case ushy11 => (intro w hSw; (try dsimp only at hSw); go_simp; (try with_reducible rfl))
  (try simp only [Act.put, List.setIfInBounds_toArray, List.set_cons_zero, List.set_cons_succ])
  refine wpAnyH_take (i := 12) (oi := ⟨some 4, _, _, _, _, _⟩) (v := ?usv12) rfl (by kernel_rfl) (by kernel_rfl) (by kernel_rfl) (fun _ _ _ h => h) (Or.inl ⟨by rfl, ?ushy12⟩) hHeld ?usr12
  case ushy12 => (intro w hSw; (try dsimp only at hSw); go_simp; (try with_reducible rfl))
  (try simp only [Act.put, List.setIfInBounds_toArray, List.set_cons_zero, List.set_cons_succ])
  refine wpAnyH_done (by kernel_rfl) ?usdone _
  go_wp2_with fail
  go_ret
  exact ⟨rfl, KN.toBelow⟩
def evRow (x : Int × Nat × Nat) : List Value := (evA x.1 x.2.1 x.2.2).toList
/-- Events of cores below n that Calm considers. -/
def EvOk (n : Nat) (l : List (Int × Nat × Nat)) : Prop := ∀ x ∈ l, (x.1 = 4 ∨ x.1 = 2) ∧ x.2.1 < n ∧ x.2.2 < n
theorem useful_any (h : CluRd w gc n sm gr gd gm ak ck mv) {x : Int × Nat × Nat} (hx : (x.1 = 4 ∨ x.1 = 2) ∧ x.2.1 < n ∧ x.2.2 < n) : Calls Tryz.prog 27 #[.pointer (some ⟨gc, 0, none⟩), .agg (evA x.1 x.2.1 x.2.2)] w fun e w' => e = .returned (.bool false) ∧ Below w.heap.size w w' := by
  rcases hx.1 with e | e
  · rw [e]; exact useful4_any h _ _ hx.2.1 hx.2.2
  · rw [e]; exact useful2_any h _ _ hx.2.1 hx.2.2
end
end
section
open Go.RowKit Go.BigFrame
theorem ev_at {w : World} {v : Value} {l : List (Int × Nat × Nat)} (h : Row w v 16 (l.map evRow)) : ∃ a c, v = .slice a l.length c ∧ l.length ≤ maxLen ∧ ∀ (k : Nat) (x : Int × Nat × Nat), l[k]? = some x → ∃ (g off : Nat), a = some ⟨g, off, none⟩ ∧ g < w.heap.size ∧ l.length ≤ c ∧ c ≤ maxLen ∧ w.rangeAt g (off + k * 16) (evRow x) := by
  have hm := h.1
  rw [List.length_map] at hm
  rcases h.2 with ⟨h0, a, c, rfl⟩ | ⟨b, off, cap, hv, h0, hl, hmm, hb, hc⟩
  · have : l = [] := by simpa using h0
    subst this
    exact ⟨a, c, rfl, by simp, fun k x hx => by simp at hx⟩
  · rw [List.length_map] at hv hl
    refine ⟨_, _, hv, hm, fun k x hk => ?_⟩
    refine ⟨b, off, rfl, hb, hl, hmm, fun j u hj => ?_⟩
    have := hc k (evRow x) j u (by rw [List.getElem?_map, hk]; rfl) hj
    rw [← this]
section
variable {w : World} {gc n sm gr gd gm : Nat} {ak : Option Addr} {ck : Nat} {mv : Value}
def ILoop (w : World) (n : Nat) (i : Value) (wr : World) : Prop := ∃ k : Nat, i = .int .i64 (k : Int) ∧ k ≤ n ∧ Kn [] w wr []
set_option maxRecDepth 100000 in
set_option maxHeartbeats 4000000 in
theorem IndexU_any (h : CluRd w gc n sm gr gd gm ak ck mv) {v : Value} {l : List (Int × Nat × Nat)} (hr : Row w v 16 (l.map evRow)) (hl : EvOk n l) :
    Calls Tryz.prog 45 #[v, .func (.func 27) #[.pointer (some ⟨gc, 0, none⟩)] #[]] w fun e w' => e = .returned (.int .i64 (-1)) ∧ Below w.heap.size w w' := by
  have KN := Kn.start w
  obtain ⟨a, c, rfl, hm, hf⟩ := ev_at hr
  have HF := Lib.hid hf
  have HU : Hid (∀ (wx : World) (x : Int × Nat × Nat), Below w.heap.size w wx → x ∈ l → Calls Tryz.prog 27 #[.pointer (some ⟨gc, 0, none⟩), .agg (evA x.1 x.2.1 x.2.2)] wx fun e w' => e = .returned (.bool false) ∧ Below wx.heap.size wx w') := Lib.hid fun wx x hb hx => useful_any (h.below hb) (hl x hx)
  obtain ⟨m, hmn⟩ : ∃ m, m = l.length := ⟨_, rfl⟩
  have HN := Lib.hid hmn
  rw [← hmn] at hm ⊢
  unfold maxLen at hm
  clear h hr hl hf hmn
  go_enter Tryz.func45, Tryz.ntmps45
  go_wp2_with fail
  go_loopw [8] (fun i wr => ILoop w m i wr) (fun i _ => m - (intOf i).toNat)
  case atStart => exact ⟨0, rfl, Nat.zero_le _, KN⟩
  case round =>
    clear KN
    obtain ⟨k, rfl, hk, KN⟩ := hrel
    by_cases hlt : k < m
    · obtain ⟨⟨kd, i, j⟩, hx⟩ : ∃ x, l[k]? = some x := ⟨_, List.getElem?_eq_getElem (by rw [← HN.out]; exact hlt)⟩
      obtain ⟨g, off, rfl, hg, hc1, hc2, hrng⟩ := HF.out k _ hx
      rw [← HN.out] at hc1
      unfold maxLen at hc2
      have HUX := Lib.hid (fun wx hb => HU.out wx (kd, i, j) hb (List.mem_of_getElem? hx))
      have HRNG : Hid (w.rangeAt g (off + k * 16) (evA kd i j).toList) := Lib.hid hrng
      clear hx hrng
      go_wp2_with (first | (refine wpList_kn_oldN KN (by rfl) 40 _ rfl g _ rfl (evA kd i j) HRNG.out hg (by simp) _ Tryz.underlying40 rfl (by kernel_rfl) ?_) | (go_at_call 27; refine (HUX.out _ KN.toBelow).mono ?_; rintro e wx ⟨rfl, hb1⟩; replace KN := KN.below hb1; clear hb1))
      go_roundw
      case rel => exact ⟨k + 1, by go_num, by omega, KN⟩
      case measure => simp [intOf]; omega
    · obtain rfl : m = k := by omega
      go_wp2_with fail
      go_ret
      exact ⟨rfl, KN.toBelow⟩
set_option maxRecDepth 100000 in
theorem ContainsU_any (h : CluRd w gc n sm gr gd gm ak ck mv) {v : Value} {l : List (Int × Nat × Nat)} (hr : Row w v 16 (l.map evRow)) (hl : EvOk n l) :
    Calls Tryz.prog 25 #[v, .func (.func 27) #[.pointer (some ⟨gc, 0, none⟩)] #[]] w fun e w' => e = .returned (.bool false) ∧ Below w.heap.size w w' := by
  have HI := Lib.hid (IndexU_any h hr hl)
  obtain ⟨a, c, rfl, _⟩ := ev_at hr
  clear h hr hl
  go_enter Tryz.func25, Tryz.ntmps25
  go_wp2_with (go_at_call 45; refine HI.out.mono ?_; rintro e wx ⟨rfl, hb1⟩; have HB := Lib.hid hb1; clear hb1)
  go_ret
  exact ⟨rfl, HB.out⟩
end
end
section
open Go.RowKit Go.BigFrame
theorem evRow_len (l : List (Int × Nat × Nat)) : ∀ c ∈ l.map evRow, c.length = 16 := by
  intro c h
  obtain ⟨x, _, rfl⟩ := List.mem_map.1 h
  rfl
theorem evRow_one (l : List (Int × Nat × Nat)) : ∀ c ∈ l.map evRow, ∀ u ∈ c, u.oneCell' = true := by
  intro c h u hu
  obtain ⟨x, _, rfl⟩ := List.mem_map.1 h
  simp [evRow, evA] at hu
  rcases hu with rfl | rfl | rfl | rfl <;> rfl
theorem EvOk.snoc {n : Nat} {l : List (Int × Nat × Nat)} (h : EvOk n l) {k : Int} {i j : Nat} (hk : k = 4 ∨ k = 2) (hi : i < n) (hj : j < n) : EvOk n (l ++ [(k, i, j)]) := fun x hx => by
  rcases List.mem_append.1 hx with hx | hx
  · exact h x hx
  · have : x = (k, i, j) := by simpa using hx
    subst this
    exact ⟨hk, hi, hj⟩
theorem EvOk.app {n : Nat} {l r : List (Int × Nat × Nat)} (h : EvOk n l) (h2 : EvOk n r) : EvOk n (l ++ r) := fun x hx => by
  rcases List.mem_append.1 hx with hx | hx
  · exact h x hx
  · exact h2 x hx
theorem ev_info : (Tryz.prog.info? 40).map (fun i => (i.size, i.bytes, i.zero.map (·.cells.size))) = some (16, 128, some 16) := by kernel_rfl
/-- Two lists of events while they grow: q events in each. -/
def TwoEv (w : World) (n q : Nat) (v3 v4 : Value) (wr : World) : Prop := ∃ (l1 l2 : List (Int × Nat × Nat)) (o1 o2 : Ents), OwnT 40 16 v3 (l1.map evRow) o1 ∧ OwnT 40 16 v4 (l2.map evRow) o2 ∧ EvOk n l1 ∧ EvOk n l2 ∧ l1.length = q ∧ l2.length = q ∧ Kn [] w wr (o1 ++ o2)
def JOut (w : World) (n : Nat) (v3 v4 i : Value) (wr : World) : Prop := ∃ k : Nat, i = .int .i64 (k : Int) ∧ k ≤ n ∧ TwoEv w n (k * n) v3 v4 wr
def JIn (w : World) (n k : Nat) (v3 v4 i : Value) (wr : World) : Prop := ∃ j : Nat, i = .int .i64 (j : Int) ∧ j ≤ n ∧ TwoEv w n (k * n + j) v3 v4 wr
section
variable {w : World} {gc n sm gr gd gm : Nat} {ak : Option Addr} {ck : Nat} {mv : Value}
def IdleOut (n : Nat) (w : World) (e : Ending) (w' : World) : Prop := ∃ (v : Value) (l : List (Int × Nat × Nat)) (ol : Ents), e = .returned v ∧ OwnT 40 16 v (l.map evRow) ol ∧ EvOk n l ∧ Kn [] w w' ol
set_option maxRecDepth 100000 in
set_option maxHeartbeats 8000000 in
theorem idle_any (h : CluRd w gc n sm gr gd gm ak ck mv) (hn : n ≤ 32) : Calls Tryz.prog 26 #[.pointer (some ⟨gc, 0, none⟩)] w (IdleOut n w) := by
  have KN := Kn.start w
  have HK := Lib.hid h.ck
  clear h
  go_enter Tryz.func26, Tryz.ntmps26
  go_wp2_with (refine wpList_kn_old1 KN (by rfl) 60 _ rfl gc 5 rfl _ HK.out (by simp) _ Tryz.underlying60 rfl ?_)
  go_loopw [3, 4, 12] (fun v3 v4 i wr => JOut w n v3 v4 i wr) (fun _ _ i _ => n - (intOf i).toNat)
  case atStart => exact ⟨0, rfl, Nat.zero_le _, [], [], [], [], .nil, .nil, fun _ h => absurd h (by simp), fun _ h => absurd h (by simp), by simp, by simp, KN⟩
  case round =>
    clear KN
    obtain ⟨k, rfl, hk, htwo⟩ := hrel
    have HT := Lib.hid htwo
    obtain ⟨_, _, _, _, _, _, _, _, _, _, KN⟩ := htwo
    by_cases hlt : k < n
    · go_wp2_with (refine wpList_kn_old1 KN (by rfl) 60 _ rfl gc 5 rfl _ HK.out (by simp) _ Tryz.underlying60 rfl ?_)
      go_loopw [3, 4, 20] (fun v3 v4 i wr => JIn w n k v3 v4 i wr) (fun _ _ i _ => n - (intOf i).toNat)
      case atStart => exact ⟨0, rfl, Nat.zero_le _, HT.out⟩
      case round =>
        clear KN HT
        obtain ⟨j, rfl, hj, l1, l2, o1, o2, O1, O2, E1, E2, L1, L2, KN⟩ := hrel
        by_cases hjt : j < n
        · have HO1 := Lib.hid O1
          have HO2 := Lib.hid O2
          have HE1 := Lib.hid (E1.snoc (.inl rfl) hlt hjt)
          have HE2 := Lib.hid (E2.snoc (.inr rfl) hlt hjt)
          have hkn : k * n ≤ 31 * 32 := Nat.mul_le_mul (by omega) hn
          have HL1 := Lib.hid L1
          have HL2 := Lib.hid L2
          have HQ : Hid (k * n + j ≤ 2000) := Lib.hid (by omega)
          obtain ⟨a1, n1, c1, rfl⟩ := O1.form3
          obtain ⟨a2, n2, c2, rfl⟩ := O2.form3
          clear O1 O2 E1 E2 L1 L2 hkn
          go_wp2_with (first | (refine wpList_built rfl 40 #[(0, .const (.int .i64 4)), (1, .tmp 24), (2, .tmp 25)] rfl (evA 4 k j) (by kernel_rfl) ?_) | (refine wpList_built rfl 40 #[(0, .const (.int .i64 2)), (1, .tmp 30), (2, .tmp 31)] rfl (evA 2 k j) (by kernel_rfl) ?_) | (refine wpList_kn_lit KN (by rfl) 77 40 1 _ rfl 27 rfl Tryz.underlying77 (evA 4 k j) (by kernel_rfl) ?_; clear KN; intro g27 wx hg27 KN; replace KN := KN.perm (List.Perm.cons _ List.perm_append_comm)) | (refine wpList_kn_lit KN (by rfl) 77 40 1 _ rfl 33 rfl Tryz.underlying77 (evA 2 k j) (by kernel_rfl) ?_; clear KN; intro g33 wx hg33 KN; replace KN := KN.perm (List.Perm.cons _ List.perm_append_comm)) | (at_builtin; refine wpList_kn_append1 KN HO1.out (by rfl) _ _ 77 rfl 128 Tryz.underlying77 ev_info (by decide) rfl 1 rfl rfl (by kernel_rfl) (by rw [List.length_map, HL1.out]; have := HQ.out; unfold maxLen; omega) (by rw [List.length_map, HL1.out]; have := HQ.out; omega) (f := fun o => o2 ++ o) (.app .id _) rfl ?_; clear KN; intro v28 wx o1' OW28 KN; have HO28 := Lib.hid OW28; clear OW28) | (at_builtin; refine wpList_kn_append1 KN HO2.out (by rfl) _ _ 77 rfl 128 Tryz.underlying77 ev_info (by decide) rfl 1 rfl rfl (by kernel_rfl) (by rw [List.length_map, HL2.out]; have := HQ.out; unfold maxLen; omega) (by rw [List.length_map, HL2.out]; have := HQ.out; omega) (f := fun o => o1' ++ o) (.app .id _) rfl ?_; clear KN; intro v34 wx o2' OW34 KN; have HO34 := Lib.hid OW34; clear OW34))
          go_roundw
          case rel =>
            refine ⟨j + 1, by go_num, by omega, l1 ++ [(4, k, j)], l2 ++ [(2, k, j)], o1', o2', ?_, ?_, HE1.out, HE2.out, ?_, ?_, KN⟩
            · rw [List.map_append]; exact HO28.out
            · rw [List.map_append]; exact HO34.out
            · rw [List.length_append, HL1.out]; rfl
            · rw [List.length_append, HL2.out]; rfl
          case measure => simp [intOf]; omega
        · obtain rfl : n = j := by omega
          have HT2 : Hid (TwoEv w n ((k + 1) * n) _ _ _) := Lib.hid ⟨l1, l2, o1, o2, O1, O2, E1, E2, by rw [L1, Nat.add_mul, Nat.one_mul], by rw [L2, Nat.add_mul, Nat.one_mul], KN⟩
          clear O1 O2 E1 E2 L1 L2 KN
          go_wp2_with fail
          go_roundw
          case rel => exact ⟨k + 1, by go_num, by omega, HT2.out⟩
          case measure => simp [intOf]; omega
    · obtain rfl : n = k := by omega
      clear KN
      obtain ⟨l1, l2, o1, o2, O1, O2, E1, E2, L1, L2, KN⟩ := HT.out
      have HO1 := Lib.hid O1
      have HO2 := Lib.hid O2
      have HE := Lib.hid (E1.app E2)
      have hnn : n * n ≤ 32 * 32 := Nat.mul_le_mul hn hn
      have HQ : Hid (l1.length ≤ 1024 ∧ l2.length ≤ 1024) := Lib.hid ⟨by omega, by omega⟩
      obtain ⟨a1, n1, c1, rfl⟩ := O1.form3
      obtain ⟨a2, n2, c2, rfl⟩ := O2.form3
      clear O1 O2 E1 E2 L1 L2 hnn HT
      have HR := Lib.hid (HO2.out.row (f := fun o => o1 ++ o) KN (.app .id _))
      replace KN := KN.perm List.perm_append_comm
      go_wp2_with (at_builtin; refine wpList_kn_appendR (f := fun o => o2 ++ o) KN HO1.out (by rfl) _ _ 77 rfl 128 Tryz.underlying77 ev_info (by decide) rfl (.slice a2 n2 c2) rfl _ HR.out (evRow_len _) (evRow_one _) (by rw [List.length_map, List.length_map]; have := HQ.out; unfold maxLen; omega) (by rw [List.length_map, List.length_map]; have := HQ.out; omega) (.app .id _) rfl ?_; clear KN; intro v39 wx o39 OW39 KN; have HO39 := Lib.hid OW39; clear OW39)
      go_ret
      exact ⟨v39, l1 ++ l2, o39, rfl, by rw [List.map_append]; exact HO39.out, HE.out, KN.sub (List.sublist_append_right _ _)⟩
set_option maxRecDepth 100000 in
theorem Quiet_any (h : CluRd w gc n sm gr gd gm ak ck mv) (hn : n ≤ 32) : Calls Tryz.prog 8 #[.pointer (some ⟨gc, 0, none⟩)] w fun e w' => e = .returned (.bool true) ∧ Below w.heap.size w w' := by
  have KN := Kn.start w
  have HI := Lib.hid (idle_any h hn)
  have HH := Lib.hid h
  clear h
  go_enter Tryz.func8, Tryz.ntmps8
  go_wp2_with (first | (go_at_call 26; refine HI.out.mono ?_; rintro e wx ⟨v, l, ol, rfl, OW, hE, KN⟩; have HR := Lib.hid (OW.row (f := fun o => o) KN .id); have HE := Lib.hid hE; clear OW hE; have HKN := Lib.hid KN) | (go_at_call 25; refine (ContainsU_any (HH.out.below HKN.out.toBelow) HR.out HE.out).mono ?_; rintro e wx ⟨rfl, hb1⟩; have HB := Lib.hid hb1; clear hb1))
  go_ret
  exact ⟨rfl, (HKN.out.below HB.out).toBelow⟩
end
end
end Go.Proofs.YtlhmeeidlhpodaaGreat
