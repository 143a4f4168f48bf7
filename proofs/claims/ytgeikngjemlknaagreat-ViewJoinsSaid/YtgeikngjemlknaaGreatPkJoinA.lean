/- Merged: SeqC, Col, Plc. -/
import Derived.Test.YtgeikngjemlknaaGreatPkGenJ
import Derived.TacticsIn
import Derived.LoopIn
import Derived.LoopNIn
import Derived.OwnWalkIn
import Derived.OwnWalk
import Derived.RangeFuncFrom
import Derived.RangeFuncBox
import Derived.RangeFuncLeaves
import Derived.Maps.AppendAt
import Derived.Test.YtgeikngjemlknaaGreatPkEngH
set_option linter.unusedVariables false
set_option linter.unusedSimpArgs false
set_option linter.unusedSectionVars false
namespace Go.Proofs.YtgeikngjemlknaaGreat
section
open Go.RowKit Go.BigFrame Go.Maps
attribute [local go_sem] Oper.semAt_some

theorem take_snocI {l : List Int} {k : Nat} {x : Int} (h : l[k]? = some x) : l.take (k + 1) = l.take k ++ [x] := by rw [List.take_add_one, h]; rfl
def natV : Value → Nat | .int _ q => q.toNat | _ => 0
set_option maxRecDepth 100000 in
set_option maxHeartbeats 2000000 in
/-- The iterator, for every loop body that keeps what lay below n₀. -/
theorem values1_in (n : Nat) (hn : 1 ≤ n) (l Bs n₀ b off len cap : Nat) (zs : List Int) (hlz : len = zs.length) (hreach : len ≤ 1000000) (hcap : len ≤ cap) (hcm : cap ≤ maxLen) (hb : b < n₀) (J Jx : List Int → World → Prop)
    (hY : ∀ pre x W, J pre W → pre.length < len → YieldAt Fence.wide (n - 1) Tryz.prog l #[.int .i64 x] W fun e W' =>
      (e = .returned (.bool true) ∧ J (pre ++ [x]) W' ∧ Below n₀ W W') ∨ (e = .returned (.bool false) ∧ Jx (pre ++ [x]) W'))
    (W : World) (hBs : W.cell? ⟨Bs, 0, none⟩ = some (.slice (some ⟨b, off, none⟩) len cap)) (hc : ∀ (j : Nat) (x : Int), zs[j]? = some x → W.cell? ⟨b, off + j, none⟩ = some (.int .i64 x)) (h0 : J [] W) :
    CallsIn Fence.wide n Tryz.prog 168 #[.func (.yield l) #[] #[], .pointer (some ⟨Bs, 0, none⟩)] W fun e W' => (∃ v, e = .returned v) ∧
      ((∃ ys, ys = zs ∧ J ys W') ∨ (∃ pre, pre <+: zs ∧ Jx pre W')) := by
  unfold maxLen at hcm
  refine callsIn_of_wp Tryz.func168 rfl trivial ?_ rfl
  simp only [Tryz.ntmps168, List.size_toArray, List.length_cons, List.length_nil, Nat.reduceAdd, Nat.reduceSub, Array.replicate_succ, Array.replicate_zero, List.push_toArray, List.append_toArray, List.nil_append, List.cons_append]
  gi_wp2
  gi_loopw [7] (fun i wr => ∃ k : Nat, k ≤ len ∧ i = .int .i64 k ∧ J (zs.take k) wr ∧ Below n₀ W wr)
    (fun i _ => len - natV i)
  case atStart => exact ⟨0, Nat.zero_le _, rfl, h0, Below.refl _ _⟩
  case round =>
    obtain ⟨k, hk, rfl, hJs, hnx⟩ := hrel
    by_cases hlt : k < len
    · obtain ⟨x, hx⟩ : ∃ x, zs[k]? = some x := ⟨_, List.getElem?_eq_getElem (by rw [← hlz]; exact hlt)⟩
      obtain ⟨fn, tmps, assign, body, hy, hR⟩ := hY _ x wr hJs (by rw [List.length_take]; omega)
      have hcx : wr.cell? ⟨b, off + k, none⟩ = some (.int .i64 x) := (hnx.cell (p := ⟨b, off + k, none⟩) hb).trans (hc k x hx)
      have hts := take_snocI hx
      clear hx
      gi_wp2
      refine hR.mono ?_
      rintro e W3 (⟨rfl, hJ3, hk3⟩ | ⟨rfl, hJx3⟩)
      · gi_wp2
        go_roundw
        case rel => exact ⟨k + 1, by omega, by simp, by rw [hts]; exact hJ3, hnx.trans hk3⟩
        case measure => simp [natV]; omega
      · gi_wp2
        refine bodyPost_ret (results_none rfl _ _ _) rfl ?_
        exact ⟨⟨_, rfl⟩, .inr ⟨_, by rw [← hts]; exact List.take_prefix _ _, hJx3⟩⟩
    · obtain rfl : k = len := by omega
      rw [List.take_of_length_le (by omega)] at hJs
      gi_wp2
      go_end0
      exact ⟨⟨_, rfl⟩, .inl ⟨_, rfl, hJs⟩⟩
set_option maxRecDepth 100000 in
theorem values1_zero (n : Nat) (l B : Nat) (a : Option Addr) (c : Nat) (J : List Int → World → Prop) (W : World) (hm : W.cell? ⟨B, 0, none⟩ = some (.slice a 0 c)) (h0 : J [] W) :
    CallsIn Fence.wide n Tryz.prog 168 #[.func (.yield l) #[] #[], .pointer (some ⟨B, 0, none⟩)] W fun e W' => (∃ v, e = .returned v) ∧ J [] W' := by
  refine callsIn_of_wp Tryz.func168 rfl trivial ?_ rfl
  simp only [Tryz.ntmps168, List.size_toArray, List.length_cons, List.length_nil, Nat.reduceAdd, Nat.reduceSub, Array.replicate_succ, Array.replicate_zero, List.push_toArray, List.append_toArray, List.nil_append, List.cons_append]
  gi_wp2
  refine wpIn_loop_rounds 1 ?_
  rw [roundsIn_succ]
  gi_wp2
  go_end0
  exact ⟨⟨_, rfl⟩, h0⟩
/-- slices.Values of a slice that lay ahead: all of it, in order. -/
theorem values_stops (n : Nat) (hn : 1 ≤ n) (Bs : Nat) (sv : Value) (zs : List Int) (hl : zs.length ≤ 1000000) (w0 w : World) (hrow : Row w0 sv 1 (intRows zs)) (hb0 : Below w0.heap.size w0 w) (hBs : Bs < w.heap.size) (hc : w.cell? ⟨Bs, 0, none⟩ = some sv) :
    SeqStopsK Fence.wide n Tryz.prog 168 #[.pointer (some ⟨Bs, 0, none⟩)] (fun x : Int => #[Value.int .i64 x]) (Below w0.heap.size) (fun ys => ys = zs) (fun pre => pre <+: zs) zs.length w := fun l J Jx W hW _ _ hY h0 => by
  have hc' := (hW.cell (p := ⟨Bs, 0, none⟩) hBs).trans hc
  obtain ⟨a, c, rfl, _, hf⟩ := ints_form hrow
  cases zs with
  | nil => exact (values1_zero n l Bs a c J W hc' h0).mono fun e W' ⟨he, hj⟩ => ⟨he, .inl ⟨_, rfl, hj⟩⟩
  | cons z zs =>
    obtain ⟨g, off, rfl, hg, h1, h2, _⟩ := hf 0 z rfl
    have hWb : Below w0.heap.size w0 W := hb0.trans (hW.mono hb0.size)
    refine (values1_in n hn l Bs w0.heap.size g off _ c (z :: zs) rfl hl h1 h2 hg J Jx hY W hc' (fun j x hx => ?_) h0).mono ?_
    · obtain ⟨g', off', he, _, _, _, hcell⟩ := hf j x hx
      simp only [Option.some.injEq, Addr.mk.injEq] at he
      obtain ⟨rfl, rfl, _⟩ := he
      exact (hWb.cell (p := ⟨g, off + j, none⟩) hg).trans hcell
    · rintro e W' ⟨he, ⟨ys, rfl, hj⟩ | ⟨pre, hp, hj⟩⟩
      · exact ⟨he, .inl ⟨_, rfl, hj⟩⟩
      · exact ⟨he, .inr ⟨_, hp, hj⟩⟩
set_option maxRecDepth 100000 in
set_option maxHeartbeats 4000000 in
theorem appendSeq_any (n : Nat) (hn : 3 ≤ n) (Bs : Nat) (sv : Value) (zs : List Int) (hl : zs.length ≤ 1000000) (w0 w : World) (hrow : Row w0 sv 1 (intRows zs)) (hb0 : Below w0.heap.size w0 w) (hBs : Bs < w.heap.size) (hc : w.cell? ⟨Bs, 0, none⟩ = some sv) :
    CallsIn Fence.wide n Tryz.prog 185 #[.slice none 0 0, .func (.func 168) #[] #[.pointer (some ⟨Bs, 0, none⟩)]] w fun e w' => ∃ v, e = .returned v ∧ w'.ownsRow w.heap.size 3 1 v zs.length (zs.map fun z => Value.int .i64 z) ∧ (v = .slice none 0 0 ↔ zs = []) ∧ Below w.heap.size w w' := by
  have h1 : 1 ≤ n := by omega
  have HS := Lib.hid (values_stops (n - 1) (by omega) Bs sv zs hl w0 (w.alloc (.cells #[.slice none 0 0] 22)) hrow (hb0.trans (((Below.refl _ w).alloc (Nat.le_refl _) _).mono hb0.size)) (by simp; omega) ((((Below.refl _ w).alloc (Nat.le_refl _) _).cell (p := ⟨Bs, 0, none⟩) hBs).trans hc))
  have hsz0 := hb0.size
  obtain ⟨i0, hi, hz0, hz1, hz2⟩ := info_parts (show (Tryz.prog.info? 3).map (fun i => (i.zero, i.size, i.bytes)) = some (some (.int .i64 0), 1, 8) by kernel_rfl)
  clear hc hrow
  refine callsIn_of_wp_marks Tryz.func185 rfl trivial ?_ rfl
  simp only [Tryz.ntmps185, List.size_toArray, List.length_cons, List.length_nil, Nat.reduceAdd, Nat.reduceSub, Array.replicate_succ, Array.replicate_zero, List.push_toArray, List.append_toArray, List.nil_append, List.cons_append]
  gi_wp2
  have bX := Boxed.new w 22 (.slice none 0 0)
  refine wpIn_rangeFunc_ownF rfl h1 (gf := 168) (lb := #[.pointer (some ⟨Bs, 0, none⟩)]) rfl trivial (enters_of Tryz.func168 (by kernel_rfl) rfl) HS.out belowK_t (belowK_b (by simp; omega)) (Below.refl _ _) (fun _ => rfl)
    (fun pre W => (∃ v, Boxed W w.heap.size 22 v ∧ W.ownsRow w.heap.size 3 1 v pre.length (pre.map fun z => Value.int .i64 z) ∧ (v = .slice none 0 0 ↔ pre = [])) ∧ Below w.heap.size w W)
    (fun _ _ _ => False)
    (OwnFrom.and (Own.from (holdsRow_own w.heap.size w.heap.size 22 3 1 (fun pre : List Int => pre.length) (fun pre => pre.map fun z => Value.int .i64 z) (fun pre v => (v = .slice none 0 0 ↔ pre = []))) _) (ownFrom_below (Nat.le_refl _) (by simp)))
    (fun _ _ _ _ _ hs _ _ => hs)
    ⟨⟨_, bX, World.ownsRow_nil _ _ _ _, by simp⟩, (Below.refl _ w).alloc (Nat.le_refl _) _⟩
    (fun x => { tmps := #[.slice none 0 0, .func (.func 168) #[] #[.pointer (some ⟨Bs, 0, none⟩)], .pointer (some ⟨w.heap.size, 0, none⟩), undef, .slice none 0 0, .int .i64 x, .func (.func 168) #[] #[.pointer (some ⟨Bs, 0, none⟩)], .int .i64 x, undef, undef, undef, undef, undef], defers := [] }) ?assign ?body ?done ?stop
  case assign =>
    intro l x W K hK
    gi_wp2
    exact hK
  case body =>
    rintro l pre x W ⟨⟨v, hv, hrow, hnil⟩, hB⟩ hlen
    have hcell := hv.cell
    have hbs := hB.size
    gi_wp2_with (gi_at_builtin; refine wpListIn_append_own _ rfl _ _ 22 rfl w.heap.size 3 i0 (.int .i64 0) 1 8 Tryz.underlying22 hi hz0 hz1 hz2 rfl (by decide) _ _ _ rfl (hrow.alloc _) ⟨W.heap.size, 0, none⟩ 1 1 [.int .i64 x] rfl rfl (cell_one_new _ _ _) (by simp [Value.oneCell']) (by unfold maxLen; omega) (by omega) (by have := hB.size; simp; omega) ?_; intro v' w1 hown' hgrow _; obtain ⟨g', cap', rfl⟩ := ownsRow_succ hown'; obtain ⟨hv1, hv2, hr2, hk2, hb2⟩ := hv.appended (by decide) hrow hB.size (Nat.le_refl _) hown' hgrow; have hc1 := hv1.cell; have hf1 := hv1.frozen)
    have hr3 : (w1.setCell ⟨w.heap.size, 0, none⟩ (.slice (some ⟨g', 0, none⟩) (pre.length + 1) cap')).ownsRow w.heap.size 3 1 (.slice (some ⟨g', 0, none⟩) (pre.length + 1) cap') (pre ++ [x]).length ((pre ++ [x]).map fun z => Value.int .i64 z) := by
      rw [List.length_append, List.map_append]
      exact hr2
    exact ⟨hk2, hb2.mono hsz0, ⟨_, hv2, hr3, by simp⟩, hB.trans hb2⟩
  case done =>
    rintro D ys W hD rfl ⟨⟨v, hv, hrow, hnil⟩, hB⟩ hK
    have hcell := hv.cell
    gi_wp2
    refine ⟨by simp, .inl ⟨_, _, rfl, run_takeDeferred hK, ?_⟩⟩
    exact ⟨_, results_tmp rfl _ _ _, v, rfl, ownsRow_putObj hrow _ hK rfl, hnil, hB.trans (belowK_b (w := w) (Nat.le_refl _) W D _ _ (by simp at hD; omega) hK rfl rfl)⟩
  case stop =>
    rintro D c pre W _ _ h _
    exact h.elim
set_option maxRecDepth 100000 in
theorem collect_values (n : Nat) (hn : 4 ≤ n) (Bs : Nat) (sv : Value) (zs : List Int) (hl : zs.length ≤ 1000000) (w0 w : World) (hrow : Row w0 sv 1 (intRows zs)) (hb0 : Below w0.heap.size w0 w) (hBs : Bs < w.heap.size) (hc : w.cell? ⟨Bs, 0, none⟩ = some sv) :
    CallsIn Fence.wide n Tryz.prog 166 #[.func (.func 168) #[] #[.pointer (some ⟨Bs, 0, none⟩)]] w fun e w' => ∃ v, e = .returned v ∧ w'.ownsRow w.heap.size 3 1 v zs.length (zs.map fun z => Value.int .i64 z) ∧ (v = .slice none 0 0 ↔ zs = []) ∧ Below w.heap.size w w' := by
  have HA := Lib.hid (appendSeq_any (n - 1) (by omega) Bs sv zs hl w0 w hrow hb0 hBs hc)
  have h1 : 1 ≤ n := by omega
  have hfw : Fence.wide.fn 185 := trivial
  clear hrow hb0 hBs hc
  refine callsIn_of_wp Tryz.func166 rfl trivial ?_ rfl
  simp only [Tryz.ntmps166, List.size_toArray, List.length_cons, List.length_nil, Nat.reduceAdd, Nat.reduceSub, Array.replicate_succ, Array.replicate_zero, List.push_toArray, List.append_toArray, List.nil_append, List.cons_append]
  gi_wp2_with (gi_at_call 185; refine HA.out.mono ?_; rintro e wx ⟨v, rfl, hv1, hv2, hv3⟩)
  go_ret
  exact ⟨v, rfl, hv1, hv2, hv3⟩
end
section
open Go Go.RowKit Go.BigFrame
/-- A new block, wherever it lies. -/
theorem Sim.newG {W w : World} {R : Nat → Prop} {ρ : Names} {st : St} {l : Ents} (hs : Sim W R w ρ st l) (hn : st.n < 32768) {w' : World} {g : Nat} {cap : Option Nat} {o : AObj} {Φ : Obj → Prop} (hg : w.heap.size ≤ g) (hk : Kn [] W w' ((g, Φ) :: l))
    (ho : ORel R (ρ.add st.n (g, cap)) ((g, Φ) :: l) st.n o) : Sim W R w' (ρ.add st.n (g, cap)) ⟨setO st.n o st.H, st.n + 1⟩ ((g, Φ) :: l) :=
  hs.back hn (NLe.add (hs.top _ (Nat.le_refl _)) (g, cap)) (ρ.add_self _ _) (fun j hj => ρ.add_ne _ hj) (Nat.le_succ _) (Nat.lt_succ_self _) (fun h => absurd (hs.rlt _ h) (Nat.lt_irrefl _))
    (fun j q d hl hj e => by
      obtain ⟨Ψ, hh⟩ := (hs.rel j).has hl (hs.nR hj) hj
      have := hs.kn.lt hh
      omega) hk ho
def intV : Value → Option Int
  | .int .i64 z => some z
  | _ => none
def intsV : List Value → Option (List Int)
  | [] => some []
  | v :: l => match intV v, intsV l with
    | some z, some r => some (z :: r)
    | _, _ => none
theorem intV_eq {v : Value} {z : Int} (h : intV v = some z) : v = .int .i64 z := by
  unfold intV at h
  split at h
  · cases h; rfl
  · cases h
theorem intsV_eq : ∀ {l : List Value} {zs : List Int}, intsV l = some zs → l = zs.map fun z => Value.int .i64 z
  | [], zs, h => by cases h; rfl
  | v :: l, zs, h => by
    have h : (match intV v, intsV l with | some z, some r => some (z :: r) | _, _ => none) = some zs := h
    split at h
    · rename_i z r h1 h2
      cases h
      rw [intV_eq h1, intsV_eq h2]; rfl
    · cases h
theorem ints_real {ρ : Names} : ∀ {zs : List Int} {vs : List Value}, LR ρ (zs.map fun z => Value.int .i64 z) vs → vs = zs.map fun z => Value.int .i64 z
  | zs, vs, h => by
    apply List.ext_getElem?
    intro i
    cases hi : vs[i]? with
    | none =>
      rw [List.getElem?_eq_none_iff] at hi
      symm
      rw [List.getElem?_eq_none_iff, h.1]; exact hi
    | some y =>
      cases hx : (zs.map fun z => Value.int .i64 z)[i]? with
      | none =>
        rw [List.getElem?_eq_none_iff, h.1] at hx
        have := (List.getElem?_eq_some_iff.1 hi).1
        omega
      | some x =>
        have hr := h.2 i x y hx hi
        rw [List.getElem?_map] at hx
        cases hz : zs[i]? with
        | none => rw [hz] at hx; cases hx
        | some z =>
          rw [hz] at hx
          cases hx
          rw [hr.plain_eq rfl]
theorem intRows_flat (zs : List Int) : (intRows zs).flatten = zs.map fun z => Value.int .i64 z := by
  induction zs with
  | nil => rfl
  | cons z l ih => show Value.int .i64 z :: (intRows l).flatten = _; rw [ih]; rfl
/-- The function and the cell that an iterator over a slice holds. -/
def iterOf (fv : FuncId) (v : Value) : Option Nat := match v with
  | .func (.func f) a b => match a.toList, b.toList with
    | [], [.pointer (some ⟨k, 0, none⟩)] => cond (Nat.beq f fv) (some k) none
    | _, _ => none
  | _ => none
theorem iterOf_eq {fv : FuncId} {v : Value} {k : Nat} (h : iterOf fv v = some k) : v = .func (.func fv) #[] #[.pointer (some ⟨k, 0, none⟩)] := by
  unfold iterOf at h
  split at h
  · rename_i f a b
    split at h
    · rename_i k' h1 h2
      cases hb : Nat.beq f fv with
      | false => rw [hb] at h; cases h
      | true =>
        rw [hb] at h
        cases h
        have e1 : a = #[] := Array.ext' h1
        have e2 : b = #[.pointer (some ⟨k, 0, none⟩)] := Array.ext' h2
        rw [e1, e2, Nat.eq_of_beq_eq_true hb]
    · cases h
  · cases h
noncomputable def colGo (T : TypeId) (sv : Value) (st : St) (k : X → St → Bool) : Bool := match sv with
  | .slice _ 0 _ => k (.sc (.oth (.slice none 0 0))) st
  | .slice (some ⟨k1, o1, none⟩) (n + 1) _ => match readO o1 (n + 1) (findO k1 st.H) with
    | some cs => match intsV cs with
      | some _ => cond (Nat.blt st.n 32768 && Nat.ble (n + 1) 1000000) (k (.sc (.slice st.n 0 (n + 1) openCap)) ⟨setO st.n (.grown cs T 1 (n + 1)) st.H, Nat.add st.n 1⟩) false
      | none => false
    | none => false
  | _ => false
/-- slices.Collect, given an iterator over a slice of ints. -/
noncomputable def collectC (fv : FuncId) (T : TypeId) : FnC := fun _ args st k => match args with
  | [x] => match iterOf fv x.toV with
    | some kb => match cellO 0 (findO kb st.H) with
      | some sv => colGo T sv st k
      | none => false
    | none => false
  | _ => false
theorem row_real {w : World} {sv : Value} {zs : List Int} {g o n c : Nat} (hn : n = zs.length) (h0 : 0 < n) (hc : n ≤ c) (hm : c ≤ maxLen) (e : sv = .slice (some ⟨g, o, none⟩) n c) (h : ∀ j u, (zs.map fun z => Value.int .i64 z)[j]? = some u → w.cell? ⟨g, o + j, none⟩ = some u) : Row w sv 1 (intRows zs) := by
  subst hn
  refine ⟨by rw [List.length_map]; omega, .inr ⟨g, o, c, by rw [e, List.length_map], by rw [List.length_map]; omega, by rw [List.length_map]; exact hc, hm, ?_, fun i cc j x hi hj => ?_⟩⟩
  · have hz : (zs.map fun z => Value.int .i64 z)[0]? = some (.int .i64 zs[0]) := by rw [List.getElem?_map, List.getElem?_eq_getElem h0]; rfl
    have := h 0 _ hz
    unfold World.cell? at this
    cases hh : w.heap[g]? with
    | none => rw [hh] at this; cases this
    | some ob => exact (Array.getElem?_eq_some_iff.1 hh).1
  · rw [List.getElem?_map] at hi
    cases hz : zs[i]? with
    | none => rw [hz] at hi; cases hi
    | some z =>
      rw [hz] at hi
      cases hi
      cases j with
      | zero =>
        cases hj
        have := h i (.int .i64 z) (by rw [List.getElem?_map, hz]; rfl)
        simpa using this
      | succ j => cases hj
theorem collectC_ok {G : Nat} : FnOk Tryz.prog G 166 (collectC 168 3) := by
  intro F args st k _ h
  unfold collectC at h
  split at h
  · rename_i x
    split at h
    · rename_i kb hit
      split at h
      · rename_i sv hcell
        have hx := iterOf_eq hit
        -- what is known in the real world
        have real : ∀ {W : World} {R : Nat → Prop} {ρ : Names} {args' : Array Value} {w : World} {l : Ents}, LR ρ (List.map X.toV [x]) args'.toList → Sim W R w ρ st l → ∃ gb sv', args' = #[.func (.func 168) #[] #[.pointer (some ⟨gb, 0, none⟩)]] ∧ w.cell? ⟨gb, 0, none⟩ = some sv' ∧ VR ρ sv sv' ∧ gb < w.heap.size := by
          intro W R ρ args' w l hl hs
          have hlen := hl.1
          have hsz : args'.size = 1 := by simpa using hlen.symm
          obtain ⟨v', hv'⟩ : ∃ v', args' = #[v'] := ⟨args'[0], by
            apply Array.ext
            · simpa using hsz
            · intro i h1 h2
              have : i = 0 := by omega
              subst this; rfl⟩
          subst hv'
          have hr : VR ρ x.toV v' := hl.2 0 _ _ rfl rfl
          rw [hx] at hr
          cases hr with
          | @func _ _ a' _ b' h1 h2 h3 h4 =>
            have ea : a' = #[] := Array.eq_empty_of_size_eq_zero h1.symm
            have hb1 : b'.size = 1 := h3.symm
            obtain ⟨u, hu⟩ : ∃ u, b' = #[u] := ⟨b'[0], by
              apply Array.ext
              · simpa using hb1
              · intro i h1 h2
                have : i = 0 := by omega
                subst this; rfl⟩
            subst ea hu
            have hp := h4 0 _ _ rfl rfl
            cases hp with
            | @ptr _ _ gb c hk =>
              obtain ⟨sv', hc', hv'⟩ := hs.cell hk hcell
              refine ⟨gb, sv', rfl, hc', hv', ?_⟩
              unfold World.cell? at hc'
              cases hh : w.heap[gb]? with
              | none => rw [hh] at hc'; cases hc'
              | some ob => exact (Array.getElem?_eq_some_iff.1 hh).1
        have call : ∀ {w : World} {gb : Nat} {sv' : Value} {zs : List Int}, zs.length ≤ 1000000 → Row w sv' 1 (intRows zs) → gb < w.heap.size → w.cell? ⟨gb, 0, none⟩ = some sv' →
            Calls Tryz.prog 166 #[.func (.func 168) #[] #[.pointer (some ⟨gb, 0, none⟩)]] w fun e w' => ∃ v, e = .returned v ∧ w'.ownsRow w.heap.size 3 1 v zs.length (zs.map fun z => Value.int .i64 z) ∧ (v = .slice none 0 0 ↔ zs = []) ∧ Below w.heap.size w w' :=
          fun hl hr hg hc => callsIn_wide.1 (collect_values 5 (by omega) _ _ _ hl _ _ hr (RowKit.Below.refl _ _) hg hc)
        unfold colGo at h
        split at h
        · refine ⟨_, st, h, fun W R ρ args' w l hl _ hs => ?_⟩
          obtain ⟨gb, sv', rfl, hc', hv', hgb⟩ := real hl hs
          have hrow : Row w sv' 1 (intRows []) := ⟨by simp, .inl ⟨rfl, by
            cases hv' with
            | slice0 n c => exact ⟨_, _, rfl⟩
            | slice hk hoff hn hm he ho => exact ⟨_, _, rfl⟩⟩⟩
          refine Calls.mono (call (by simp) hrow hgb hc') fun e w' hh => ?_
          obtain ⟨v, rfl, _, hnil, hb⟩ := hh
          rw [hnil.2 rfl]
          exact ⟨ρ, _, l, rfl, .refl _, .slice0 0 0, hs.keepB hb⟩
        · rename_i k1 o1 n c
          split at h
          · rename_i cs hread
            split at h
            · rename_i zs hzs
              cases hb : (Nat.blt st.n 32768 && Nat.ble (n + 1) 1000000) with
              | false => rw [hb] at h; cases h
              | true =>
                rw [hb, cond_true] at h
                rw [Bool.and_eq_true] at hb
                have hlt : st.n < 32768 := Nat.le_of_ble_eq_true hb.1
                have hmany := Nat.le_of_ble_eq_true hb.2
                have hcs := intsV_eq hzs
                refine ⟨_, _, h, fun W R ρ args' w l hl _ hs => ?_⟩
                obtain ⟨gb, sv', rfl, hc', hv', hgb⟩ := real hl hs
                cases hv' with
                | @slice _ _ o' g _ _ c' q hk hoff hn hm he ho =>
                  obtain ⟨ds, hlr, hlen, _, hcells⟩ := hs.read hk hread
                  rw [hoff (.inl (Nat.succ_pos _))] at hc'
                  rw [hcs] at hlr
                  have hds := ints_real hlr
                  have hzl : n + 1 = zs.length := by rw [← hlen, hds, List.length_map]
                  have hrow : Row w (.slice (some ⟨g, o1, none⟩) (n + 1) c') 1 (intRows zs) := row_real hzl (Nat.succ_pos _) hn hm rfl fun j u hu => hcells j u (by rw [hds]; exact hu)
                  refine Calls.mono (call (by omega) hrow hgb hc') fun e w' hh => ?_
                  obtain ⟨v, rfl, hown, hnil, hbel⟩ := hh
                  rcases hown.2 with ⟨_, h0⟩ | ⟨gn, cap, cur, rfl, hbase, hgn, r1, r2, r3, r4⟩
                  · omega
                  · have hkn1 : Kn [] w w' [(gn, CapAt 3 1 cap (intRows zs))] := by
                      refine ⟨hbel.os, hbel.tape, hbel.output, hbel.size, fun k hk _ => hbel.block k hk, fun g' Φ hh => ?_, fun g' Φ hh => ?_, by simp⟩
                      · cases hh with
                        | here =>
                          refine ⟨_, hgn, cur, rfl, by simpa using r3, ?_⟩
                          have e1 : (intRows zs).length = zs.length := List.length_map _
                          rw [e1, intRows_flat]
                          exact r4
                        | there hh => cases hh
                      · cases hh with
                        | here => exact .inr hbase
                        | there hh => cases hh
                    have hk2 : Kn [] W w' ((gn, CapAt 3 1 cap (intRows zs)) :: l) := hs.kn.call0 hkn1
                    have hs2 := hs.newG hlt (cap := some cap) (o := .grown cs 3 1 (n + 1)) hbase hk2 (.inr ⟨gn, cap, intRows zs, ρ.add_self _ _, by
                      rw [hcs]
                      rw [intRows_flat]
                      exact LR.self _ (by rw [List.all_eq_true]; intro y hy; obtain ⟨z, _, rfl⟩ := List.mem_map.1 hy; rfl), by rw [List.length_map]; omega, intRows_len _, by omega, r2, .here⟩)
                    refine ⟨_, _, _, rfl, NLe.add (hs.top _ (Nat.le_refl _)) _, ?_, hs2⟩
                    rw [← hzl]
                    exact .slice (ρ.add_self _ _) (fun _ => rfl) (by omega) r2 (fun h => absurd h (Nat.lt_irrefl _)) (fun _ => ⟨rfl, rfl⟩)
            · cases h
          · cases h
        · cases h
      · cases h
    · cases h
  · cases h
end
section
open Go Go.RowKit Go.BigFrame
/-- An i64 int whose remainder by m is r. -/
noncomputable def modX (m r : Nat) : X := .sc (.oth (.complex .f32 (m * 8 + 4) r))
def modOf (x : X) : Option (Nat × Nat) := match x with
  | .sc (.oth (.complex .f32 a r)) => cond (Nat.beq (a % 8) 4) (some (a / 8, r)) none
  | _ => none
theorem modOf_real {ρ : Names} {x : X} {v : Value} {m r : Nat} (h : modOf x = some (m, r)) (hr : VR ρ x.toV v) : ∃ n : Int, v = .int .i64 n ∧ n % (m : Int) = (r : Int) ∧ IntKind.i64.wrap n = n := by
  unfold modOf at h
  split at h
  · rename_i a b
    cases hb : Nat.beq (a % 8) 4 with
    | false => rw [hb] at h; cases h
    | true =>
      rw [hb] at h
      have hm := Nat.eq_of_beq_eq_true hb
      have hr : VR ρ (.complex .f32 a b) v := hr
      cases hr with
      | any hs => simp at hm
      | symS h1 h2 h3 h4 h5 => omega
      | symLen h1 h2 h3 => omega
      | ptrI h1 => omega
      | @modI m' r' n h1 h2 =>
        rw [cond_true, show (m' * 8 + 4) / 8 = m' by omega] at h
        cases h
        exact ⟨n, rfl, h1, h2⟩
  · cases h
def anyOf (x : X) : Bool := match x with
  | .sc (.oth (.float .f64 3)) => true
  | _ => false
theorem anyOf_real {ρ : Names} {x : X} {v : Value} (h : anyOf x = true) (hr : VR ρ x.toV v) : ∃ n : Int, v = .int .i64 n ∧ IntKind.i64.wrap n = n := by
  unfold anyOf at h
  split at h
  · have hr : VR ρ (.float .f64 3) v := hr
    generalize hq : (3 : Nat) = t at hr
    cases hr with
    | @anyI k n hw =>
      have : k = .i64 := kidx_inj (by rw [← hq]; rfl)
      subst this
      exact ⟨n, rfl, hw⟩
  · cases h
noncomputable def placeP (main : FnP) : FnP := fun F Fp args st k => match args with
  | [x, y] => match litI64 y with
    | some m => match modOf x with
      | some (m', r) => cond (Nat.beq m m' && (Nat.blt 0 m && Nat.ble m 1000000)) (k (.sc (.int .i64 r)) st) false
      | none => cond (anyOf x) (cond (Nat.blt 0 m && Nat.ble m 1000000) (allB m fun r => k (.sc (.int .i64 r)) st) false) (main F Fp args st k)
    | none => main F Fp args st k
  | _ => main F Fp args st k
theorem wrap64_range {n : Int} (h : IntKind.i64.wrap n = n) : -9223372036854775808 ≤ n ∧ n ≤ 9223372036854775807 := by
  rw [← h]
  simp only [IntKind.wrap, IntKind.bits, IntKind.signed]
  simp
  omega
theorem placeP_ok {G : Nat} {main : FnP} (hm : FnOkP Tryz.prog G 5 main) : FnOkP Tryz.prog G 5 (placeP main) := by
  intro F Fp args st k hF hFp h
  unfold placeP at h
  split at h
  case h_2 => exact hm F Fp _ st k hF hFp h
  rename_i x y
  split at h
  case h_2 => exact hm F Fp _ st k hF hFp h
  rename_i m hy
  have hy := litI64_eq hy
  have two : ∀ {ρ : Names} {args' : Array Value}, LR ρ (List.map X.toV [x, y]) args'.toList → ∃ v, args' = #[v, .int .i64 (m : Int)] ∧ VR ρ x.toV v := by
    intro ρ args' hl
    have hsz : args'.size = 2 := by have := hl.1; simpa using this.symm
    have h1 : VR ρ x.toV args'[0] := hl.2 0 _ _ rfl (by rw [Array.getElem?_toList, Array.getElem?_eq_getElem (by omega)])
    have h2 : VR ρ y.toV args'[1] := hl.2 1 _ _ rfl (by rw [Array.getElem?_toList, Array.getElem?_eq_getElem (by omega)])
    rw [hy] at h2
    have h2 : VR ρ (.int .i64 (m : Int)) args'[1] := h2
    refine ⟨args'[0], ?_, h1⟩
    have e := h2.plain_eq rfl
    apply Array.ext
    · simpa using hsz
    · intro i h1 h2
      have : i = 0 ∨ i = 1 := by omega
      rcases this with rfl | rfl
      · rfl
      · exact e
  split at h
  · rename_i m' r hx
    cases hb : (Nat.beq m m' && (Nat.blt 0 m && Nat.ble m 1000000)) with
    | false => rw [hb] at h; cases h
    | true =>
      rw [hb, cond_true] at h
      rw [Bool.and_eq_true, Bool.and_eq_true] at hb
      have e := Nat.eq_of_beq_eq_true hb.1
      have b1 : 0 < m := Nat.le_of_ble_eq_true hb.2.1
      have b2 := Nat.le_of_ble_eq_true hb.2.2
      subst e
      intro W R ρ args' w l hl hG hs
      obtain ⟨v, rfl, hv⟩ := two hl
      obtain ⟨n, rfl, hn, hw⟩ := modOf_real hx hv
      obtain ⟨w1, w2⟩ := wrap64_range hw
      refine Calls.mono (MPlace_any n m w w1 w2 (by omega) (by omega)) fun e w' hh => ?_
      obtain ⟨rfl, rfl⟩ := hh
      exact ⟨_, st, ρ, _, l, h, rfl, .refl _, by rw [hn]; exact .int .i64 (r : Int), hs⟩
  · cases ha : anyOf x with
    | false => rw [ha] at h; exact hm F Fp _ st k hF hFp h
    | true =>
      rw [ha, cond_true] at h
      cases hb : (Nat.blt 0 m && Nat.ble m 1000000) with
      | false => rw [hb] at h; cases h
      | true =>
        rw [hb, cond_true] at h
        rw [Bool.and_eq_true] at hb
        have b1 : 0 < m := Nat.le_of_ble_eq_true hb.1
        have b2 := Nat.le_of_ble_eq_true hb.2
        intro W R ρ args' w l hl hG hs
        obtain ⟨v, rfl, hv⟩ := two hl
        obtain ⟨n, rfl, hw⟩ := anyOf_real ha hv
        obtain ⟨w1, w2⟩ := wrap64_range hw
        refine Calls.mono (MPlace_any n m w w1 w2 (by omega) (by omega)) fun e w' hh => ?_
        obtain ⟨rfl, rfl⟩ := hh
        have h0 : 0 ≤ n % (m : Int) := Int.emod_nonneg _ (by omega)
        have h1 : n % (m : Int) < m := Int.emod_lt_of_pos _ (by omega)
        have hr := allB_at h (n % (m : Int)).toNat (by omega)
        refine ⟨_, st, ρ, _, l, hr, rfl, .refl _, ?_, hs⟩
        show VR ρ (.int .i64 (((n % (m : Int)).toNat : Nat) : Int)) _
        rw [Int.toNat_of_nonneg h0]
        exact .int _ _
end
end Go.Proofs.YtgeikngjemlknaaGreat
