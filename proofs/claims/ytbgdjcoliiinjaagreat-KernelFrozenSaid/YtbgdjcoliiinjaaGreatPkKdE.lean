/- Merged: KD7, KD8, KD9. -/
import Derived.Test.YtbgdjcoliiinjaaGreatPkKdG
import Derived.Test.YtbgdjcoliiinjaaGreatPkKdH
import Derived.Test.YtbgdjcoliiinjaaGreatPkKdA
import Derived.Test.YtbgdjcoliiinjaaGreatPkGenJ
set_option linter.unusedVariables false
set_option linter.unusedSimpArgs false
set_option linter.unusedSectionVars false
namespace Go.Proofs.YtbgdjcoliiinjaaGreat
section
open Go Go.RowKit Go.BigFrame
theorem growB_all : ∀ L, L < 24 → growB L = true
  | 0, _ => rGrow0
  | 1, _ => rGrow1
  | 2, _ => rGrow2
  | 3, _ => rGrow3
  | 4, _ => rGrow4
  | 5, _ => rGrow5
  | 6, _ => rGrow6
  | 7, _ => rGrow7
  | 8, _ => rGrow8
  | 9, _ => rGrow9
  | 10, _ => rGrow10
  | 11, _ => rGrow11
  | 12, _ => rGrow12
  | 13, _ => rGrow13
  | 14, _ => rGrow14
  | 15, _ => rGrow15
  | 16, _ => rGrow16
  | 17, _ => rGrow17
  | 18, _ => rGrow18
  | 19, _ => rGrow19
  | 20, _ => rGrow20
  | 21, _ => rGrow21
  | 22, _ => rGrow22
  | 23, _ => rGrow23
  | n + 24, h => by omega
theorem dcGrow (L : Nat) (h : L < 24) : DC Tryz.prog 53 [xL L, xStep, xI] (yGrow L) := growB_dc (growB_all L h)
end
section
open Go Go.RowKit Go.BigFrame
set_option maxRecDepth 100000
/-- What has grown so far. -/
def FLoop (z : Nat → Option Obj) (w : World) (out i : Value) (wr : World) : Prop :=
  ∃ (k L : Nat) (z' : Nat → Option Obj), i = .int .i64 (k : Int) ∧ k ≤ 40 ∧ L ≤ 26 ∧ BS z' 3 L out ∧ zOk z' wr ∧ (∀ g o, z g = some o → z' g = some o) ∧ (∀ g o, z' g = some o → zAdd z w wr g = some o) ∧ Kn [] w wr []
theorem dcGrowL (L : Nat) (h : L < 24) {z : Nat → Option Obj} {w : World} {out st : Value} {op : Int} (hz : zOk z w) (ho : BS z 3 L out) (hs : DR z xStep st) (hop : IntKind.i64.wrap op = op) :
    Calls Tryz.prog 53 #[out, st, .int .i64 op] w fun e w' => ∃ v' L', L' ≤ L + 3 ∧ e = .returned v' ∧ BS (zAdd z w w') 3 L' v' ∧ Below w.heap.size w w' := by
  refine (dcGrow L h z w #[out, st, .int .i64 op] hz ⟨rfl, fun i x v hx hv => ?_⟩).mono fun e w' ⟨v', y, hy, he, hr, hb⟩ => ?_
  · match i, hx, hv with
    | 0, hx, hv => cases hx; cases hv; exact .bsl ho
    | 1, hx, hv => cases hx; cases hv; exact hs
    | 2, hx, hv => cases hx; cases hv; exact .anyI (k := .i64) hop
    | i + 3, hx, hv => cases hx
  · simp only [yGrow, List.mem_cons, List.not_mem_nil, or_false] at hy
    rcases hy with rfl | rfl | rfl | rfl
    · exact ⟨v', L, by omega, he, DR_bsl hr, hb⟩
    · exact ⟨v', L + 1, by omega, he, DR_bsl hr, hb⟩
    · exact ⟨v', L + 2, by omega, he, DR_bsl hr, hb⟩
    · exact ⟨v', L + 3, by omega, he, DR_bsl hr, hb⟩
/-- A row of the steps. -/
theorem step_row {z : Nat → Option Obj} {w : World} (hz : zOk z w) {g b : Nat} (h : BRow z 4 0 g b) : ∃ cells : Array Value, cells.size = 10 ∧ g < w.heap.size ∧ w.rangeAt g b cells.toList ∧ DR z xStep (.agg cells) := by
  obtain ⟨f, hf⟩ := h
  have len : (RT 4).length = 10 := rfl
  have cell : ∀ i, i < 10 → zc z g (b + i) = some (f i) := fun i hi => by
    obtain ⟨ct, hct⟩ : ∃ ct, (RT 4)[0 + i]? = some ct := ⟨_, List.getElem?_eq_getElem (by rw [len]; omega)⟩
    exact (hf i ct hct).1
  have wc : ∀ i, i < 10 → ∃ ob, z g = some ob ∧ w.heap[g]? = some ob ∧ w.cell? ⟨g, b + i, none⟩ = some (f i) := fun i hi => by
    have h := cell i hi
    unfold zc at h
    split at h
    · rename_i c ty sp hzg
      exact ⟨_, hzg, hz g _ hzg, by unfold World.cell?; rw [hz g _ hzg]; exact h⟩
    · cases h
  refine ⟨((List.range 10).map f).toArray, by simp, ?_, fun j u hj => ?_, ?_⟩
  · obtain ⟨ob, _, h2, _⟩ := wc 0 (by omega)
    exact (Array.getElem?_eq_some_iff.1 h2).1
  · have hj2 : j < 10 := by have := (List.getElem?_eq_some_iff.1 hj).1; simpa using this
    rw [List.toList_toArray, List.getElem?_map, List.getElem?_range hj2] at hj
    cases hj
    obtain ⟨ob, _, _, h3⟩ := wc j hj2
    exact h3
  · have q : LR (dn z) (((RT 4).map CT.toV).map V.toV) ((List.range 10).map f) := by
      refine ⟨by simp [len], fun i x y hx hy => ?_⟩
      rw [List.getElem?_map, List.getElem?_map] at hx
      cases hct : (RT 4)[i]? with
      | none => rw [hct] at hx; cases hx
      | some ct =>
        rw [hct] at hx
        cases hx
        have hi : i < 10 := by have := (List.getElem?_eq_some_iff.1 hct).1; rw [len] at this; exact this
        rw [List.getElem?_map, List.getElem?_range hi] at hy
        cases hy
        exact BC.rel (ρ := dn z) (hf i ct (by rw [Nat.zero_add]; exact hct)).2
    have q := q.array
    exact VR.agg q.1 q.2
end
section
open Go Go.RowKit Go.BigFrame
theorem forest_fin {z : Nat → Option Obj} {w wr : World} {out : Value} {L : Nat} {z' : Nat → Option Obj} (hL : L ≤ 26) (hb : BS z' 3 L out) (hs : ∀ g o, z' g = some o → zAdd z w wr g = some o) (KN : Kn [] w wr []) : DR (zAdd z w wr) xForest out := by
  show VR (dn _) (.complex .f32 (3 * 8 + 7) 26) out
  exact .bslU (j := 3) (hb.mono hs) hL
theorem zAdd_step {z z' : Nat → Option Obj} {w wr wx : World} (hsz : w.heap.size ≤ wr.heap.size) (hb : Below wr.heap.size wr wx) (h : ∀ g o, z' g = some o → zAdd z w wr g = some o) : ∀ g o, zAdd z' wr wx g = some o → zAdd z w wx g = some o := fun g o hg => by
  unfold zAdd at hg
  split at hg
  · rename_i h1
    unfold zAdd
    rw [if_pos (by omega)]
    exact hg
  · rename_i h1
    have := h g o hg
    unfold zAdd at this ⊢
    split at this
    · rename_i h2
      rw [if_pos h2, hb.block g (by omega)]
      exact this
    · rename_i h2
      rw [if_neg h2]
      exact this
theorem op_wrap {k : Nat} {op : Int} (h : op = (k : Int) + 1) (hk : k < 40) : IntKind.i64.wrap op = op := by
  subst h
  have := wrap_nat (k := .i64) (n := k + 1) (by show k + 1 < 9223372036854775808; omega)
  simpa using this
def FPost (z : Nat → Option Obj) (w : World) (e : Ending) (w' : World) : Prop := ∃ out L z', e = .returned out ∧ L ≤ 26 ∧ BS z' 3 L out ∧ (∀ g o, z' g = some o → zAdd z w w' g = some o) ∧ Kn [] w w' []
set_option maxRecDepth 100000 in
set_option maxHeartbeats 4000000 in
theorem dcForest (mx : Nat) : DC Tryz.prog 16 [xSteps mx] [xForest] := by
  intro z w args hz hd
  obtain ⟨v, rfl, hv⟩ := args1 hd
  obtain ⟨n, _, hb⟩ := DR_bslU (j := 4) hv
  obtain ⟨a, c, rfl, hn, hm, hrow⟩ := hb.row
  suffices h : Calls Tryz.prog 16 #[.slice a n c] w (FPost z w) from h.mono fun e w' ⟨out, L, z', he, hL, hb, hs, KN⟩ => ⟨out, xForest, List.mem_singleton.2 rfl, he, forest_fin hL hb hs KN, KN.toBelow⟩
  have KN := Kn.start w
  have HR := Lib.hid hrow
  have HZ := Lib.hid hz
  unfold maxLen at hm
  clear hd hv hb hrow hz
  go_enter Tryz.func16, Tryz.ntmps16
  go_wp2_with fail
  go_loopw [3, 4] (fun out i wr => FLoop z w out i wr) (fun _ i _ => 40 - (intOf i).toNat)
  case atStart => exact ⟨0, 0, z, rfl, Nat.zero_le _, Nat.zero_le _, .mk (fun _ _ => undef) (Nat.le_refl _) (Nat.zero_le _) (fun h => absurd h (Nat.lt_irrefl _)) (fun q i ct hq => absurd hq (Nat.not_lt_zero _)), HZ.out, fun _ _ h => h, fun g o h => zAdd_mono HZ.out _ g o h, KN⟩
  case round =>
    clear KN
    obtain ⟨k, L, z', rfl, hk, hL, hb, hz', hzz, hzs, KN⟩ := hrel
    obtain ⟨a', c', rfl, hn', hm', _⟩ := hb.row
    unfold maxLen at hm'
    have HB := Lib.hid hb
    have HS := Lib.hid (And.intro hz' (And.intro hzz hzs))
    clear hb hz' hzz hzs
    by_cases h1 : k < n
    · by_cases h2 : k < 40
      · by_cases h3 : L < 24
        · obtain ⟨g, o, rfl, hrw⟩ := HR.out (by omega : 0 < n)
          obtain ⟨cells, hsz, hg, hrng, hdr⟩ := step_row HZ.out (hrw k h1)
          have hlen : (RT 4).length = 10 := rfl
          rw [hlen] at hrng
          have HC := Lib.hid (fun (op : Int) (h : op = (k : Int) + 1) => dcGrowL L h3 HS.out.1 HB.out (VR.ofD (ρ := dn z') HS.out.2.1 hdr) (op_wrap h h2))
          have HRNG := Lib.hid hrng
          have HSZ := Lib.hid hsz
          clear hrw hrng hdr hsz
          go_wp2_with (first | (refine wpList_kn_oldN KN (by rfl) 141 _ rfl g _ rfl cells HRNG.out hg (by simp [HSZ.out]) _ Tryz.underlying141 rfl (by rw [HSZ.out]; kernel_rfl) ?_) | (go_at_call 53; refine (HC.out _ (by go_num)).mono ?_; rintro e wx ⟨vx, Lx, hLx, rfl, hbx, hbl⟩; have hzs2 := zAdd_step KN.size hbl HS.out.2.2; replace KN := KN.below hbl))
          go_roundw
          case rel => exact ⟨k + 1, Lx, zAdd z' wr wx, by go_num, by omega, by omega, hbx, zAdd_ok HS.out.1 hbl, fun g o h => zAdd_mono HS.out.1 wx g o (HS.out.2.1 g o h), hzs2, KN⟩
          case measure => simp [intOf]; omega
        · go_wp2_with fail
          go_ret
          exact ⟨_, L, z', rfl, hL, HB.out, HS.out.2.2, KN⟩
      · go_wp2_with fail
        go_ret
        exact ⟨_, L, z', rfl, hL, HB.out, HS.out.2.2, KN⟩
    · go_wp2_with fail
      go_ret
      exact ⟨_, L, z', rfl, hL, HB.out, HS.out.2.2, KN⟩
end
end Go.Proofs.YtbgdjcoliiinjaaGreat
