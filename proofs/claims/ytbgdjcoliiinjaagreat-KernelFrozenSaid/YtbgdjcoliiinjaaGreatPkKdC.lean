/- Merged: KD10, KD12, KD13. -/
import Derived.Test.YtbgdjcoliiinjaaGreatPkKdA
import Derived.Deep.Cut
import Derived.BigQuiet
import Derived.Deep.QuietTactic
import Derived.Test.YtbgdjcoliiinjaaGreatPkGenJ
import Derived.Deep.CutBlock
import Derived.Deep.DeepCutAuto
import Derived.Deep.RegionHeld3
import Derived.Deep.DrawnRows
import Derived.Deep.RegionWith
set_option linter.unusedVariables false
set_option linter.unusedSimpArgs false
set_option linter.unusedSectionVars false
namespace Go.Proofs.YtbgdjcoliiinjaaGreat
section
open Go Go.RowKit Go.BigFrame
set_option maxRecDepth 100000
/-- At most 60 ints, not parted. -/
def xArgs : X := .sc (.oth (.complex .f32 63 60))
theorem BC_int {z : Nat → Option Obj} {v : Value} (h : BC z (.int .i64) v) : ∃ m : Int, v = .int .i64 m ∧ IntKind.i64.wrap m = m := by
  generalize hq : CT.int .i64 = t at h
  cases h with
  | int hw => cases hq; exact ⟨_, rfl, hw⟩
  | nat _ _ _ => cases hq
  | bool _ => cases hq
  | sl _ _ => cases hq
/-- The ints themselves. -/
theorem BS.ints {z : Nat → Option Obj} {n : Nat} {v : Value} {w : World} (h : BS z 7 n v) (hz : zOk z w) : ∃ zs : List Int, zs.length = n ∧ Row w v 1 (intRows zs) ∧ ∀ x ∈ zs, IntKind.i64.wrap x = x := by
  obtain ⟨a, c, rfl, hn, hm, hrow⟩ := h.row
  have len : (RT 7).length = 1 := rfl
  have one : ∀ q, q < n → ∃ (g o : Nat) (x : Int), a = some ⟨g, o, none⟩ ∧ zc z g (o + q) = some (.int .i64 x) ∧ IntKind.i64.wrap x = x := fun q hq => by
    obtain ⟨g, o, e, hr⟩ := hrow (by omega)
    obtain ⟨f, hf⟩ := hr q hq
    obtain ⟨h1, h2⟩ := hf 0 (.int .i64) rfl
    obtain ⟨m, hm2, hw⟩ := BC_int h2
    rw [len, Nat.mul_one, Nat.add_zero, hm2] at h1
    exact ⟨g, o, m, e, h1, hw⟩
  let val : Nat → Int := fun q => if hq : q < n then Classical.choose (Classical.choose_spec (Classical.choose_spec (one q hq))) else 0
  have hval : ∀ q, q < n → ∃ g o : Nat, a = some ⟨g, o, none⟩ ∧ zc z g (o + q) = some (.int .i64 (val q)) ∧ IntKind.i64.wrap (val q) = val q := fun q hq => by
    have hs := Classical.choose_spec (Classical.choose_spec (Classical.choose_spec (one q hq)))
    refine ⟨_, _, hs.1, ?_⟩
    show zc z _ _ = some (.int .i64 (if hq : q < n then _ else 0)) ∧ IntKind.i64.wrap (if hq : q < n then _ else 0) = (if hq : q < n then _ else 0)
    rw [dif_pos hq]
    exact hs.2
  refine ⟨(List.range n).map val, by simp, ⟨by simp; omega, ?_⟩, fun x hx => ?_⟩
  · by_cases h0 : n = 0
    · subst h0
      exact .inl ⟨rfl, _, _, rfl⟩
    · obtain ⟨g, o, e, _⟩ := hrow (by omega)
      have cell : ∀ q, q < n → ∃ ob, z g = some ob ∧ w.heap[g]? = some ob ∧ w.cell? ⟨g, o + q, none⟩ = some (.int .i64 (val q)) := fun q hq => by
        obtain ⟨g', o', e', h1, _⟩ := hval q hq
        rw [e] at e'
        cases e'
        unfold zc at h1
        split at h1
        · rename_i cc ty sp hzg
          exact ⟨_, hzg, hz g _ hzg, by unfold World.cell?; rw [hz g _ hzg]; exact h1⟩
        · cases h1
      refine .inr ⟨g, o, c, by rw [e]; simp, by simp; omega, by simp; omega, hm, ?_, fun i ci j x hi hj => ?_⟩
      · obtain ⟨ob, _, h2, _⟩ := cell 0 (by omega)
        exact (Array.getElem?_eq_some_iff.1 h2).1
      · rw [List.getElem?_map, List.getElem?_map] at hi
        have hin : i < n := by
          by_cases hin : i < n
          · exact hin
          · rw [List.getElem?_eq_none (by simp; omega)] at hi; cases hi
        rw [List.getElem?_range hin] at hi
        cases hi
        have hj0 : j = 0 := by
          have := (List.getElem?_eq_some_iff.1 hj).1
          simp at this
          exact this
        subst hj0
        cases hj
        obtain ⟨_, _, _, h3⟩ := cell i hin
        rw [Nat.mul_one, Nat.add_zero]
        exact h3
  · obtain ⟨q, hq, rfl⟩ := List.mem_map.1 hx
    obtain ⟨_, _, _, _, hw⟩ := hval q (by simpa using hq)
    exact hw
theorem at_wrap {zs : List Int} (h : ∀ x ∈ zs, IntKind.i64.wrap x = x) (k : Nat) : IntKind.i64.wrap (zs.getD k 0) = zs.getD k 0 := by
  rw [List.getD_eq_getElem?_getD]
  cases hk : zs[k]? with
  | none => rfl
  | some x => exact h x (List.mem_of_getElem? hk)
theorem MAt_any {v : Value} {zs : List Int} {w : World} (h : Row w v 1 (intRows zs)) (k : Nat) (h1 : k ≤ 9223372036854775807) :
    Calls Tryz.prog 44 #[v, .int .i64 (k : Int)] w fun e w' => e = .returned (.int .i64 (zs.getD k 0)) ∧ w = w' := by
  obtain ⟨a, c, rfl, hm, hc⟩ := ints_form h
  obtain ⟨r, hr⟩ : ∃ r, r = zs.getD k 0 := ⟨_, rfl⟩
  rw [← hr]
  rw [List.getD_eq_getElem?_getD] at hr
  obtain ⟨n, hn⟩ : ∃ n, n = zs.length := ⟨_, rfl⟩
  rw [← hn] at hm ⊢
  unfold maxLen at hm
  by_cases hk : k < n
  · obtain ⟨x, hx⟩ : ∃ x, zs[k]? = some x := ⟨_, List.getElem?_eq_getElem (by rw [← hn]; exact hk)⟩
    obtain ⟨g, off, rfl, hg, hc1, hc2, hcell⟩ := hc k x hx
    rw [hx] at hr
    have hr' : r = x := hr
    subst hr'
    rw [← hn] at hc1
    unfold maxLen at hc2
    have d1 : decide ((n : Int) ≤ (k : Int)) = false := decide_eq_false (by omega)
    clear h hc hx hr hn
    go_enter Tryz.func44, Tryz.ntmps44
    go_wp2
    go_ret
    exact ⟨rfl, rfl⟩
  · rw [List.getElem?_eq_none (by rw [← hn]; omega)] at hr
    have hr' : r = 0 := hr
    subst hr'
    have d1 : decide ((n : Int) ≤ (k : Int)) = true := decide_eq_true (by omega)
    clear h hc hr hn
    go_enter Tryz.func44, Tryz.ntmps44
    go_wp2
    go_ret
    exact ⟨rfl, rfl⟩
theorem DR_lit {z : Nat → Option Obj} {k : Nat} {v : Value} (h : DR z (.sc (.int .i64 k)) v) : v = .int .i64 (k : Int) := by
  have h : VR (dn z) (.int .i64 (Int.ofNat k)) v := h
  exact h.plain_eq rfl
theorem dcMAt (k : Nat) (h1 : k ≤ 9223372036854775807) : DC Tryz.prog 44 [xArgs, .sc (.int .i64 k)] [xI] := fun z w args hz hd => by
  obtain ⟨v, u, rfl, hv, hu⟩ := args2 hd
  have hu := DR_lit hu
  subst hu
  obtain ⟨n, _, hb⟩ := DR_bslU (j := 7) hv
  obtain ⟨zs, _, hr, hw⟩ := hb.ints hz
  exact (MAt_any hr k h1).mono fun e w' ⟨he, hb⟩ => ⟨_, xI, List.mem_singleton.2 rfl, he, aI_DR (at_wrap hw k), by rw [← hb]; exact .refl _ w⟩
theorem dcMAfter (k : Nat) (h1 : k ≤ 9223372036854775807) : DC Tryz.prog 47 [xArgs, .sc (.int .i64 k)] [xArgs] := fun z w args hz hd => by
  obtain ⟨v, u, rfl, hv, hu⟩ := args2 hd
  have hu := DR_lit hu
  subst hu
  obtain ⟨n, hn60, hb⟩ := DR_bslU (j := 7) hv
  obtain ⟨zs, hzs, hr, hw⟩ := hb.ints hz
  obtain ⟨a, c, hv2, hnc, hm, hrow⟩ := hb.row
  subst hv2
  clear hv hd hzs hr hw
  unfold maxLen at hm
  by_cases hk : k < n
  · obtain ⟨a2, c2, e2, hpart⟩ := hb.part (lo := k) (hi := n) (by omega) (Nat.le_refl _)
    obtain ⟨g, o, ha, _⟩ := hrow (by omega)
    cases e2
    subst ha
    have HP := Lib.hid (hpart (some ⟨g, o + k * 1, none⟩) fun _ g' o' e => by cases e; rfl)
    have HZ := Lib.hid hz
    have d1 : decide ((n : Int) ≤ (k : Int)) = false := decide_eq_false (by omega)
    clear hpart hrow hz hb
    suffices h : Calls Tryz.prog 47 #[.slice (some ⟨g, o, none⟩) n c, .int .i64 (k : Int)] w fun e w' => e = .returned (.slice (some ⟨g, o + k * 1, none⟩) (n - k) (c - k)) ∧ w = w' from
      h.mono fun e w' ⟨he, hww⟩ => ⟨_, xArgs, List.mem_singleton.2 rfl, he, .bslU (j := 7) (HP.out.mono (zAdd_mono HZ.out _)) (by omega), by rw [← hww]; exact .refl _ w⟩
    go_enter Tryz.func47, Tryz.ntmps47
    go_wp2
    go_ret
    refine ⟨?_, rfl⟩
    first
      | rfl
      | (simp [Nat.mul_one]; done)
  · have HB := Lib.hid (show BS (zAdd z w w) 7 0 (.slice none 0 0) from .mk (fun _ _ => undef) (Nat.le_refl _) (Nat.zero_le _) (fun h => absurd h (Nat.lt_irrefl _)) (fun q i ct hq => absurd hq (Nat.not_lt_zero _)))
    have d1 : decide ((n : Int) ≤ (k : Int)) = true := decide_eq_true (by omega)
    clear hrow hb hz
    suffices h : Calls Tryz.prog 47 #[.slice a n c, .int .i64 (k : Int)] w fun e w' => e = .returned (.slice none 0 0) ∧ w = w' from
      h.mono fun e w' ⟨he, hww⟩ => ⟨_, xArgs, List.mem_singleton.2 rfl, he, .bslU (j := 7) (by rw [← hww]; exact HB.out) (Nat.zero_le _), by rw [← hww]; exact .refl _ w⟩
    go_enter Tryz.func47, Tryz.ntmps47
    go_wp2
    go_ret
    exact ⟨rfl, rfl⟩
theorem rMop : runD hk2 45 [xI] st0 (outD [xId]) = true := by kernel_rfl
theorem dcMop : DC Tryz.prog 45 [xI] [xId] := dc_run0 hk2 rMop rfl
theorem rMId : runD hk2 106 [xI, xI, xI] st0 (outD [xId]) = true := by kernel_rfl
theorem dcMId : DC Tryz.prog 106 [xI, xI, xI] [xId] := dc_run0 hk2 rMId rfl
end
section
open Go Go.RowKit Go.BigFrame
/-- The cells of an Id. -/
def Id3 (c : List Value) : Prop := ∃ a b d : Int, c = [.int .i64 a, .int .i64 b, .int .i64 d] ∧ IntKind.i64.wrap a = a ∧ IntKind.i64.wrap b = b ∧ IntKind.i64.wrap d = d
theorem Id3.len {c : List Value} (h : Id3 c) : c.length = 3 := by obtain ⟨a, b, d, rfl, _⟩ := h; rfl
theorem DR_id {z : Nat → Option Obj} {v : Value} (h : DR z xId v) : ∃ a b d : Int, v = .agg #[.int .i64 a, .int .i64 b, .int .i64 d] ∧ Id3 [.int .i64 a, .int .i64 b, .int .i64 d] := by
  obtain ⟨a, rfl, hl⟩ := DR_agg h
  obtain ⟨l⟩ := a
  match l, hl with
  | [x, y, t], hl =>
    obtain ⟨a, rfl, ha⟩ := DR_int (hl.2 0 _ _ rfl rfl)
    obtain ⟨b, rfl, hb⟩ := DR_int (hl.2 1 _ _ rfl rfl)
    obtain ⟨d, rfl, hd⟩ := DR_int (hl.2 2 _ _ rfl rfl)
    exact ⟨a, b, d, rfl, _, _, _, rfl, ha, hb, hd⟩
  | [], hl => have := hl.1; simp [ints] at this
  | [_], hl => have := hl.1; simp [ints] at this
  | [_, _], hl => have := hl.1; simp [ints] at this
  | _ :: _ :: _ :: _ :: _, hl => have := hl.1; simp [ints] at this
theorem id_DR {z : Nat → Option Obj} {a b d : Int} (h : Id3 [.int .i64 a, .int .i64 b, .int .i64 d]) : DR z xId (.agg #[.int .i64 a, .int .i64 b, .int .i64 d]) := by
  obtain ⟨_, _, _, e, ha, hb, hd⟩ := h
  cases e
  have q : LR (dn z) ((ints 3).map V.toV) [.int .i64 a, .int .i64 b, .int .i64 d] := by
    refine ⟨rfl, fun i x y hx hy => ?_⟩
    match i, hx, hy with
    | 0, hx, hy => cases hx; cases hy; exact aI_DR ha
    | 1, hx, hy => cases hx; cases hy; exact aI_DR hb
    | 2, hx, hy => cases hx; cases hy; exact aI_DR hd
    | i + 3, hx, hy => cases hy
  have q := q.array
  exact VR.agg q.1 q.2
/-- All blocks of the world. -/
def zAll (w : World) (g : Nat) : Option Obj := w.heap[g]?
theorem zAll_ok (w : World) : zOk (zAll w) w := fun g o h => h
theorem MId_any {a b c : Int} (ha : IntKind.i64.wrap a = a) (hb : IntKind.i64.wrap b = b) (hc : IntKind.i64.wrap c = c) (w : World) :
    Calls Tryz.prog 106 #[.int .i64 a, .int .i64 b, .int .i64 c] w fun e w' => ∃ x y t : Int, e = .returned (.agg #[.int .i64 x, .int .i64 y, .int .i64 t]) ∧ Id3 [.int .i64 x, .int .i64 y, .int .i64 t] ∧ Below w.heap.size w w' := by
  refine (dcMId (zAll w) w _ (zAll_ok w) ⟨rfl, fun i x v hx hv => ?_⟩).mono fun e w' ⟨v', y, hy, he, hr, hb⟩ => ?_
  · match i, hx, hv with
    | 0, hx, hv => cases hx; cases hv; exact aI_DR ha
    | 1, hx, hv => cases hx; cases hv; exact aI_DR hb
    | 2, hx, hv => cases hx; cases hv; exact aI_DR hc
    | i + 3, hx, hv => cases hx
  · cases List.mem_singleton.1 hy
    obtain ⟨x, y, t, rfl, h3⟩ := DR_id hr
    exact ⟨x, y, t, he, h3, hb⟩
theorem cell_zc {w : World} {g o : Nat} {v : Value} (h : w.cell? ⟨g, o, none⟩ = some v) : zc (zAll w) g o = some v := by
  unfold World.cell? at h
  unfold zc zAll
  cases hg : w.heap[g]? with
  | none => rw [hg] at h; cases h
  | some ob =>
    rw [hg] at h
    cases ob with
    | cells c ty sp => exact h
    | _ => cases h
/-- Rows of Ids are data. -/
theorem OwnT.cap {e : TypeId} {sz : Nat} {v : Value} {L : List (List Value)} {ol : Ents} (h : OwnT e sz v L ol) : ∀ a n c, v = .slice a n c → c ≤ maxLen := fun a n c hv => by
  cases h with
  | nil => cases hv; exact Nat.zero_le _
  | blk _ hc _ => cases hv; exact hc
theorem ids_BS {w : World} {v : Value} {L : List (List Value)} (hcap : ∀ a n c, v = .slice a n c → c ≤ maxLen) (h : Row w v 3 L) (hL : ∀ c ∈ L, Id3 c) : BS (zAll w) 1 L.length v := by
  obtain ⟨hm, h⟩ := h
  rcases h with ⟨rfl, a, c, rfl⟩ | ⟨b, off, cap, rfl, h0, hl, hmx, hb, hc⟩
  · exact .mk (c := c) (fun _ _ => undef) (Nat.zero_le _) (hcap _ _ _ rfl) (fun h => absurd h (Nat.lt_irrefl _)) (fun q i ct hq => absurd hq (Nat.not_lt_zero _))
  · have len : (RT 1).length = 3 := rfl
    refine .mk (fun q i => (L.getD q []).getD i undef) hl hmx (fun _ => ⟨b, off, rfl, fun q i hq hi => ?_⟩) fun q i ct hq hi => ?_
    · rw [len] at hi ⊢
      have hq2 : L[q]? = some (L.getD q []) := by rw [List.getD_eq_getElem?_getD, List.getElem?_eq_getElem hq]; rfl
      have hlen := (hL _ (List.mem_of_getElem? hq2)).len
      exact cell_zc (hc q _ i _ hq2 (by rw [List.getD_eq_getElem?_getD (l := L.getD q []), List.getElem?_eq_getElem (by rw [hlen]; exact hi)]; rfl))
    · have hq2 : L[q]? = some (L.getD q []) := by rw [List.getD_eq_getElem?_getD, List.getElem?_eq_getElem hq]; rfl
      obtain ⟨x, y, t, e, hx, hy, ht⟩ := hL _ (List.mem_of_getElem? hq2)
      rw [e]
      match i, hi with
      | 0, hi => cases hi; exact .int hx
      | 1, hi => cases hi; exact .int hy
      | 2, hi => cases hi; exact .int ht
      | i + 3, hi => cases hi
theorem DR_bool {z : Nat → Option Obj} {v : Value} (h : DR z xB v) : ∃ b, v = .bool b := by
  have h : VR (dn z) (.complex .f32 5 0) v := h
  generalize hq : (5 : Nat) = t at h
  generalize hu : (0 : Nat) = u at h
  cases h with
  | anyB b => exact ⟨b, rfl⟩
  | any hs => cases hq
  | _ => omega
theorem HasId_own {w : World} {v : Value} {L : List (List Value)} (hcap : ∀ a n c, v = .slice a n c → c ≤ maxLen) (h : Row w v 3 L) (hL : ∀ c ∈ L, Id3 c) (h8 : L.length ≤ 8) {a b d : Int} (hi : Id3 [.int .i64 a, .int .i64 b, .int .i64 d]) :
    Calls Tryz.prog 107 #[v, .agg #[.int .i64 a, .int .i64 b, .int .i64 d]] w fun e w' => ∃ r : Bool, e = .returned (.bool r) ∧ Below w.heap.size w w' := by
  refine (dcHasId (zAll w) w _ (zAll_ok w) ⟨rfl, fun i x v hx hv => ?_⟩).mono fun e w' ⟨v', y, hy, he, hr, hb⟩ => ?_
  · match i, hx, hv with
    | 0, hx, hv => cases hx; cases hv; exact .bslU (j := 1) (ids_BS hcap h hL) h8
    | 1, hx, hv => cases hx; cases hv; exact id_DR hi
    | i + 2, hx, hv => cases hx
  · cases List.mem_singleton.1 hy
    obtain ⟨r, rfl⟩ := DR_bool hr
    exact ⟨r, he, hb⟩
/-- What has been collected so far. -/
def ILoop (w : World) (n : Nat) (out i : Value) (wr : World) : Prop :=
  ∃ (k : Nat) (L : List (List Value)) (ol : Ents), i = .int .i64 (k : Int) ∧ k ≤ n ∧ L.length ≤ 8 ∧ (∀ c ∈ L, Id3 c) ∧ OwnT 54 3 out L ol ∧ Kn [] w wr ol
def ICut (w : World) (ol : Ents) (v5 : Value) (wz : World) : Prop :=
  ∃ (g5 : Nat) (x y t : Int), v5 = .pointer (some ⟨g5, 0, none⟩) ∧ Id3 [.int .i64 x, .int .i64 y, .int .i64 t] ∧ Kn [] w wz ((g5, At #[.int .i64 x, .int .i64 y, .int .i64 t] 54) :: ol)
/-- The result: Ids in memory of its own. -/
def IPost (w : World) (e : Ending) (w' : World) : Prop := ∃ (out : Value) (L : List (List Value)) (ol : Ents), e = .returned out ∧ L.length ≤ 8 ∧ (∀ c ∈ L, Id3 c) ∧ OwnT 54 3 out L ol ∧ Kn [] w w' ol
set_option maxRecDepth 100000 in
set_option maxHeartbeats 1500000 in
theorem Ids_any {v : Value} {zs : List Int} {w : World} (h : Row w v 1 (intRows zs)) (hw : ∀ x ∈ zs, IntKind.i64.wrap x = x) (hlen : zs.length ≤ 60) :
    Calls Tryz.prog 49 #[v] w (IPost w) := by
  obtain ⟨a, c, rfl, hm, hc⟩ := ints_form h
  obtain ⟨n, hn⟩ : ∃ n, n = zs.length := ⟨_, rfl⟩
  rw [← hn] at hm hlen ⊢
  have HC := Lib.hid hc
  have HW := Lib.hid hw
  have HN := Lib.hid hn
  clear h hc hw hn hm
  have KN := Kn.start w
  go_enter Tryz.func49, Tryz.ntmps49
  go_wp2_with fail
  go_loopw [3, 4] (fun out i wr => ILoop w n out i wr) (fun _ i _ => n - (intOf i).toNat)
  case atStart => exact ⟨0, [], [], rfl, Nat.zero_le _, Nat.zero_le _, (fun c hc => by cases hc), .nil, KN⟩
  case round =>
    clear KN
    obtain ⟨k, L, ol, rfl, hk, hL, hids, OW, KN⟩ := hrel
    obtain ⟨oa, oc, rfl⟩ := OW.form
    have HO := Lib.hid OW
    have HI := Lib.hid hids
    clear OW hids
    by_cases h1 : k < n
    · by_cases h2 : L.length < 8
      · obtain ⟨x, hx⟩ : ∃ x, zs[k]? = some x := ⟨_, List.getElem?_eq_getElem (by rw [← HN.out]; exact h1)⟩
        obtain ⟨g, off, rfl, hg, hc1, hc2, hcell⟩ := HC.out k x hx
        have hxw : Hid (IntKind.i64.wrap x = x) := Lib.hid (HW.out x (List.mem_of_getElem? hx))
        have hc1' : n ≤ c := by rw [HN.out]; exact hc1
        have HCELL := Lib.hid hcell
        unfold maxLen at hc2
        clear hx hc1 hcell
        go_upto_region 5 with fail
        (try go_frame)
        go_cut [5] (fun v5 wz => ICut w ol v5 wz)
        case first =>
          replace KN := KN.drew
          refine wp_region_held_drew (S := (fun w' => w'.cell? ⟨g, off + k, none⟩ = some (.int .i64 x))) (by kernel_rfl) ?rahS (fun hHeld => ?rarest)
          case rahS => exact (KN.old hg (by simp)).trans HCELL.out
          refine wpAnyH_take (i := 0) (oi := ⟨some 17, _, _, _, _, _⟩) (v := ?rav0) rfl (by kernel_rfl) (by kernel_rfl) (by kernel_rfl) (fun _ _ _ h => h) (Or.inl ⟨by rfl, ?rahy0⟩) hHeld ?rar0
          case rahy0 => (intro w hSw; (try dsimp only at hSw); go_simp; (try with_reducible rfl))
          (try simp only [Act.put, List.setIfInBounds_toArray, List.set_cons_zero, List.set_cons_succ])
          refine wpAnyH_take (i := 1) (oi := ⟨some 18, _, _, _, _, _⟩) (v := ?rav1) rfl (by kernel_rfl) (by kernel_rfl) (by kernel_rfl) (fun _ _ _ h => h) (Or.inl ⟨by rfl, ?rahy1⟩) hHeld ?rar1
          case rahy1 => (intro w hSw; (try dsimp only at hSw); go_simp; (try with_reducible rfl))
          (try simp only [Act.put, List.setIfInBounds_toArray, List.set_cons_zero, List.set_cons_succ])
          refine wpAnyH_take (i := 2) (oi := ⟨some 19, _, _, _, _, _⟩) (v := ?rav2) rfl (by kernel_rfl) (by kernel_rfl) (by kernel_rfl) (fun _ _ _ h => h) (Or.inl ⟨by rfl, ?rahy2⟩) hHeld ?rar2
          case rahy2 => (intro w hSw; (try dsimp only at hSw); go_simp; (try with_reducible rfl))
          (try simp only [Act.put, List.setIfInBounds_toArray, List.set_cons_zero, List.set_cons_succ])
          refine wpAnyH_take (i := 3) (oi := ⟨some 20, _, _, _, _, _⟩) (v := (.int .i64 x)) rfl (by kernel_rfl) (by kernel_rfl) (by kernel_rfl) (fun _ _ _ h => h) (kn_yields_cell (by rfl) 3 _ rfl g _ rfl _ (fun _ h => h) _ Tryz.underlying3 rfl) hHeld ?rar3
          (try simp only [Act.put, List.setIfInBounds_toArray, List.set_cons_zero, List.set_cons_succ])
          refine wpAnyH_take (i := 4) (oi := ⟨some 21, _, _, _, _, _⟩) (v := ?rav4) rfl (by kernel_rfl) (by kernel_rfl) (by kernel_rfl) (fun _ _ _ h => h) (Or.inl ⟨by rfl, ?rahy4⟩) hHeld ?rar4
          case rahy4 => (intro w hSw; (try dsimp only at hSw); go_simp; (try with_reducible rfl))
          (try simp only [Act.put, List.setIfInBounds_toArray, List.set_cons_zero, List.set_cons_succ])
          refine wpAnyH_take (i := 5) (oi := ⟨some 22, _, _, _, _, _⟩) (v := ?rav5) rfl (by kernel_rfl) (by kernel_rfl) (by kernel_rfl) (fun _ _ _ h => h) (Or.inl ⟨by rfl, ?rahy5⟩) hHeld ?rar5
          case rahy5 => (intro w hSw; (try dsimp only at hSw); go_simp; (try with_reducible rfl))
          (try simp only [Act.put, List.setIfInBounds_toArray, List.set_cons_zero, List.set_cons_succ])
          refine wpAnyH_take (i := 6) (oi := ⟨some 23, _, _, _, _, _⟩) (v := ?rav6) rfl (by kernel_rfl) (by kernel_rfl) (by kernel_rfl) (fun _ _ _ h => h) (Or.inl ⟨by rfl, ?rahy6⟩) hHeld ?rar6
          case rahy6 => (intro w hSw; (try dsimp only at hSw); go_simp; (try with_reducible rfl))
          (try simp only [Act.put, List.setIfInBounds_toArray, List.set_cons_zero, List.set_cons_succ])
          refine wpAnyH_take (i := 7) (oi := ⟨some 24, _, _, _, _, _⟩) (v := (.int .i64 x)) rfl (by kernel_rfl) (by kernel_rfl) (by kernel_rfl) (fun _ _ _ h => h) (kn_yields_cell (by rfl) 3 _ rfl g _ rfl _ (fun _ h => h) _ Tryz.underlying3 rfl) hHeld ?rar7
          (try simp only [Act.put, List.setIfInBounds_toArray, List.set_cons_zero, List.set_cons_succ])
          refine wpAnyH_take (i := 8) (oi := ⟨some 25, _, _, _, _, _⟩) (v := ?rav8) rfl (by kernel_rfl) (by kernel_rfl) (by kernel_rfl) (fun _ _ _ h => h) (Or.inl ⟨by rfl, ?rahy8⟩) hHeld ?rar8
          case rahy8 => (intro w hSw; (try dsimp only at hSw); go_simp; (try with_reducible rfl))
          (try simp only [Act.put, List.setIfInBounds_toArray, List.set_cons_zero, List.set_cons_succ])
          refine wpAnyH_take (i := 9) (oi := ⟨some 26, _, _, _, _, _⟩) (v := ?rav9) rfl (by kernel_rfl) (by kernel_rfl) (by kernel_rfl) (fun _ _ _ h => h) (Or.inl ⟨by rfl, ?rahy9⟩) hHeld ?rar9
          case rahy9 => (intro w hSw; (try dsimp only at hSw); go_simp; (try with_reducible rfl))
          (try simp only [Act.put, List.setIfInBounds_toArray, List.set_cons_zero, List.set_cons_succ])
          refine wpAnyH_take (i := 10) (oi := ⟨some 27, _, _, _, _, _⟩) (v := ?rav10) rfl (by kernel_rfl) (by kernel_rfl) (by kernel_rfl) (fun _ _ _ h => h) (Or.inl ⟨by rfl, ?rahy10⟩) hHeld ?rar10
          case rahy10 => (intro w hSw; (try dsimp only at hSw); go_simp; (try with_reducible rfl))
          (try simp only [Act.put, List.setIfInBounds_toArray, List.set_cons_zero, List.set_cons_succ])
          refine wpAnyH_take (i := 11) (oi := ⟨some 28, _, _, _, _, _⟩) (v := ?rav11) rfl (by kernel_rfl) (by kernel_rfl) (by kernel_rfl) (fun _ _ _ h => h) (Or.inl ⟨by rfl, ?rahy11⟩) hHeld ?rar11
          case rahy11 => (intro w hSw; (try dsimp only at hSw); go_simp; (try with_reducible rfl))
          (try simp only [Act.put, List.setIfInBounds_toArray, List.set_cons_zero, List.set_cons_succ])
          refine wpAnyH_take (i := 12) (oi := ⟨some 29, _, _, _, _, _⟩) (v := (.int .i64 x)) rfl (by kernel_rfl) (by kernel_rfl) (by kernel_rfl) (fun _ _ _ h => h) (kn_yields_cell (by rfl) 3 _ rfl g _ rfl _ (fun _ h => h) _ Tryz.underlying3 rfl) hHeld ?rar12
          (try simp only [Act.put, List.setIfInBounds_toArray, List.set_cons_zero, List.set_cons_succ])
          refine wpAnyH_take (i := 13) (oi := ⟨some 30, _, _, _, _, _⟩) (v := ?rav13) rfl (by kernel_rfl) (by kernel_rfl) (by kernel_rfl) (fun _ _ _ h => h) (Or.inl ⟨by rfl, ?rahy13⟩) hHeld ?rar13
          case rahy13 => (intro w hSw; (try dsimp only at hSw); go_simp; (try with_reducible rfl))
          (try simp only [Act.put, List.setIfInBounds_toArray, List.set_cons_zero, List.set_cons_succ])
          refine wpAnyH_ready (rs := [14, 15]) (by kernel_rfl) (by simp) ?rac14_15
          refine (AllReadyH.cons (o := ⟨some 31, _, _, _, _, _⟩) rfl (fun K hK => ?rast14) (AllReadyH.cons (o := ⟨some 5, _, _, _, _, _⟩) rfl (fun K hK => ?rast15) AllReadyH.nil))
          case rast14 =>
            go_simp
            (refine (MId_any hxw.out (wrap_wrap _ _) (wrap_wrap _ _) _).mono ?_; rintro e wx ⟨xa, ya, ta, rfl, h3, hb1⟩; have H3 := Lib.hid h3; replace KN := KN.below hb1; clear hb1 h3)
            refine hK.out _ _ ?ra14xk14 (fun hHeld2 => ?ra14xm14)
            case ra14xk14 => exact (KN.old hg (by simp)).trans HCELL.out
            clear hK K hHeld
            have hHeld := hHeld2; clear hHeld2
            (try simp only [Act.put, List.setIfInBounds_toArray, List.set_cons_zero, List.set_cons_succ])
            refine wpAnyH_ready (rs := [15]) (by kernel_rfl) (by simp) ?ra14xc15
            refine AllReadyH.cons (o := ⟨some 5, _, _, _, _, _⟩) rfl (fun K hK => ?ra14xst15) AllReadyH.nil
            (rw [if_pos (by rfl)]; refine wp_kn_alloc KN 54 rfl 5 rfl #[.int .i64 0, .int .i64 0, .int .i64 0] (by kernel_rfl) ?_; clear KN; intro g5 wx hg5 KN hb1; clear hb1)
            refine hK.out _ _ ?ra14xk15 (fun hHeld2 => ?ra14xm15)
            case ra14xk15 => exact (KN.old hg (by simp)).trans HCELL.out
            clear hK K hHeld
            have hHeld := hHeld2; clear hHeld2
            (try simp only [Act.put, List.setIfInBounds_toArray, List.set_cons_zero, List.set_cons_succ])
            refine wpAnyH_ready (rs := [16]) (by kernel_rfl) (by simp) ?ra14xc16
            refine AllReadyH.cons (o := ⟨none, _, _, _, _, _⟩) rfl (fun K hK => ?ra14xst16) AllReadyH.nil
            (rw [if_pos (by rfl)]; refine wp_kn_storeW KN 54 _ _ rfl g5 rfl #[.int .i64 xa, .int .i64 ya, .int .i64 ta] rfl #[.int .i64 0, .int .i64 0, .int .i64 0] 54 (by repeat (first | exact Repl.here | apply Repl.there)) rfl (by kernel_rfl) (by kernel_rfl) ?_; clear KN; intro wx KN)
            refine hK.out _ _ ?ra14xk16 (fun hHeld2 => ?ra14xm16)
            case ra14xk16 => exact (KN.old hg (by simp)).trans HCELL.out
            clear hK K hHeld
            have hHeld := hHeld2; clear hHeld2
            (try simp only [Act.put, List.setIfInBounds_toArray, List.set_cons_zero, List.set_cons_succ])
            refine wpAnyH_done (by kernel_rfl) ?ra14xdone _
            go_wp2_with fail
            go_meet
            case rel => exact ⟨g5, xa, ya, ta, rfl, H3.out, KN⟩
          case rast15 =>
            (rw [if_pos (by rfl)]; refine wp_kn_alloc KN 54 rfl 5 rfl #[.int .i64 0, .int .i64 0, .int .i64 0] (by kernel_rfl) ?_; clear KN; intro g5 wx hg5 KN hb1; clear hb1)
            refine hK.out _ _ ?ra15xk15 (fun hHeld2 => ?ra15xm15)
            case ra15xk15 => exact (KN.old hg (by simp)).trans HCELL.out
            clear hK K hHeld
            have hHeld := hHeld2; clear hHeld2
            (try simp only [Act.put, List.setIfInBounds_toArray, List.set_cons_zero, List.set_cons_succ])
            refine wpAnyH_ready (rs := [14]) (by kernel_rfl) (by simp) ?ra15xc14
            refine AllReadyH.cons (o := ⟨some 31, _, _, _, _, _⟩) rfl (fun K hK => ?ra15xst14) AllReadyH.nil
            go_simp
            (refine (MId_any hxw.out (wrap_wrap _ _) (wrap_wrap _ _) _).mono ?_; rintro e wx ⟨xa, ya, ta, rfl, h3, hb1⟩; have H3 := Lib.hid h3; replace KN := KN.below hb1; clear hb1 h3)
            refine hK.out _ _ ?ra15xk14 (fun hHeld2 => ?ra15xm14)
            case ra15xk14 => exact (KN.old hg (by simp)).trans HCELL.out
            clear hK K hHeld
            have hHeld := hHeld2; clear hHeld2
            (try simp only [Act.put, List.setIfInBounds_toArray, List.set_cons_zero, List.set_cons_succ])
            refine wpAnyH_ready (rs := [16]) (by kernel_rfl) (by simp) ?ra15xc16
            refine AllReadyH.cons (o := ⟨none, _, _, _, _, _⟩) rfl (fun K hK => ?ra15xst16) AllReadyH.nil
            (rw [if_pos (by rfl)]; refine wp_kn_storeW KN 54 _ _ rfl g5 rfl #[.int .i64 xa, .int .i64 ya, .int .i64 ta] rfl #[.int .i64 0, .int .i64 0, .int .i64 0] 54 (by repeat (first | exact Repl.here | apply Repl.there)) rfl (by kernel_rfl) (by kernel_rfl) ?_; clear KN; intro wx KN)
            refine hK.out _ _ ?ra15xk16 (fun hHeld2 => ?ra15xm16)
            case ra15xk16 => exact (KN.old hg (by simp)).trans HCELL.out
            clear hK K hHeld
            have hHeld := hHeld2; clear hHeld2
            (try simp only [Act.put, List.setIfInBounds_toArray, List.set_cons_zero, List.set_cons_succ])
            refine wpAnyH_done (by kernel_rfl) ?ra15xdone _
            go_wp2_with fail
            go_meet
            case rel => exact ⟨g5, xa, ya, ta, rfl, H3.out, KN⟩
        case rest =>
          clear KN
          obtain ⟨g5, xa, ya, ta, rfl, h3, KN⟩ := hcut
          have H3 := Lib.hid h3
          clear h3
          have HM8 : Hid (L.length ≤ 8) := Lib.hid hL
          have HML : Hid (L.length < 8) := Lib.hid (h2)
          go_upto_if 35 with (first | (go_at_call 107; refine (HasId_own HO.out.cap (HO.out.row (f := fun o => (g5, _) :: o) KN (.cons _ .id)) HI.out HM8.out H3.out).mono ?_; rintro e wx ⟨r, rfl, hb1⟩; replace KN := KN.below hb1; clear hb1) | ((with_reducible refine wpList_gate ?_); first | ((with_reducible refine gate_load ?_ ?_); rfl; first | (refine ks_load1 KN 3 Tryz.underlying3 ?_) | (refine ks_loadW KN 54 Tryz.underlying54 ?_)) | ((with_reducible refine gate_store ?_ ?_); rfl; first | (refine ks_storeW KN 54 ?_; clear KN; intro wx KN) | (refine ks_storeA KN 54 ?_; clear KN; intro wx KN)) | ((with_reducible refine gate_new ?_ ?_); rfl; first | (refine ks_alloc KN 54 (q := 5) #[.int .i64 0, .int .i64 0, .int .i64 0] ?_; clear KN; intro g5 wx hg5 KN))))
          (try go_frame)
          cases r with
          | true =>
            go_wp2_with fail
            go_roundw
            case rel => exact ⟨k + 1, L, ol, by go_num, by omega, HM8.out, HI.out, HO.out, KN.drop .here⟩
            case measure => simp [intOf]; omega
          | false =>
            go_wp2_with (first | ((with_reducible refine wpList_gate ?_); first | (refine wpList_kn_lit KN (by rfl) 55 54 1 _ rfl 38 rfl Tryz.underlying55 #[.int .i64 xa, .int .i64 ya, .int .i64 ta] (by kernel_rfl) ?_; clear KN; intro g38 wx hg38 KN) | (at_builtin; refine wpList_kn_append1 KN HO.out (by rfl) _ _ 55 rfl 24 Tryz.underlying55 (by kernel_rfl) (by decide) rfl 1 rfl rfl (by kernel_rfl) (by have := HML.out; unfold maxLen; omega) (by have := HML.out; omega) (f := fun o => (g5, _) :: o) (.cons _ .id) rfl ?_; clear KN; intro v39 wx ol39 OW39 KN; obtain ⟨xo, xc, e39⟩ := OW39.form; rw [List.length_append] at e39; replace e39 : v39 = .slice xo (L.length + 1) xc := e39; subst e39; have HO39 := Lib.hid OW39; clear OW39) | ((with_reducible refine gate_load ?_ ?_); rfl; first | (refine ks_load1 KN 3 Tryz.underlying3 ?_) | (refine ks_loadW KN 54 Tryz.underlying54 ?_)) | ((with_reducible refine gate_store ?_ ?_); rfl; first | (refine ks_storeW KN 54 ?_; clear KN; intro wx KN) | (refine ks_storeA KN 54 ?_; clear KN; intro wx KN)) | ((with_reducible refine gate_new ?_ ?_); rfl; first | (refine ks_alloc KN 54 (q := 5) #[.int .i64 0, .int .i64 0, .int .i64 0] ?_; clear KN; intro g5 wx hg5 KN))))
            go_roundw
            case rel => exact ⟨k + 1, L ++ [[.int .i64 xa, .int .i64 ya, .int .i64 ta]], ol39, by go_num, by omega, by rw [List.length_append]; have := HML.out; show L.length + 1 ≤ 8; omega, fun c hc => by
              rcases List.mem_append.1 hc with h | h
              · exact HI.out c h
              · rw [List.mem_singleton.1 h]; exact H3.out, HO39.out, KN.drop .here⟩
            case measure => simp [intOf]; omega
      · go_wp2_with fail
        go_ret
        exact ⟨_, L, ol, rfl, hL, HI.out, HO.out, KN⟩
    · go_wp2_with fail
      go_ret
      exact ⟨_, L, ol, rfl, hL, HI.out, HO.out, KN⟩
/-- Own rows lie in the blocks that are new. -/
theorem BS.zadd {z : Nat → Option Obj} {w w' : World} {j n : Nat} {v : Value} (h : BS (zAll w') j n v) (hj : ∀ (i : Nat) (ct : CT), (RT j)[i]? = some ct → ct = CT.int IntKind.i64) (hg : ∀ g o c, v = .slice (some ⟨g, o, none⟩) n c → 0 < n → w.heap.size ≤ g) : BS (zAdd z w w') j n v := by
  cases h with
  | @mk j n c a f hn hm h ht =>
    refine .mk f hn hm (fun h0 => ?_) fun q i ct hq hi => ?_
    · obtain ⟨g, o, e, hc⟩ := h h0
      refine ⟨g, o, e, fun q i hq hi => ?_⟩
      have := hc q i hq hi
      unfold zc at this ⊢
      have hz : zAdd z w w' g = zAll w' g := by unfold zAdd zAll; rw [if_pos (hg g o c (by rw [e]) h0)]
      rw [hz]
      exact this
    · have := ht q i ct hq hi
      cases hj i ct hi
      obtain ⟨m, e, hw⟩ := BC_int this
      rw [e]
      exact .int hw
theorem dcMIds : DC Tryz.prog 49 [xArgs] [.sc pathU] := fun z w args hz hd => by
  obtain ⟨v, rfl, hv⟩ := args1 hd
  obtain ⟨n, hn, hb⟩ := DR_bslU (j := 7) hv
  obtain ⟨zs, hzs, hr, hw⟩ := hb.ints hz
  refine (Ids_any hr hw (by omega)).mono fun e w' ⟨out, L, ol, he, hL, hi, OW, KN⟩ => ⟨out, _, List.mem_singleton.2 rfl, he, ?_, KN.toBelow⟩
  refine .bslU (j := 1) (n := L.length) ((ids_BS OW.cap (OW.row (f := fun o => o) KN .id) hi).zadd (fun i ct hi => ?_) fun g o c e h0 => ?_) hL
  · match i, hi with
    | 0, hi => cases hi; rfl
    | 1, hi => cases hi; rfl
    | 2, hi => cases hi; rfl
    | i + 3, hi => cases hi
  · obtain ⟨g', cap, e', _, _, rfl⟩ := OW.pos h0
    rw [e] at e'
    cases e'
    rcases KN.fresh _ _ .here with h | h
    · cases h
    · exact h
end
section
open Go Go.RowKit Go.BigFrame
set_option maxRecDepth 100000
def famAt (args : List X) : Option (List X × X) := match args with
  | [_, .sc (.int .i64 k)] => cond (Nat.ble k 9223372036854775807) (some ([xArgs, .sc (.int .i64 k)], xI)) none
  | _ => none
theorem famAt_ok (args xs : List X) (y : X) (h : famAt args = some (xs, y)) : DC Tryz.prog 44 xs [y] ∧ xs.all datX = true ∧ (flatX y && noCons y) = true := by
  unfold famAt at h
  split at h
  · rename_i k
    cases hb : Nat.ble k 9223372036854775807 with
    | false => rw [hb] at h; cases h
    | true =>
      rw [hb] at h
      cases h
      exact ⟨dcMAt k (Nat.le_of_ble_eq_true hb), rfl, rfl⟩
  · cases h
def famAfter (args : List X) : Option (List X × X) := match args with
  | [_, .sc (.int .i64 k)] => cond (Nat.ble k 9223372036854775807) (some ([xArgs, .sc (.int .i64 k)], xArgs)) none
  | _ => none
theorem famAfter_ok (args xs : List X) (y : X) (h : famAfter args = some (xs, y)) : DC Tryz.prog 47 xs [y] ∧ xs.all datX = true := by
  unfold famAfter at h
  split at h
  · rename_i k
    cases hb : Nat.ble k 9223372036854775807 with
    | false => rw [hb] at h; cases h
    | true =>
      rw [hb] at h
      cases h
      exact ⟨dcMAfter k (Nat.le_of_ble_eq_true hb), rfl⟩
  · cases h
noncomputable def hk13 : Hooks := (((((noHooks.addU 15 (placeU (fnK 15)) (placeU_ok (fnK_ok _))).addFam 44 famAt famAt_ok).addU 47 (famU famAfter) (famU_ok famAfter_ok)).addD 48 [xNode] xNode dcCopyNode rfl).addF 45 [xI] xId dcMop rfl rfl).addD 49 [xArgs] (.sc pathU) dcMIds rfl
def nodeL : List V := [aI, aI, aI, pathU, aI, aI, aI, aI, aI, aI, aB]
def reqL : List V := ints 17 ++ nodeL
def xReq : X := .agg reqL
theorem rMReq : runD hk13 46 [xArgs, xNode] st0 (outD [xReq]) = true := by kernel_rfl
theorem dcMReq : DC Tryz.prog 46 [xArgs, xNode] [xReq] := dc_run0 hk13 rMReq rfl
end
end Go.Proofs.YtbgdjcoliiinjaaGreat
