/- The law's own 'same', for lists of tokens that are equal (positions aside, where it is asked so). -/
import Derived.Test.YtmeicjndfblglaaDoorScanP
import Derived.Deep.RegionHeld3
set_option linter.unusedVariables false
set_option linter.unusedSimpArgs false
set_option linter.unusedSectionVars false
namespace Go.Proofs.YtmeicjndfblglaaDoor
open Go.RowKit

/-- A slice value that reads as these tokens. -/
def TokSlice (w : World) (v : Value) (n : Nat) (d : List Tok) : Prop :=
  d.length = n ∧ ((n = 0 ∧ v = .slice none 0 0) ∨ ∃ b off cap, v = .slice (some ⟨b, off, none⟩) n cap ∧ n ≤ 65536 ∧ b < w.heap.size ∧
    ∀ (i : Nat) (t : Tok), d[i]? = some t → w.cell? ⟨b, off + i * 5, none⟩ = some (.int .i64 t.raw.kind) ∧ w.cell? ⟨b, off + i * 5 + 1, none⟩ = some (.string (str t.raw.text)) ∧
      w.cell? ⟨b, off + i * 5 + 2, none⟩ = some (.int .u64 t.raw.value) ∧ w.cell? ⟨b, off + i * 5 + 3, none⟩ = some (.int .i64 t.line) ∧ w.cell? ⟨b, off + i * 5 + 4, none⟩ = some (.int .i64 t.col))
theorem TokSlice.below {w w' : World} {v : Value} {n : Nat} {d : List Tok} (h : TokSlice w v n d) (hb : Below w.heap.size w w') : TokSlice w' v n d := by
  refine ⟨h.1, ?_⟩
  rcases h.2 with h2 | ⟨b, off, cap, hv, hn, hbb, hc⟩
  · exact .inl h2
  · refine .inr ⟨b, off, cap, hv, hn, by have := hb.size; omega, fun i t ht => ?_⟩
    obtain ⟨x0, x1, x2, x3, x4⟩ := hc i t ht
    exact ⟨(hb.cell (by exact hbb)).trans x0, (hb.cell (by exact hbb)).trans x1, (hb.cell (by exact hbb)).trans x2, (hb.cell (by exact hbb)).trans x3, (hb.cell (by exact hbb)).trans x4⟩

theorem cells5 {w : World} {g : Nat} {a b c d e : Value} {T : TypeId} (h : w.heap[g]? = some (.cells #[a, b, c, d, e] T)) :
    w.cell? ⟨g, 0, none⟩ = some a ∧ w.cell? ⟨g, 1, none⟩ = some b ∧ w.cell? ⟨g, 2, none⟩ = some c ∧ w.cell? ⟨g, 3, none⟩ = some d ∧ w.cell? ⟨g, 4, none⟩ = some e ∧
    w.frozen? ⟨g, 3, none⟩ = false ∧ w.frozen? ⟨g, 4, none⟩ = false ∧ g < w.heap.size :=
  ⟨by simp [World.cell?, h], by simp [World.cell?, h], by simp [World.cell?, h], by simp [World.cell?, h], by simp [World.cell?, h], by simp [World.frozen?, h], by simp [World.frozen?, h], (Array.getElem?_eq_some_iff.1 h).1⟩

theorem two_new1 (w : World) (c : Array Value) (o : Obj) {e : TypeId} : ((w.alloc (.cells c e)).alloc o).drew.heap[w.heap.size]? = some (.cells c e) := by
  show ((w.alloc (.cells c e)).alloc o).heap[w.heap.size]? = _
  rw [Below.heap_alloc _ _ _ (by simp)]; exact heap_alloc_new w _
theorem two_new2 (w : World) (o : Obj) (c : Array Value) {e : TypeId} : ((w.alloc o).alloc (.cells c e)).drew.heap[w.heap.size + 1]? = some (.cells c e) := by
  have h := heap_alloc_new (w.alloc o) (.cells c e)
  rw [show (w.alloc o).heap.size = w.heap.size + 1 from by simp] at h
  exact h
set_option maxHeartbeats 2000000 in
theorem same_any (va vb : Value) (n : Nat) (d1 d2 : List Tok) (bf : Bool) (w : World) (ha : TokSlice w va n d1) (hb : TokSlice w vb n d2)
    (he : ∀ (i : Nat) (t1 t2 : Tok), d1[i]? = some t1 → d2[i]? = some t2 → t1.raw = t2.raw ∧ (bf = false → t1.line = t2.line ∧ t1.col = t2.col)) :
    Calls Tryd.prog 10 #[va, vb, .bool bf] w fun e w' => e = .returned (.bool true) ∧ Below w.heap.size w w' := by
  have HE := Lib.hid he
  clear he
  by_cases hn0 : n = 0
  · have hva : ∃ a cap, va = .slice a 0 cap := by
      rcases ha.2 with ⟨_, h⟩ | ⟨b, off, cap, h, _⟩
      · exact ⟨_, _, h⟩
      · exact ⟨_, _, by rw [h, hn0]⟩
    have hvb : ∃ a cap, vb = .slice a 0 cap := by
      rcases hb.2 with ⟨_, h⟩ | ⟨b, off, cap, h, _⟩
      · exact ⟨_, _, h⟩
      · exact ⟨_, _, by rw [h, hn0]⟩
    obtain ⟨a, ca, rfl⟩ := hva
    obtain ⟨b, cb, rfl⟩ := hvb
    clear ha hb hn0
    go_enter Tryd.func10, Tryd.ntmps10
    go_wp2
    go_loop [7] (fun i => i = .int .i64 0) (fun _ => 0)
    case atStart => rfl
    case round =>
      obtain rfl := hrel
      go_wp2
      go_ret
      exact ⟨rfl, Below.refl _ _⟩
  · obtain ⟨hl1, ha⟩ := ha
    obtain ⟨hl2, hb⟩ := hb
    rcases ha with ⟨h, _⟩ | ⟨ba, oa, ca, rfl, hla, hba, hca⟩
    · exact absurd h hn0
    rcases hb with ⟨h, _⟩ | ⟨bb, ob, cb, rfl, hlb, hbb, hcb⟩
    · exact absurd h hn0
    have HCA := Lib.hid hca
    have HCB := Lib.hid hcb
    have HL1 := Lib.hid hl1
    have HL2 := Lib.hid hl2
    clear hca hcb hl1 hl2 hn0
    rcases Bool.eq_false_or_eq_true bf with rfl | rfl
    · skip
      go_enter Tryd.func10, Tryd.ntmps10
      go_wp2
      go_loopw [7] (fun i wr => ∃ k : Nat, k ≤ n ∧ i = .int .i64 k ∧ Below w.heap.size w wr) (fun i _ => n - (intOf i).toNat)
      case atStart => exact ⟨0, Nat.zero_le _, rfl, Below.refl _ _⟩
      case round =>
        obtain ⟨k, hk, rfl, hbel⟩ := hrel
        have HB := Lib.hid hbel
        by_cases hlt : k < n
        · obtain ⟨t1, ht1⟩ : ∃ t, d1[k]? = some t := ⟨_, List.getElem?_eq_getElem (by rw [HL1.out]; exact hlt)⟩
          obtain ⟨t2, ht2⟩ : ∃ t, d2[k]? = some t := ⟨_, List.getElem?_eq_getElem (by rw [HL2.out]; exact hlt)⟩
          obtain ⟨hraw, hpos⟩ := HE.out k t1 t2 ht1 ht2
          obtain ⟨x0, x1, x2, x3, x4⟩ := HCA.out k t1 ht1
          obtain ⟨y0, y1, y2, y3, y4⟩ := HCB.out k t2 ht2
          rw [← hbel.cell (by exact hba)] at x0 x1 x2 x3 x4
          rw [← hbel.cell (by exact hbb)] at y0 y1 y2 y3 y4
          have hz := hbel.size
          have hba' : ba < wr.heap.size := by omega
          have hbb' : bb < wr.heap.size := by omega
          rw [← hraw] at y0 y1 y2
          clear hbel ht1 ht2 hraw hpos
          go_upto_region 6 with fail
          go_cut [8, 9] (fun s8 s9 wx => ∃ g h : Nat, g ≠ h ∧ wr.heap.size ≤ g ∧ wr.heap.size ≤ h ∧ s8 = .pointer (some ⟨g, 0, none⟩) ∧ s9 = .pointer (some ⟨h, 0, none⟩) ∧
            wx.heap[g]? = some (.cells #[.int .i64 t1.raw.kind, .string (str t1.raw.text), .int .u64 t1.raw.value, .int .i64 t1.line, .int .i64 t1.col] 28) ∧ wx.heap[h]? = some (.cells #[.int .i64 t1.raw.kind, .string (str t1.raw.text), .int .u64 t1.raw.value, .int .i64 t2.line, .int .i64 t2.col] 28) ∧ Below wr.heap.size wr wx)
          case first =>
            go_region
            all_goals
              go_wp2
              go_meet
            all_goals
              first
                | exact ⟨wr.heap.size, wr.heap.size + 1, by omega, by omega, by omega, rfl, rfl, two_new1 _ _ _, two_new2 _ _ _, (((Below.refl _ _).alloc (Nat.le_refl _) _).alloc (by simp) _).drew⟩
                | exact ⟨wr.heap.size + 1, wr.heap.size, by omega, by omega, by omega, rfl, rfl, two_new2 _ _ _, two_new1 _ _ _, (((Below.refl _ _).alloc (Nat.le_refl _) _).alloc (by simp) _).drew⟩
          case rest =>
            obtain ⟨g, h, hgh, hg, hh, rfl, rfl, hcg, hch, hbw⟩ := hcut
            obtain ⟨a0, a1, a2, a3, a4, a5, a6, a7⟩ := cells5 hcg
            obtain ⟨b0, b1, b2, b3, b4, b5, b6, b7⟩ := cells5 hch
            have hhg : h ≠ g := fun e => hgh e.symm
            have HBW := Lib.hid hbw
            clear hcg hch hbw x0 x1 x2 x3 x4 y0 y1 y2 y3 y4
            go_wp2
            go_roundw
            case rel => exact ⟨k + 1, by omega, by go_num, by
              have h1 := HB.out.trans (HBW.out.mono hz)
              repeat (first | exact h1 | refine Below.setCell ?_ (by first | exact Nat.le_trans hz hh | exact Nat.le_trans hz hg) _)⟩
            case measure => simp [intOf]; omega
        · go_wp2
          go_ret
          exact ⟨rfl, HB.out⟩
    · skip
      go_enter Tryd.func10, Tryd.ntmps10
      go_wp2
      go_loopw [7] (fun i wr => ∃ k : Nat, k ≤ n ∧ i = .int .i64 k ∧ Below w.heap.size w wr) (fun i _ => n - (intOf i).toNat)
      case atStart => exact ⟨0, Nat.zero_le _, rfl, Below.refl _ _⟩
      case round =>
        obtain ⟨k, hk, rfl, hbel⟩ := hrel
        have HB := Lib.hid hbel
        by_cases hlt : k < n
        · obtain ⟨t1, ht1⟩ : ∃ t, d1[k]? = some t := ⟨_, List.getElem?_eq_getElem (by rw [HL1.out]; exact hlt)⟩
          obtain ⟨t2, ht2⟩ : ∃ t, d2[k]? = some t := ⟨_, List.getElem?_eq_getElem (by rw [HL2.out]; exact hlt)⟩
          obtain ⟨hraw, hpos⟩ := HE.out k t1 t2 ht1 ht2
          obtain ⟨x0, x1, x2, x3, x4⟩ := HCA.out k t1 ht1
          obtain ⟨y0, y1, y2, y3, y4⟩ := HCB.out k t2 ht2
          rw [← hbel.cell (by exact hba)] at x0 x1 x2 x3 x4
          rw [← hbel.cell (by exact hbb)] at y0 y1 y2 y3 y4
          have hz := hbel.size
          have hba' : ba < wr.heap.size := by omega
          have hbb' : bb < wr.heap.size := by omega
          rw [← hraw] at y0 y1 y2
          obtain ⟨hp1, hp2⟩ := hpos (by trivial)
          rw [← hp1] at y3
          rw [← hp2] at y4
          clear hp1 hp2
          clear hbel ht1 ht2 hraw hpos
          go_upto_region 6 with fail
          go_cut [8, 9] (fun s8 s9 wx => ∃ g h : Nat, g ≠ h ∧ wr.heap.size ≤ g ∧ wr.heap.size ≤ h ∧ s8 = .pointer (some ⟨g, 0, none⟩) ∧ s9 = .pointer (some ⟨h, 0, none⟩) ∧
            wx.heap[g]? = some (.cells #[.int .i64 t1.raw.kind, .string (str t1.raw.text), .int .u64 t1.raw.value, .int .i64 t1.line, .int .i64 t1.col] 28) ∧ wx.heap[h]? = some (.cells #[.int .i64 t1.raw.kind, .string (str t1.raw.text), .int .u64 t1.raw.value, .int .i64 t1.line, .int .i64 t1.col] 28) ∧ Below wr.heap.size wr wx)
          case first =>
            go_region
            all_goals
              go_wp2
              go_meet
            all_goals
              first
                | exact ⟨wr.heap.size, wr.heap.size + 1, by omega, by omega, by omega, rfl, rfl, two_new1 _ _ _, two_new2 _ _ _, (((Below.refl _ _).alloc (Nat.le_refl _) _).alloc (by simp) _).drew⟩
                | exact ⟨wr.heap.size + 1, wr.heap.size, by omega, by omega, by omega, rfl, rfl, two_new2 _ _ _, two_new1 _ _ _, (((Below.refl _ _).alloc (Nat.le_refl _) _).alloc (by simp) _).drew⟩
          case rest =>
            obtain ⟨g, h, hgh, hg, hh, rfl, rfl, hcg, hch, hbw⟩ := hcut
            obtain ⟨a0, a1, a2, a3, a4, a5, a6, a7⟩ := cells5 hcg
            obtain ⟨b0, b1, b2, b3, b4, b5, b6, b7⟩ := cells5 hch
            have hhg : h ≠ g := fun e => hgh e.symm
            have HBW := Lib.hid hbw
            clear hcg hch hbw x0 x1 x2 x3 x4 y0 y1 y2 y3 y4
            go_wp2
            go_roundw
            case rel => exact ⟨k + 1, by omega, by go_num, by
              have h1 := HB.out.trans (HBW.out.mono hz)
              repeat (first | exact h1 | refine Below.setCell ?_ (by first | exact Nat.le_trans hz hh | exact Nat.le_trans hz hg) _)⟩
            case measure => simp [intOf]; omega
        · go_wp2
          go_ret
          exact ⟨rfl, HB.out⟩
end Go.Proofs.YtmeicjndfblglaaDoor
