/- The law's own 'right': are all tokens well formed and few? And tokens that came in as an argument. -/
import Derived.Test.YtmeicjndfblglaaDoorText
import Derived.Test.YtmeicjndfblglaaDoorNext
set_option linter.unusedVariables false
set_option linter.unusedSimpArgs false
set_option linter.unusedSectionVars false
namespace Go.Proofs.YtmeicjndfblglaaDoor
open Go.RowKit

def Tok.fits (t : Tok) : Prop := (str t.raw.text).size ≤ 140737488351232 ∧ 0 ≤ t.raw.value ∧ t.raw.value ≤ 18446744073709551615
/-- A slice value that came in and reads as these tokens. -/
def Toks (w : World) (v : Value) (d : List Tok) : Prop := Row w v 5 (d.map fun t => t.cells.toList) ∧ ∀ t ∈ d, t.fits
theorem Toks.below {w w' : World} {v : Value} {d : List Tok} (h : Toks w v d) (hb : Below w.heap.size w w') : Toks w' v d := ⟨h.1.below hb, h.2⟩
theorem Toks.slice {w : World} {v : Value} {d : List Tok} (h : Toks w v d) (hd : d.length ≤ 65536) : (d = [] ∧ ∃ a c, v = .slice a 0 c) ∨ TokSlice w v d.length d := by
  obtain ⟨⟨_, h⟩, _⟩ := h
  rcases h with ⟨h, x⟩ | ⟨b, off, cap, hv, h0, hl, hm, hb, hc⟩
  · exact .inl ⟨by simpa using h, x⟩
  · refine .inr ⟨rfl, .inr ⟨b, off, cap, by simpa using hv, hd, hb, fun i t ht => ?_⟩⟩
    have g := hc i t.cells.toList
    have hi : (d.map fun t => t.cells.toList)[i]? = some t.cells.toList := by rw [List.getElem?_map, ht]; rfl
    exact ⟨g 0 _ hi rfl, g 1 _ hi rfl, g 2 _ hi rfl, g 3 _ hi rfl, g 4 _ hi rfl⟩
/-- What 'right' asks. -/
def okTok (t : Tok) : Bool := (textOf t.raw).2 && decide (t.raw.text.length ≤ 200)
def rightB (d : List Tok) : Bool := decide (d.length ≤ 100) && d.all okTok

set_option maxRecDepth 100000 in
set_option maxHeartbeats 2000000 in
theorem right_any (va : Value) (d : List Tok) (w : World) (h : Toks w va d) :
    Calls Tryd.prog 8 #[va] w fun e w' => e = .returned (.bool (rightB d)) ∧ Below w.heap.size w w' := by
  have h1 := h.1.2
  have hlen : d.length ≤ maxLen := by simpa using h.1.1
  unfold maxLen at hlen
  by_cases hbig : 100 < d.length
  · have hr : rightB d = false := by unfold rightB; rw [decide_eq_false (by omega)]; rfl
    have HR := Lib.hid hr
    clear hr
    rcases h1 with ⟨h, _⟩ | ⟨b, off, cap, hv, h0, hl, hm, hb, hc⟩
    · have : d = [] := by simpa using h
      subst this; simp at hbig
    · simp only [List.length_map] at hv
      subst hv
      clear hc h
      go_enter Tryd.func8, Tryd.ntmps8
      go_wp2
      go_ret
      exact ⟨by rw [HR.out]; rfl, Below.refl _ _⟩
  · rcases h.slice (by omega) with ⟨hd, a, c, hv⟩ | hs
    · subst hd hv
      have hr : rightB [] = true := rfl
      have HR := Lib.hid hr
      clear hr h h1 hbig
      go_enter Tryd.func8, Tryd.ntmps8
      go_wp2
      go_loop [3] (fun i => i = .int .i64 0) (fun _ => 0)
      case atStart => rfl
      case round =>
        obtain rfl := hrel
        go_wp2
        go_ret
        exact ⟨by rw [HR.out]; rfl, Below.refl _ _⟩
    · rcases hs.2 with ⟨h0, rfl⟩ | ⟨b, off, cap, hv, _, hb, hc⟩
      · have hd : d = [] := List.eq_nil_of_length_eq_zero h0
        subst hd
        have hr : rightB [] = true := rfl
        have HR := Lib.hid hr
        clear hr h h1 hbig hs h0
        go_enter Tryd.func8, Tryd.ntmps8
        go_wp2
        go_loop [3] (fun i => i = .int .i64 0) (fun _ => 0)
        case atStart => rfl
        case round =>
          obtain rfl := hrel
          go_wp2
          go_ret
          exact ⟨by rw [HR.out]; rfl, Below.refl _ _⟩
      · subst hv
        have HC := Lib.hid hc
        have HF := Lib.hid h.2
        obtain ⟨n, hn⟩ : ∃ n, n = d.length := ⟨_, rfl⟩
        have HN := Lib.hid hn
        rw [← hn] at hlen hbig ⊢
        clear hc h h1 hs hn
        go_enter Tryd.func8, Tryd.ntmps8
        go_wp2
        go_loopw [3] (fun i wr => ∃ k : Nat, k ≤ n ∧ i = .int .i64 k ∧ (∀ t ∈ d.take k, okTok t = true) ∧ Below w.heap.size w wr) (fun i _ => n - (intOf i).toNat)
        case atStart => exact ⟨0, Nat.zero_le _, rfl, by simp, Below.refl _ _⟩
        case round =>
          obtain ⟨k, hk, rfl, hok, hbel⟩ := hrel
          have HB := Lib.hid hbel
          have HOK := Lib.hid hok
          clear hok
          by_cases hlt : k < n
          · obtain ⟨t, ht⟩ : ∃ t, d[k]? = some t := ⟨_, List.getElem?_eq_getElem (by rw [← HN.out]; exact hlt)⟩
            obtain ⟨f0, f1, f2⟩ := HF.out t (List.mem_of_getElem? ht)
            obtain ⟨x0, x1, x2, x3, x4⟩ := HC.out k t ht
            rw [← hbel.cell (by exact hb)] at x0 x1 x2 x3 x4
            have hz := hbel.size
            have HT := Lib.hid ht
            clear hbel ht
            by_cases hto : (textOf t.raw).2 = true ∧ (str t.raw.text).size ≤ 200
            · obtain ⟨ht1, ht2⟩ := hto
              go_wp2_with fail
              refine (Text_any t.raw t.line t.col _ f0 ⟨f1, f2⟩).mono ?_
              rintro e w1 ⟨rfl, hb1⟩
              have y1 := (hb1.cell (p := ⟨b, off + k * 5 + 1, none⟩) (by show b < _; omega)).trans x1
              have HB1 := Lib.hid hb1
              clear hb1 x0 x1 x2 x3 x4
              go_wp2
              go_roundw
              case rel =>
                refine ⟨k + 1, by omega, by go_num, ?_, HB.out.trans (HB1.out.mono hz)⟩
                intro u hu
                rw [List.take_add_one, HT.out] at hu
                simp only [Option.toList_some, List.mem_append, List.mem_singleton] at hu
                rcases hu with hu | rfl
                · exact HOK.out u hu
                · unfold okTok; rw [ht1, decide_eq_true (by simpa [str_size] using ht2)]; rfl
              case measure => simp [intOf]; omega
            · have hr : rightB d = false := by
                unfold rightB
                have h5 : d.all okTok = false := by
                  rw [List.all_eq_false]
                  refine ⟨t, List.mem_of_getElem? HT.out, ?_⟩
                  unfold okTok
                  intro h6
                  simp only [Bool.and_eq_true, decide_eq_true_eq] at h6
                  exact hto ⟨h6.1, by simpa [str_size] using h6.2⟩
                rw [h5, Bool.and_false]
              have HR := Lib.hid hr
              clear hr
              rcases Bool.eq_false_or_eq_true (textOf t.raw).2 with ht1 | ht1
              · have ht2 : 200 < (str t.raw.text).size := by
                  rcases Nat.lt_or_ge 200 (str t.raw.text).size with h | h
                  · exact h
                  · exact absurd ⟨ht1, h⟩ hto
                clear hto
                go_wp2_with fail
                refine (Text_any t.raw t.line t.col _ f0 ⟨f1, f2⟩).mono ?_
                rintro e w1 ⟨rfl, hb1⟩
                have y1 := (hb1.cell (p := ⟨b, off + k * 5 + 1, none⟩) (by show b < _; omega)).trans x1
                have HB1 := Lib.hid hb1
                clear hb1 x0 x1 x2 x3 x4
                go_wp2
                go_ret
                exact ⟨by rw [HR.out]; rfl, HB.out.trans (HB1.out.mono hz)⟩
              · clear hto
                go_wp2_with fail
                refine (Text_any t.raw t.line t.col _ f0 ⟨f1, f2⟩).mono ?_
                rintro e w1 ⟨rfl, hb1⟩
                have HB1 := Lib.hid hb1
                clear hb1 x0 x1 x2 x3 x4
                go_wp2
                go_ret
                exact ⟨by rw [HR.out]; rfl, HB.out.trans (HB1.out.mono hz)⟩
          · go_wp2
            go_ret
            refine ⟨ret_bool ?_, HB.out⟩
            have hr : rightB d = true := by
              unfold rightB
              have h5 := HOK.out
              rw [List.take_of_length_le (by rw [← HN.out]; omega)] at h5
              rw [List.all_eq_true.2 h5, decide_eq_true (by rw [← HN.out]; omega)]; rfl
            rw [hr]
end Go.Proofs.YtmeicjndfblglaaDoor
