/- LexFormat and LexRoundTrip: what the laws return. -/
import Derived.Test.YtmeicjndfblglaaDoorFormatW
import Derived.Test.YtmeicjndfblglaaDoorLawSpacing
import Derived.Test.YtmeicjndfblglaaDoorTokArg
import Derived.Test.YtmeicjndfblglaaDoorCopy
set_option linter.unusedVariables false
set_option linter.unusedSimpArgs false
set_option linter.unusedSectionVars false
namespace Go.Proofs.YtmeicjndfblglaaDoor
open Go.RowKit

theorem Toks.rd {w : World} {va : Value} {d : List Tok} (h : Toks w va d) : TokRd w va d := by
  obtain ⟨a, c, rfl⟩ := h.1.form
  rw [List.length_map] at h ⊢
  exact ⟨a, c, rfl, fun k t ht => h.get ht⟩
theorem TokSlice.rd {w : World} {va : Value} {d : List Tok} (h : TokSlice w va d.length d) : TokRd w va d := by
  rcases h.2 with ⟨h0, rfl⟩ | ⟨b, off, cap, rfl, _, hb, hc⟩
  · have : d = [] := List.eq_nil_of_length_eq_zero h0
    subst this
    exact ⟨none, 0, rfl, by simp⟩
  · exact ⟨_, cap, rfl, fun k t ht => ⟨b, off, rfl, hb, hc k t ht⟩⟩
theorem tok_len (d : List Tok) : ∀ c ∈ d.map fun t => t.cells.toList, c.length = 5 := by
  intro c hc
  obtain ⟨t, _, rfl⟩ := List.mem_map.1 hc
  rfl
theorem tok_one (d : List Tok) : ∀ c ∈ d.map fun t => t.cells.toList, ∀ u ∈ c, u.oneCell' = true := by
  intro c hc u hu
  obtain ⟨t, _, rfl⟩ := List.mem_map.1 hc
  simp [Tok.cells, Raw.cells] at hu
  rcases hu with rfl | rfl | rfl | rfl | rfl <;> rfl

set_option maxRecDepth 100000 in
set_option maxHeartbeats 4000000 in
theorem LexFormat_any (va : Value) (d : List Tok) (w : World) (h : Toks w va d) (hp : Pow w) :
    Calls Tryd.prog 3 #[va] w fun e w' => e = .returned (.bool true) ∧ Below w.heap.size w w' := by
  obtain ⟨a, c, rfl⟩ := h.1.form
  have hlm := h.1.1
  rw [List.length_map] at h hlm ⊢
  unfold maxLen at hlm
  obtain ⟨n, hn⟩ : ∃ n, n = d.length := ⟨_, rfl⟩
  have HN := Lib.hid hn
  rw [← hn] at h hlm ⊢
  have H := Lib.hid h
  have HP := Lib.hid hp
  clear h hn hp
  by_cases hbig : 200 < n
  · go_enter Tryd.func3, Tryd.ntmps3
    go_wp2_with (go_at_call 5; refine (awake_any _).mono ?_; rintro e w' ⟨rfl, hb⟩)
    go_ret
    exact ⟨rfl, by assumption⟩
  · go_enter Tryd.func3, Tryd.ntmps3
    go_wp2_with fail
    go_loop [3] (fun i => ∃ k : Nat, k ≤ n ∧ i = .int .i64 k ∧ ∀ t ∈ d.take k, t.raw.text.length ≤ 200) (fun i => n - (intOf i).toNat)
    case atStart => exact ⟨0, Nat.zero_le _, rfl, by simp⟩
    case round =>
      obtain ⟨k, hk, rfl, hok⟩ := hrel
      have HOK := Lib.hid hok
      clear hok
      by_cases hlt : k < n
      · obtain ⟨t, ht⟩ : ∃ t, d[k]? = some t := ⟨_, List.getElem?_eq_getElem (by rw [← HN.out]; exact hlt)⟩
        obtain ⟨b, off, rfl, hb, x0, x1, x2, x3, x4⟩ := H.out.get ht
        have HT := Lib.hid ht
        clear ht
        by_cases hts : (str t.raw.text).size ≤ 200
        · go_wp2
          go_round
          case rel =>
            refine ⟨k + 1, by omega, by go_num, ?_⟩
            intro u hu
            rw [List.take_add_one, HT.out] at hu
            simp only [Option.toList_some, List.mem_append, List.mem_singleton] at hu
            rcases hu with hu | rfl
            · exact HOK.out u hu
            · simpa [str_size] using hts
          case measure => simp [intOf]; omega
        · go_wp2_with (go_at_call 5; refine (awake_any _).mono ?_; rintro e w' ⟨rfl, hb⟩)
          go_ret
          exact ⟨rfl, by assumption⟩
      · have hfew : fewB d := ⟨by rw [← HN.out]; omega, fun t ht => ⟨HOK.out t (by rw [List.take_of_length_le (by rw [← HN.out]; omega)]; exact ht), (H.out.2 t ht).2⟩⟩
        have HFEW := Lib.hid hfew
        obtain ⟨fm, hfm⟩ : ∃ fm, fm = str (formatL (d.map (·.raw))) := ⟨_, rfl⟩
        have HFM := Lib.hid hfm
        have KN := Kn.start w
        clear hfew hfm hk
        go_wp2_with (refine wpList_kn_copy KN (by rfl) _ _ 22 rfl 28 5 48 Tryd.underlying22 (by kernel_rfl) (by decide) rfl (.slice a n c) rfl (d.map fun (t : Tok) => t.cells.toList) H.out.1 (tok_len d) (tok_one d) (by rw [List.length_map, ← HN.out]; omega) ?_; clear KN; intro vc wx KN hrow)
        have hrow' : Toks wx vc d := ⟨hrow, H.out.2⟩
        have HR := Lib.hid hrow'
        clear hrow hrow'
        have hz0 := KN.size
        go_wp2_with (go_at_call 6; refine (FormatP_any _ d _ HR.out.rd HFEW.out (HP.out.below KN.toBelow)).mono ?_; rintro e w1 ⟨rfl, hb1⟩; rw [← HFM.out])
        have hb1' := KN.toBelow.trans (Below.mono hb1 hz0)
        have HB1 := Lib.hid hb1'
        have hz1 := hb1'.size
        have HA1 := Lib.hid (H.out.below hb1')
        clear hb1 hb1'
        go_wp2_with (go_at_call 7; refine (FormatR_any _ d _ HA1.out.rd HFEW.out).mono ?_; rintro e w2 ⟨rfl, hb2⟩; rw [← HFM.out])
        have HB2 := Lib.hid (HB1.out.trans (Below.mono hb2 hz1))
        have hz2 := HB2.out.size
        clear hb2
        go_wp2_with (go_at_call 5; refine (awake_any _).mono ?_; rintro e w3 ⟨rfl, hb3⟩)
        go_ret
        exact ⟨rfl, HB2.out.trans (Below.mono (by assumption) hz2)⟩
end Go.Proofs.YtmeicjndfblglaaDoor
