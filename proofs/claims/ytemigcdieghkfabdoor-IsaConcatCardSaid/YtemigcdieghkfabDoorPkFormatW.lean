/- The program's Format and the reference's Format. -/
import Derived.Test.YtemigcdieghkfabDoorPkTextP
import Derived.Test.YtemigcdieghkfabDoorPkBuilder
import Derived.Test.YtemigcdieghkfabDoorPkLexP
import Derived.Test.YtemigcdieghkfabDoorPkRight
set_option linter.unusedVariables false
set_option linter.unusedSimpArgs false
set_option linter.unusedSectionVars false
namespace Go.Proofs.YtemigcdieghkfabDoor
open Go.RowKit

theorem BuilderAt.below {T e : TypeId} {B b : Nat} {p : Value} {bs : List Value} {w w' : World} (h : Lib.BuilderAt T e B b p bs w) (hb : Below w.heap.size w w') : Lib.BuilderAt T e B b p bs w' := by
  obtain ⟨hB, v, hbk, ⟨hl, hown⟩, hne⟩ := h
  refine ⟨hB, v, (hb.block b (Array.getElem?_eq_some_iff.1 hbk).1).trans hbk, ⟨hl, ?_⟩, hne⟩
  rcases hown with h | ⟨g, cap, cur, hv, hBg, hg, h1, h2, h3, h4⟩
  · exact .inl h
  · exact .inr ⟨g, cap, cur, hv, hBg, (hb.block g (Array.getElem?_eq_some_iff.1 hg).1).trans hg, h1, h2, h3, h4⟩
theorem IsBuilder.below {T e : TypeId} {B b : Nat} {bs : List Value} {w w' : World} (h : Lib.IsBuilder T e B b bs w) (hb : Below w.heap.size w w') : Lib.IsBuilder T e B b bs w' := by
  rcases h with h | h
  · exact .inl (BuilderAt.below h hb)
  · exact .inr (BuilderAt.below h hb)
theorem IsBuilder.start (w : World) (T e : TypeId) : Lib.IsBuilder T e w.heap.size w.heap.size [] (w.alloc (.cells #[.pointer none, .slice none 0 0] T)) :=
  .inl ⟨Nat.le_refl _, .slice none 0 0, heap_alloc_new w _, ⟨rfl, .inl ⟨rfl, rfl⟩⟩, by simp [Value.ownBlock]⟩
theorem IsBuilder.lt {T e : TypeId} {B b : Nat} {bs : List Value} {w : World} (h : Lib.IsBuilder T e B b bs w) : b < w.heap.size := by
  rcases h with h | h <;> exact h.lt

/-- Tokens that lie somewhere and can be read. -/
def TokRd (w : World) (va : Value) (d : List Tok) : Prop := ∃ a c, va = .slice a d.length c ∧ ∀ (k : Nat) (t : Tok), d[k]? = some t → ∃ b off, a = some ⟨b, off, none⟩ ∧ b < w.heap.size ∧
    w.cell? ⟨b, off + k * 5, none⟩ = some (.int .i64 t.raw.kind) ∧ w.cell? ⟨b, off + k * 5 + 1, none⟩ = some (.string (str t.raw.text)) ∧ w.cell? ⟨b, off + k * 5 + 2, none⟩ = some (.int .u64 t.raw.value) ∧ w.cell? ⟨b, off + k * 5 + 3, none⟩ = some (.int .i64 t.line) ∧ w.cell? ⟨b, off + k * 5 + 4, none⟩ = some (.int .i64 t.col)
def fewB (d : List Tok) : Prop := d.length ≤ 200 ∧ ∀ t ∈ d, t.raw.text.length ≤ 200 ∧ 0 ≤ t.raw.value ∧ t.raw.value ≤ 18446744073709551615
theorem textOf_bd {d : List Tok} (h : fewB d) {k : Nat} {t : Tok} (ht : d[k]? = some t) : (textOf t.raw).1.length ≤ 202 :=
  have := h.2 t (List.mem_of_getElem? ht)
  textOf_len t.raw this.2 this.1
theorem joinK_bd {d : List Tok} (h : fewB d) {k : Nat} (hk : k ≤ d.length) : (joinK (d.map (·.raw)) k).length ≤ 40600 := by
  have := joinK_len (d.map (·.raw)) (fun r hr => by
    obtain ⟨t, ht, rfl⟩ := List.mem_map.1 hr
    exact ⟨(h.2 t ht).2, (h.2 t ht).1⟩) k (by rw [List.length_map]; exact hk)
  have := h.1
  omega
theorem joinK_next {d : List Tok} {k : Nat} {t : Tok} (ht : d[k]? = some t) : joinK (d.map (·.raw)) (k + 1) = joinK (d.map (·.raw)) k ++ (if k = 0 then [] else [32]) ++ (textOf t.raw).1 := by
  have e : (d.map (·.raw)).getD k ⟨0, [], 0⟩ = t.raw := by rw [List.getD_eq_getElem?_getD, List.getElem?_map, ht]; rfl
  rw [joinK, e]
theorem formatL_bad' {d : List Tok} {k : Nat} {t : Tok} (ht : d[k]? = some t) (hb : (textOf t.raw).2 = false) : formatL (d.map (·.raw)) = [] :=
  formatL_bad (List.mem_map.2 ⟨t, List.mem_of_getElem? ht, rfl⟩) hb
theorem formatL_good' {d : List Tok} {k : Nat} (hk : k = d.length) (h : ∀ t ∈ d.take k, (textOf t.raw).2 = true) : formatL (d.map (·.raw)) = joinK (d.map (·.raw)) k := by
  subst hk
  rw [List.take_of_length_le (Nat.le_refl _)] at h
  rw [formatL_good (fun r hr => by obtain ⟨t, ht, rfl⟩ := List.mem_map.1 hr; exact h t ht), List.length_map]
theorem take_ok {d : List Tok} {k : Nat} {t : Tok} (h : ∀ t ∈ d.take k, (textOf t.raw).2 = true) (ht : d[k]? = some t) (hb : (textOf t.raw).2 = true) : ∀ t ∈ d.take (k + 1), (textOf t.raw).2 = true := by
  intro u hu
  rw [List.take_add_one, ht] at hu
  simp only [Option.toList_some, List.mem_append, List.mem_singleton] at hu
  rcases hu with hu | rfl
  · exact h u hu
  · exact hb

/-- What stands while the text is made: the builder, with the text of the first k tokens. -/
def FmtW (d : List Tok) (k : Nat) (w wr : World) : Prop :=
  Lib.IsBuilder 80 5 w.heap.size w.heap.size (Lib.byteCells (joinK (d.map (·.raw)) k)) wr ∧ Below w.heap.size w wr
theorem FmtW.lt {d : List Tok} {k : Nat} {w wr : World} (h : FmtW d k w wr) : w.heap.size + 1 ≤ wr.heap.size := IsBuilder.lt h.1
theorem FmtW.below {d : List Tok} {k : Nat} {w wr w' : World} (h : FmtW d k w wr) (hb : Below wr.heap.size wr w') : FmtW d k w w' :=
  ⟨IsBuilder.below h.1 hb, h.2.trans (hb.mono (by have := h.lt; omega))⟩
theorem FmtW.start (d : List Tok) (w : World) : FmtW d 0 w (w.alloc (.cells #[.pointer none, .slice none 0 0] 80)) :=
  ⟨IsBuilder.start w _ _, (Below.refl _ _).alloc (Nat.le_refl _) _⟩
set_option maxRecDepth 100000 in
set_option maxHeartbeats 4000000 in
theorem FormatP_any (va : Value) (d : List Tok) (w : World) (h : TokRd w va d) (hf : fewB d) (hp : Pow w) :
    Calls Tryd.prog 14 #[va] w fun e w' => e = .returned (.string (str (formatL (d.map (·.raw))))) ∧ Below w.heap.size w w' := by
  obtain ⟨a, c, rfl, hc⟩ := h
  obtain ⟨n, hn⟩ : ∃ n, n = d.length := ⟨_, rfl⟩
  have HN := Lib.hid hn
  have HC := Lib.hid hc
  have HF := Lib.hid hf
  have HP := Lib.hid hp
  have h200 : n ≤ 200 := by rw [hn]; exact hf.1
  rw [← hn]
  clear hn hc hf hp
  go_enter Tryd.func14, Tryd.ntmps14
  go_wp2_with fail
  go_loopw [10] (fun i wr => ∃ k : Nat, k ≤ n ∧ i = .int .i64 k ∧ (∀ t ∈ d.take k, (textOf t.raw).2 = true) ∧ FmtW d k w wr) (fun i _ => n - (intOf i).toNat)
  case atStart => exact ⟨0, Nat.zero_le _, rfl, by simp, FmtW.start d w⟩
  case round =>
    obtain ⟨k, hk, rfl, hok, hw⟩ := hrel
    have HW := Lib.hid hw
    have HOK := Lib.hid hok
    have hz := hw.lt
    clear hok
    by_cases hlt : k < n
    · obtain ⟨t, ht⟩ : ∃ t, d[k]? = some t := ⟨_, List.getElem?_eq_getElem (by rw [← HN.out]; exact hlt)⟩
      obtain ⟨f0, f1, f2⟩ := HF.out.2 t (List.mem_of_getElem? ht)
      obtain ⟨b, off, rfl, hb, x0, x1, x2, x3, x4⟩ := HC.out k t ht
      rw [← hw.2.cell (by exact hb)] at x0 x1 x2 x3 x4
      have hul := textOf_bd HF.out ht
      have hjl := joinK_bd HF.out (k := k) (by rw [← HN.out]; exact hk)
      have HT := Lib.hid ht
      clear ht hw
      have fs : (str t.raw.text).size ≤ 140737488351232 := by rw [str_size]; omega
      rcases Bool.eq_false_or_eq_true (textOf t.raw).2 with ht1 | ht1
      · have TXT : ∀ W, Pow W → Calls Tryd.prog 35 #[.agg #[.int .i64 t.raw.kind, .string (str t.raw.text), .int .u64 t.raw.value, .int .i64 t.line, .int .i64 t.col]] W fun e w' => e = .returned (.tuple #[.string (str (textOf t.raw).1), .bool true]) ∧ Below W.heap.size W w' := by
          intro W hW
          refine (text_any t.raw t.line t.col W fs ⟨f1, f2⟩ hW).mono ?_
          rintro e w' ⟨x, rfl, hx, hb⟩
          rw [ht1, hx ht1]
          exact ⟨rfl, hb⟩
        obtain ⟨u, hu⟩ : ∃ u, u = (textOf t.raw).1 := ⟨_, rfl⟩
        rw [← hu] at TXT hul
        have hus : (str u).size ≤ 202 := by rw [str_size]; exact hul
        have HU := Lib.hid hu
        have hbl : (Lib.byteCells (joinK (d.map (·.raw)) k)).length ≤ 40600 := by rw [Lib.byteCells_length]; exact hjl
        have hstep : Lib.byteCells (joinK (d.map (·.raw)) (k + 1)) = Lib.byteCells (joinK (d.map (·.raw)) k) ++ (if k = 0 then [] else [.int .u8 32]) ++ Lib.strCells (str u) := by
          rw [joinK_next HT.out, ← hu, Lib.byteCells_append, Lib.byteCells_append, Lib.strCells_eq, data_str]
          congr 2
          split <;> rfl
        have HST := Lib.hid hstep
        clear hu hul hstep hjl
        by_cases hk0 : k = 0
        · have hk1 : ¬ (0 : Int) < (k : Int) := by omega
          rw [if_pos hk0, List.append_nil] at HST
          clear hk0
          go_wp2_with fail
          refine (TXT _ (HP.out.below (HW.out.2.alloc (by omega) _))).mono ?_
          rintro e w1 ⟨rfl, hb1⟩
          have hw1 := (HW.out.below ((Below.refl wr.heap.size wr).alloc (Nat.le_refl _) _)).below hb1
          have hz1 := hw1.lt
          have HW1 := Lib.hid hw1
          clear x0 x1 x2 x3 x4 hb1 hw1
          go_wp2_with (go_at_call 29; refine (WriteString_any _ _ _ _ _ HW1.out.1 (by omega) (by omega)).mono ?_; rintro e w2 ⟨rfl, h2, hb2⟩)
          go_roundw
          case rel => exact ⟨k + 1, by omega, by go_num, take_ok HOK.out HT.out ht1, .inr (HST.out ▸ h2), HW1.out.2.trans hb2⟩
          case measure => simp [intOf]; omega
        · have hk1 : (0 : Int) < (k : Int) := by omega
          rw [if_neg hk0] at HST
          clear hk0
          go_wp2_with fail
          refine (TXT _ (HP.out.below (HW.out.2.alloc (by omega) _))).mono ?_
          rintro e w1 ⟨rfl, hb1⟩
          have hw1 := (HW.out.below ((Below.refl wr.heap.size wr).alloc (Nat.le_refl _) _)).below hb1
          have hz1 := hw1.lt
          have HW1 := Lib.hid hw1
          clear x0 x1 x2 x3 x4 hb1 hw1
          go_wp2_with (go_at_call 36; refine (WriteByte_any _ _ _ 32 _ HW1.out.1 (by omega) (by omega)).mono ?_; rintro e w2 ⟨rfl, h2, hb2⟩)
          have H2 := Lib.hid h2
          have HB2 := Lib.hid hb2
          have hz2 := hb2.size
          clear h2 hb2
          go_wp2_with (go_at_call 29; refine (WriteString_any _ _ _ _ _ (.inr H2.out) (by rw [List.length_append]; simp only [List.length_cons, List.length_nil]; omega) (by omega)).mono ?_; rintro e w3 ⟨rfl, h3, hb3⟩)
          go_roundw
          case rel => exact ⟨k + 1, by omega, by go_num, take_ok HOK.out HT.out ht1, .inr (HST.out ▸ h3), (HW1.out.2.trans HB2.out).trans hb3⟩
          case measure => simp [intOf]; omega
      · have hr := formatL_bad' HT.out ht1
        have HR := Lib.hid hr
        clear hr
        go_wp2_with (go_at_call 35; refine (text_any t.raw t.line t.col _ fs ⟨f1, f2⟩ (HP.out.below (HW.out.2.alloc (by omega) _))).mono ?_; rintro e w1 ⟨x, rfl, hx, hb1⟩; rw [ht1])
        go_ret
        exact ⟨by rw [HR.out]; rfl, (HW.out.2.alloc (by omega) _).trans (Below.mono (by assumption) (by simp; omega))⟩
    · have hr := formatL_good' (d := d) (k := k) (by rw [← HN.out]; omega) HOK.out
      have HR := Lib.hid hr
      clear hr
      go_wp2_with (go_at_call 33; refine (Tryd.Builder_String_any _ _ _ _ HW.out.1 (by omega)).mono ?_; rintro e w1 ⟨rfl, hb1⟩)
      go_ret
      exact ⟨by rw [HR.out]; rfl, HW.out.2.trans (by assumption)⟩
end Go.Proofs.YtemigcdieghkfabDoor
