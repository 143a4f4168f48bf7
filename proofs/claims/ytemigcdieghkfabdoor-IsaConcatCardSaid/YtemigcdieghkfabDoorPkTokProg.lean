/- Scanning the text of a program; assembling a text whose program is known; tokens among the entries. -/
import Derived.Test.YtemigcdieghkfabDoorPkRenFmt
import Derived.Test.YtemigcdieghkfabDoorPkFormatW
import Derived.Test.YtemigcdieghkfabDoorPkAsmMain
import Derived.Test.YtemigcdieghkfabDoorPkSameI
import Derived.Test.YtemigcdieghkfabDoorPkProgG
import Derived.Test.YtemigcdieghkfabDoorPkKnAll
import Derived.Test.YtemigcdieghkfabDoorPkSub
import Derived.Test.YtemigcdieghkfabDoorPkAwakeI
set_option linter.unusedVariables false
set_option linter.unusedSimpArgs false
set_option linter.unusedSectionVars false
namespace Go.Proofs.YtemigcdieghkfabDoor
open Go.RowKit Go.BigFrame

theorem Scan_prog {q : List Ins} (he : progErr q = 0) (hi : ∀ x ∈ q, InsOk x) (hn : q.length ≤ 12) (w : World) :
    Calls Tryd.prog 13 #[.string (str (disL q))] w fun e w' => ∃ (d : List Tok) (g cap : Nat), e = .returned (.tuple #[.slice (some ⟨g, 0, none⟩) d.length cap, .agg #[.int .i64 0, .int .i64 0], .int .i64 0]) ∧ d.map (·.raw) = linesK q 0 q ∧ d.length ≤ cap ∧ cap ≤ maxLen ∧ d.length ≤ 156 ∧
      Kn [] w w' [(g, CapAt 44 5 cap (d.map fun t => t.cells.toList))] := by
  have hl := progErr_len he
  have ht := linesT_len q q 0 hi (by omega)
  obtain ⟨d, hd, hr⟩ := scan_lines hi hl.1 (by omega)
  have hdis : disL q = linesT q 0 q := by unfold disL; rw [if_pos he]
  have h2 := linesK_len q q 0
  have h3 := (ren_ok (fd := id) (fu := id) (fun k hk => ⟨wordB_lab k, by have := labName_len (n := k) (by omega); show (labName k).length ≤ 200; omega⟩) (fun k hk => ⟨wordB_lab k, by have := labName_len (n := k) (by omega); show (labName k).length ≤ 200; omega⟩) he hi).2
  rw [renG_id, ← hr, List.length_map] at h3
  have h4 : d.length = (linesK q 0 q).length := by rw [← hr, List.length_map]
  refine (ScanP_any _ w (by rw [str_size, hdis]; unfold maxLen; omega)).mono ?_
  rintro e w' ⟨v, rfl, hown, hbel⟩
  rw [data_str, hdis, hd] at *
  rw [flat_map] at hown
  obtain ⟨ol, h5, h6⟩ := Kn.of_owned hbel (tok_len d) (by rw [List.length_map]) hown
  obtain ⟨g, cap, hv, hc1, hc2, hol⟩ := h5.pos (by rw [List.length_map]; omega)
  rw [List.length_map] at hv hc1
  subst hv
  subst hol
  exact ⟨d, g, cap, rfl, hr, hc1, hc2, by omega, h6⟩
theorem Assemble_known {t : List UInt8} {p : List Ins} (h : asm t = (p, (0, 0), 0)) (h1 : 1 ≤ p.length) (hl : t.length ≤ 65536) (w : World) :
    Calls Tryd.prog 10 #[.string (str t)] w fun e w' => ∃ g cap, e = .returned (.tuple #[.slice (some ⟨g, 0, none⟩) p.length cap, .agg #[.int .i64 0, .int .i64 0], .int .i64 0]) ∧ p.length ≤ cap ∧ cap ≤ maxLen ∧ Kn [] w w' [(g, CapAt 48 5 cap (p.map fun x => x.cells.toList))] := by
  refine (Assemble_any _ w (by rw [str_size]; unfold maxLen; omega)).mono ?_
  unfold AsmOut
  rw [data_str, h]
  rintro e w' ⟨v, ol, rfl, HV, KN⟩
  obtain ⟨g, cap, hv, hc1, hc2, hol⟩ := HV.pos (by rw [List.length_map]; exact h1)
  rw [List.length_map] at hv hc1
  subst hv
  subst hol
  exact ⟨g, cap, rfl, hc1, hc2, KN⟩
theorem TokRd.of_kn {M : List Nat} {W w : World} {l : Ents} (KN : Kn M W w l) {g cap n : Nat} {d : List Tok} (m : Has l g (CapAt 44 5 cap (d.map fun t => t.cells.toList))) (hn : d.length = n) (h1 : d.length ≤ cap) (h2 : cap ≤ maxLen) : TokRd w (.slice (some ⟨g, 0, none⟩) n cap) d := by
  subst hn
  have := OwnT.blk (e := 44) (sz := 5) (g := g) (cap := cap) (L := d.map fun t => t.cells.toList) (by rw [List.length_map]; exact h1) h2 (tok_len d)
  rw [List.length_map] at this
  exact TokRd.of_own this KN (fun x hx => by rw [List.mem_singleton.1 hx]; exact m.mem)
/-- A token's cells among the entries. -/
theorem tok_cells {M : List Nat} {W w : World} {l : Ents} (KN : Kn M W w l) {g cap k : Nat} {d : List Tok} {t : Tok} (m : Has l g (CapAt 44 5 cap (d.map fun t => t.cells.toList))) (ht : d[k]? = some t) :
    w.cell? ⟨g, k * 5, none⟩ = some (.int .i64 t.raw.kind) ∧ w.cell? ⟨g, k * 5 + 1, none⟩ = some (.string (str t.raw.text)) ∧ w.cell? ⟨g, k * 5 + 2, none⟩ = some (.int .u64 t.raw.value) ∧ w.cell? ⟨g, k * 5 + 3, none⟩ = some (.int .i64 t.line) ∧ w.cell? ⟨g, k * 5 + 4, none⟩ = some (.int .i64 t.col) := by
  have hi : (d.map fun t => t.cells.toList)[k]? = some t.cells.toList := by rw [List.getElem?_map, ht]; rfl
  have e := fun (j : Nat) (x : Value) (hj : t.cells.toList[j]? = some x) => KN.elem (g := g) (e := 44) (sz := 5) (cap := cap) (i := k) (j := j) m (tok_len d) hi hj
  exact ⟨e 0 _ rfl, e 1 _ rfl, e 2 _ rfl, e 3 _ rfl, e 4 _ rfl⟩
theorem ins_cells {M : List Nat} {W w : World} {l : Ents} (KN : Kn M W w l) {g cap k : Nat} {p : List Ins} {x : Ins} (m : Has l g (CapAt 48 5 cap (p.map fun x => x.cells.toList))) (hx : p[k]? = some x) :
    w.cell? ⟨g, k * 5, none⟩ = some (.int .i64 x.op) ∧ w.cell? ⟨g, k * 5 + 1, none⟩ = some (.int .i64 x.a) ∧ w.cell? ⟨g, k * 5 + 2, none⟩ = some (.int .i64 x.b) ∧ w.cell? ⟨g, k * 5 + 3, none⟩ = some (.int .i64 x.c) ∧ w.cell? ⟨g, k * 5 + 4, none⟩ = some (.int .i32 x.imm) := by
  have hi : (p.map fun x => x.cells.toList)[k]? = some x.cells.toList := by rw [List.getElem?_map, hx]; rfl
  have e := fun (j : Nat) (y : Value) (hj : x.cells.toList[j]? = some y) => KN.elem (g := g) (e := 48) (sz := 5) (cap := cap) (i := k) (j := j) m (insLen p) hi hj
  exact ⟨e 0 _ rfl, e 1 _ rfl, e 2 _ rfl, e 3 _ rfl, e 4 _ rfl⟩
/-- What is known of each token of a program's text. -/
theorem prog_toks {q : List Ins} (he : progErr q = 0) (hi : ∀ x ∈ q, InsOk x) {d : List Tok} (hr : d.map (·.raw) = linesK q 0 q) : ∀ t ∈ d, RawOk t.raw ∧ (t.raw.kind = 1 → 0 < (str t.raw.text).size) := by
  have h3 := (ren_ok (fd := id) (fu := id) (fun k hk => ⟨wordB_lab k, by have := labName_len (n := k) (by omega); show (labName k).length ≤ 200; omega⟩) (fun k hk => ⟨wordB_lab k, by have := labName_len (n := k) (by omega); show (labName k).length ≤ 200; omega⟩) he hi).1
  rw [renG_id, ← hr] at h3
  intro t ht
  have h4 := h3 t.raw (List.mem_map_of_mem ht)
  refine ⟨h4, fun hk => ?_⟩
  have h5 := h4.2.1
  unfold textOf at h5
  rw [hk] at h5
  rw [str_size]
  cases hq : t.raw.text with
  | nil => rw [hq] at h5; simp [wordB] at h5
  | cons c r => simp
/-! ### Tokens renamed one by one -/
def renT (f : List UInt8 → List UInt8) (t : Tok) : Tok := { t with raw := renR f f t.raw [] }
theorem renR_same (f : List UInt8 → List UInt8) (r : Raw) (l : List Raw) : renR f f r l = renR f f r [] := by
  unfold renR; split <;> simp
theorem renG_same (f : List UInt8 → List UInt8) : ∀ l, renG f f l = l.map fun r => renR f f r []
  | [] => rfl
  | r :: l => by rw [renG, renR_same, renG_same f l, List.map_cons]
def renTo (f : List UInt8 → List UInt8) (k : Nat) (d : List Tok) : List Tok := (d.take k).map (renT f) ++ d.drop k
theorem renTo_len (f : List UInt8 → List UInt8) (k : Nat) (d : List Tok) : (renTo f k d).length = d.length := by
  unfold renTo; rw [List.length_append, List.length_map, ← List.length_append, List.take_append_drop]
theorem renTo_zero (f : List UInt8 → List UInt8) (d : List Tok) : renTo f 0 d = d := by simp [renTo]
theorem renTo_all (f : List UInt8 → List UInt8) (d : List Tok) : renTo f d.length d = d.map (renT f) := by simp [renTo]
theorem renTo_get {f : List UInt8 → List UInt8} {k : Nat} {d : List Tok} {t : Tok} (h : d[k]? = some t) : (renTo f k d)[k]? = some t := by
  have hk := (List.getElem?_eq_some_iff.1 h).1
  unfold renTo
  rw [List.getElem?_append_right (by rw [List.length_map, List.length_take]; omega), List.length_map, List.length_take, Nat.min_eq_left (by omega), Nat.sub_self, List.getElem?_drop, Nat.add_zero]
  exact h
theorem renTo_set {f : List UInt8 → List UInt8} {k : Nat} {d : List Tok} {t : Tok} (h : d[k]? = some t) : (renTo f k d).set k (renT f t) = renTo f (k + 1) d := by
  have hk := (List.getElem?_eq_some_iff.1 h).1
  unfold renTo
  rw [List.set_append_right _ _ (by rw [List.length_map, List.length_take]; omega), List.length_map, List.length_take, Nat.min_eq_left (by omega), Nat.sub_self, List.drop_eq_getElem_cons hk, List.set_cons_zero, List.take_add_one, h, List.map_append, List.append_assoc]
  rfl
theorem renTo_skip {f : List UInt8 → List UInt8} {k : Nat} {d : List Tok} {t : Tok} (h : d[k]? = some t) (hs : renT f t = t) : renTo f (k + 1) d = renTo f k d := by
  rw [← renTo_set h, hs]
  apply List.ext_getElem?
  intro j
  by_cases hj : j = k
  · subst hj
    rw [List.getElem?_set_self (by rw [renTo_len]; exact (List.getElem?_eq_some_iff.1 h).1), renTo_get h]
  · rw [List.getElem?_set_ne (by omega)]
theorem renT_no {f : List UInt8 → List UInt8} {t : Tok} (h : isLB t.raw = false) : renT f t = t := by
  unfold renT; rw [ren_no h]
theorem renT_yes {f : List UInt8 → List UInt8} {t : Tok} (h : isLB t.raw = true) : (renT f t).cells.toList = t.cells.toList.set 1 (.string (str (f t.raw.text))) := by
  unfold renT renR; rw [h]; simp [Tok.cells, Raw.cells, colonB]
theorem map_raw_ren (f : List UInt8 → List UInt8) (d : List Tok) : (d.map (renT f)).map (·.raw) = renG f f (d.map (·.raw)) := by
  rw [renG_same, List.map_map, List.map_map]
  apply List.map_congr_left; intro t _; rfl
/-- A token whose text begins with an L. -/
theorem isLB_str {t : Tok} (hs : 0 < (str t.raw.text).size) : isLB t.raw = (decide (t.raw.kind = 1) && decide ((((str t.raw.text)[0]'hs).toNat : Int) = 76)) := by
  have hc := data_cons hs
  rw [data_str] at hc
  have e : ∀ c : UInt8, decide ((c.toNat : Int) = 76) = decide (c = 76) := by
    intro c
    rw [decide_eq_decide]
    constructor
    · intro h
      have h2 : c.toNat = (76 : UInt8).toNat := by show c.toNat = 76; omega
      exact UInt8.toNat_inj.1 h2
    · intro h; subst h; rfl
  unfold isLB
  rw [e]
  congr 1
  have h2 : t.raw.text.head? = some ((str t.raw.text)[0]'hs) := (congrArg List.head? hc).trans rfl
  rw [h2]
  simp
end Go.Proofs.YtemigcdieghkfabDoor
