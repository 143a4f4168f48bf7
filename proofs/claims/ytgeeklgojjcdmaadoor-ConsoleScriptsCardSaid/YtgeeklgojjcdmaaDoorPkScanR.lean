/- The reference's Scan. -/
import Derived.Test.YtgeeklgojjcdmaaDoorPkMarkG
import Derived.Test.YtgeeklgojjcdmaaDoorPkNumR
set_option linter.unusedVariables false
set_option linter.unusedSimpArgs false
set_option linter.unusedSectionVars false
namespace Go.Proofs.YtgeeklgojjcdmaaDoor
open Go.RowKit

/-- The position behind some bytes. -/
def adv : List UInt8 → Int × Int → Int × Int
  | [], p => p
  | c :: l, p => adv l (if c.toNat = 10 then (p.1 + 1, 1) else (p.1, p.2 + 1))
theorem adv_append (a b : List UInt8) (p : Int × Int) : adv (a ++ b) p = adv b (adv a p) := by
  induction a generalizing p with
  | nil => rfl
  | cons c a ih => simp only [List.cons_append, adv, ih]
theorem adv_plain : ∀ (l : List UInt8) (p : Int × Int), (∀ c ∈ l, ¬ c.toNat = 10) → adv l p = (p.1, p.2 + l.length)
  | [], p, _ => by simp [adv]
  | c :: l, p, h => by
    rw [adv, if_neg (h c (by simp)), adv_plain l _ (fun c hc => h c (by simp [hc]))]
    simp only [List.length_cons, Prod.mk.injEq, true_and]
    omega

/-- What the loop holds of memory: the results' block, the position's block, the tokens. -/
structure RS (w : World) (d : List Tok) (v : Value) (line col : Int) (wr : World) : Prop where
  res : wr.heap[w.heap.size]? = some (.cells #[.int .i64 0, .int .i64 0] 25)
  pos : wr.heap[w.heap.size + 1]? = some (.cells #[.int .i64 line, .int .i64 col] 25)
  own : wr.ownsRow (w.heap.size + 2) 52 5 v d.length (flat d)
  bel : Below w.heap.size w wr

section
variable {w wr : World} {d : List Tok} {v : Value} {line col : Int}
theorem RS.size (h : RS w d v line col wr) : w.heap.size + 2 ≤ wr.heap.size := (Array.getElem?_eq_some_iff.1 h.pos).1
theorem RS.cells (h : RS w d v line col wr) : wr.cell? ⟨w.heap.size + 1, 0, none⟩ = some (.int .i64 line) ∧ wr.cell? ⟨w.heap.size + 1, 1, none⟩ = some (.int .i64 col) ∧
    wr.frozen? ⟨w.heap.size + 1, 0, none⟩ = false ∧ wr.frozen? ⟨w.heap.size + 1, 1, none⟩ = false :=
  ⟨by simp [World.cell?, h.pos], by simp [World.cell?, h.pos], by simp [World.frozen?, h.pos], by simp [World.frozen?, h.pos]⟩
theorem RS.cellsR (h : RS w d v line col wr) : wr.cell? ⟨w.heap.size, 0, none⟩ = some (.int .i64 0) ∧ wr.cell? ⟨w.heap.size, 1, none⟩ = some (.int .i64 0) ∧
    wr.frozen? ⟨w.heap.size, 0, none⟩ = false ∧ wr.frozen? ⟨w.heap.size, 1, none⟩ = false :=
  ⟨by simp [World.cell?, h.res], by simp [World.cell?, h.res], by simp [World.frozen?, h.res], by simp [World.frozen?, h.res]⟩
theorem RS.below {w1 : World} (h : RS w d v line col wr) (hb : Below wr.heap.size wr w1) : RS w d v line col w1 := by
  have hz := h.size
  refine ⟨(hb.block _ (by omega)).trans h.res, (hb.block _ (by omega)).trans h.pos, ?_, h.bel.trans (hb.mono (by omega))⟩
  exact h.own.kept (row := none) ⟨hb.os, hb.tape, hb.output, hb.size, fun k hk _ => hb.block k hk⟩ (by cases hv : v.ownBlock <;> simp)
theorem RS.alloc (h : RS w d v line col wr) (o : Obj) : RS w d v line col (wr.alloc o) := h.below ((Below.refl _ _).alloc (Nat.le_refl _) o)
theorem RS.drewN (h : RS w d v line col wr) (n : Nat) : RS w d v line col (wr.drewN n) := h.below (below_drewN (Below.refl _ _) n)
theorem RS.drew (h : RS w d v line col wr) : RS w d v line col wr.drew := h.below (Below.refl _ _).drew
theorem heap_setCell_at (w : World) (b j : Nat) (u : Value) (c : Array Value) (e : TypeId) (h : w.heap[b]? = some (.cells c e)) : (w.setCell ⟨b, j, none⟩ u).heap[b]? = some (.cells (c.setIfInBounds j u) e) := by
  simp [World.setCell, Array.getElem?_modify, h]
theorem RS.setCol (h : RS w d v line col wr) (c : Int) : RS w d v line c (wr.setCell ⟨w.heap.size + 1, 1, none⟩ (.int .i64 c)) := by
  refine ⟨?_, ?_, ownsRow_setCell_below h.own (Nat.lt_succ_self _) _, h.bel.setCell (Nat.le_succ _) _⟩
  · rw [Below.heap_setCell _ _ _ _ (Nat.ne_of_lt (Nat.lt_succ_self _))]; exact h.res
  · rw [heap_setCell_at _ _ _ _ _ _ h.pos]; rfl
theorem RS.setLine (h : RS w d v line col wr) (c : Int) : RS w d v c col (wr.setCell ⟨w.heap.size + 1, 0, none⟩ (.int .i64 c)) := by
  refine ⟨?_, ?_, ownsRow_setCell_below h.own (Nat.lt_succ_self _) _, h.bel.setCell (Nat.le_succ _) _⟩
  · rw [Below.heap_setCell _ _ _ _ (Nat.ne_of_lt (Nat.lt_succ_self _))]; exact h.res
  · rw [heap_setCell_at _ _ _ _ _ _ h.pos]; rfl
theorem RS.grown {w1 : World} {t : Tok} {v' : Value} (h : RS w d v line col wr) (ho : w1.ownsRow (w.heap.size + 2) 52 5 v' (d.length + 1) (flat d ++ t.cells.toList)) (hg : wr.grownBy w1 v.ownBlock) : RS w (d ++ [t]) v' line col w1 := by
  have hz := h.size
  have hb : ∀ k, k < w.heap.size + 2 → w1.heap[k]? = wr.heap[k]? := fun k hk => hg.block k (by omega) (fun e => by have := (h.own.lt k e.symm).1; omega)
  refine ⟨(hb _ (by omega)).trans h.res, (hb _ (by omega)).trans h.pos, ?_, h.bel.grown hg (by omega) (fun k hk => by have := (h.own.lt k hk).1; omega)⟩
  rw [flat_snoc, List.length_append]; exact ho
end

theorem end_at (s : ByteArray) (k k2 : Nat) (w : World) (hs : Hid (s.size ≤ maxLen)) (hp : k < s.size) (h : Hid (k2 = k + endLen (s.data.toList.drop k))) :
    Calls Tryd.prog 58 #[.string s, .int .i64 k] w fun e w' => e = .returned (.int .i64 k2) ∧ Below w.heap.size w w' := by
  rw [h.out]; exact end_any s k w hs.out hp

theorem mid_one {s : ByteArray} {k : Nat} (h : k < s.size) : (s.data.toList.take (k + 1)).drop k = [s[k]] := by
  rw [List.drop_take, show k + 1 - k = 1 from by omega, data_drop h]; rfl
theorem mid_plain {s : ByteArray} {k n : Nat} {line col : Int} (h : k + n ≤ s.size) (hc : ∀ c ∈ (s.data.toList.drop k).take n, ¬ c.toNat = 10) :
    adv ((s.data.toList.take (k + n)).drop k) (line, col) = (line, col + n) := by
  have hn : k + n - k = n := by omega
  rw [List.drop_take, hn, adv_plain _ _ hc, List.length_take, List.length_drop, data_len]
  simp only [Prod.mk.injEq, true_and]
  omega
theorem mem_takeWhile {p : UInt8 → Bool} : ∀ {l : List UInt8} {x : UInt8}, x ∈ l.takeWhile p → p x = true
  | [], _, h => by simp at h
  | c :: l, x, h => by
    rw [List.takeWhile_cons] at h
    split at h
    · rcases List.mem_cons.1 h with rfl | h
      · assumption
      · exact mem_takeWhile h
    · simp at h
theorem take_takeWhile {p : UInt8 → Bool} : ∀ (l : List UInt8), l.take (l.takeWhile p).length = l.takeWhile p
  | [] => rfl
  | c :: l => by
    rw [List.takeWhile_cons]
    split
    · simp [take_takeWhile l]
    · rfl
theorem cmt_plain (l : List UInt8) : ∀ c ∈ l.take (cmtLen l), ¬ c.toNat = 10 := by
  intro c hc
  unfold cmtLen at hc
  rw [take_takeWhile] at hc
  have := mem_takeWhile hc
  simp [notNl] at this
  omega
section
variable {l : List UInt8} {c : UInt8} {r : List UInt8}
theorem endLen_zero (hl : l = c :: r) (h : endLen l = 0) : lexOne l = (Raw.bad, 0, 50) := by
  subst hl
  rcases Bool.eq_false_or_eq_true (alnumB c.toNat) with ha | ha
  · rw [endLen_run ha] at h; have := runLen_pos (c := c) (r := r) ha; omega
  · have h1 : letterB c.toNat = false ∧ digitB c.toNat = false := by simpa [alnumB] using ha
    by_cases h3 : c.toNat = 34
    · by_cases h4 : (r.drop (strLen r)).head? = some 34
      · rw [endLen_str ha h3 h4] at h; omega
      · exact lexOne_strbad h1.1 h1.2 h3 h4
    · rw [endLen_punct ha h3] at h; exact lexOne_bad h1.1 h1.2 h3 h
theorem lex_letter (hl : l = c :: r) (h : letterB c.toNat = true) : lexOne l = (⟨1, l.take (endLen l), 0⟩, endLen l, 0) := by
  subst hl; rw [lexOne_letter h, endLen_run (by simp [alnumB, h])]
theorem lex_num (hl : l = c :: r) (h0 : letterB c.toNat = false) (h : digitB c.toNat = true) (h1 : (numeral (l.take (endLen l))).2 = 0) : lexOne l = (⟨2, [], (numeral (l.take (endLen l))).1⟩, endLen l, 0) := by
  subst hl; rw [endLen_run (by simp [alnumB, h])] at h1 ⊢; exact lexOne_num h0 h h1
theorem lex_numbad (hl : l = c :: r) (h0 : letterB c.toNat = false) (h : digitB c.toNat = true) (h1 : ¬ (numeral (l.take (endLen l))).2 = 0) : lexOne l = (Raw.bad, 0, (numeral (l.take (endLen l))).2) := by
  subst hl; rw [endLen_run (by simp [alnumB, h])] at h1 ⊢; exact lexOne_numbad h0 h h1
theorem lex_str (hl : l = c :: r) (h0 : letterB c.toNat = false) (h : digitB c.toNat = false) (h3 : c.toNat = 34) (hp : 0 < endLen l) : lexOne l = (⟨3, r.take (endLen l - 2), 0⟩, endLen l, 0) ∧ 2 ≤ endLen l := by
  subst hl
  have ha : alnumB c.toNat = false := by simp [alnumB, h0, h]
  by_cases h4 : (r.drop (strLen r)).head? = some 34
  · rw [endLen_str ha h3 h4, lexOne_str h0 h h3 h4]; simp
  · rw [endLen_strbad ha h3 h4] at hp; omega
theorem lex_punct (hl : l = c :: r) (h0 : letterB c.toNat = false) (h : digitB c.toNat = false) (h3 : ¬ c.toNat = 34) (hp : 0 < endLen l) : lexOne l = (⟨4, l.take (endLen l), 0⟩, endLen l, 0) := by
  subst hl
  have ha : alnumB c.toNat = false := by simp [alnumB, h0, h]
  rw [endLen_punct ha h3] at hp ⊢; exact lexOne_punct h0 h h3 (by omega)
theorem run_plain (l : List UInt8) : ∀ c ∈ l.take (runLen l), ¬ c.toNat = 10 := by
  intro c hc h
  unfold runLen at hc
  rw [take_takeWhile] at hc
  have := mem_takeWhile hc
  rw [h] at this
  revert this; decide
theorem str_plain (l : List UInt8) : ∀ c ∈ l.take (strLen l), ¬ c.toNat = 10 := by
  intro c hc h
  unfold strLen at hc
  rw [take_takeWhile] at hc
  have := mem_takeWhile hc
  rw [h] at this
  revert this; decide
theorem marks_plain : ∀ m ∈ marksL, ∀ c ∈ m, ¬ c.toNat = 10 := by decide
theorem punct_plain (l : List UInt8) : ∀ c ∈ l.take (punctLen l), ¬ c.toNat = 10 := by
  rw [← mark_eq]
  unfold markOf
  cases h : marksL.find? (fun m => m.isPrefixOf l) with
  | none => intro c hc; simp at hc
  | some m => exact marks_plain m (List.mem_of_find?_eq_some h)
theorem end_plain (l : List UInt8) : ∀ c ∈ l.take (endLen l), ¬ c.toNat = 10 := by
  cases l with
  | nil => intro c hc; simp at hc
  | cons a r =>
    rcases Bool.eq_false_or_eq_true (alnumB a.toNat) with ha | ha
    · rw [endLen_run ha]; exact run_plain _
    · by_cases h3 : a.toNat = 34
      · by_cases h4 : (r.drop (strLen r)).head? = some 34
        · rw [endLen_str ha h3 h4]
          intro c hc
          have e : (a :: r).take (strLen r + 2) = a :: (r.take (strLen r) ++ [34]) := by
            rw [List.take_succ_cons, List.take_add_one]
            rw [List.head?_drop] at h4
            rw [h4]; rfl
          rw [e] at hc
          simp only [List.mem_cons, List.mem_append, List.not_mem_nil, or_false] at hc
          rcases hc with rfl | hc | rfl
          · omega
          · exact str_plain r c hc
          · decide
        · rw [endLen_strbad ha h3 h4]; intro c hc; simp at hc
      · rw [endLen_punct ha h3]; exact punct_plain _
theorem end_le (l : List UInt8) : endLen l ≤ l.length := by
  cases l with
  | nil => exact Nat.le_refl _
  | cons a r =>
    rcases Bool.eq_false_or_eq_true (alnumB a.toNat) with ha | ha
    · rw [endLen_run ha]; exact runLen_le _
    · by_cases h3 : a.toNat = 34
      · by_cases h4 : (r.drop (strLen r)).head? = some 34
        · rw [endLen_str ha h3 h4]
          rw [List.head?_drop] at h4
          have := (List.getElem?_eq_some_iff.1 h4).1
          rw [List.length_cons]; omega
        · rw [endLen_strbad ha h3 h4]; omega
      · rw [endLen_punct ha h3]; exact (punctLen_le _).1
end
theorem news_last_drew (w : World) (c : Array Value) (e : TypeId) (m : Nat) (hm : m = w.heap.size) (j : Nat) (u : Value) (h : c.toList[j]? = some u) :
    (w.alloc (.cells c e)).drew.cell? ((⟨m, 0, none⟩ : Addr).add j) = some u := news_last w c e m hm j u h
def RelR (s : ByteArray) (w : World) (v off : Value) (wr : World) : Prop :=
  ∃ (k : Nat) (line col : Int) (d : List Tok), k ≤ s.size ∧ 1 ≤ line ∧ line ≤ k + 1 ∧ 1 ≤ col ∧ col ≤ k + 1 ∧ d.length ≤ k ∧ off = .int .i64 k ∧ RS w d v line col wr ∧
    scan s.data.toList 1 1 = Res.pre d (scan (s.data.toList.drop k) line col)

/-- What the middle of a round leaves: the token's end, the tokens. -/
def MidR (s : ByteArray) (w : World) (k : Nat) (line col : Int) (v e : Value) (wr : World) : Prop :=
  ∃ (k2 : Nat) (d : List Tok), k < k2 ∧ k2 ≤ s.size ∧ d.length ≤ k2 ∧ e = .int .i64 k2 ∧ RS w d v line col wr ∧
    scan s.data.toList 1 1 = Res.pre d (scan (s.data.toList.drop k2) (adv ((s.data.toList.take k2).drop k) (line, col)).1 (adv ((s.data.toList.take k2).drop k) (line, col)).2)

set_option maxRecDepth 100000 in
set_option maxHeartbeats 4000000 in
theorem ScanR_any (s : ByteArray) (w : World) (hs : s.size ≤ maxLen) :
    Calls Tryd.prog 44 #[.string s] w (ScanPost s.data.toList w) := by
  have HS0 := Lib.hid hs
  unfold maxLen at hs
  by_cases hbig : 65536 < s.size
  · have hr := scanRes_long (l := s.data.toList) hbig
    have HR := Lib.hid hr
    clear hr
    go_enter Tryd.func44, Tryd.ntmps44
    go_wp2
    refine bodyPost_ret (v := .tuple #[.slice none 0 0, .agg #[.int .i64 0, .int .i64 0], .int .i64 15]) (by simp [results, Tryd.results44, go_sem]) rfl ⟨.slice none 0 0, by rw [HR.out], ?_, ?_⟩
    · rw [HR.out]; exact World.ownsRow_nil _ _ _ _
    · exact (Below.refl _ _).alloc (Nat.le_refl _) _
  · obtain ⟨i0, hi, hzi0, hzi1, hzi2⟩ := info_parts info_tok
    have HBIG := Lib.hid hbig
    have hsmall : s.size ≤ 65536 := by omega
    clear hs
    go_enter Tryd.func44, Tryd.ntmps44
    go_wp2_with fail
    go_loopw [5, 7] (fun v off wr => RelR s w v off wr) (fun _ off _ => s.size - (intOf off).toNat)
    case atStart => exact ⟨0, 1, 1, [], Nat.zero_le _, by omega, by omega, by omega, by omega, Nat.le_refl _, rfl, ⟨by rw [Below.heap_alloc _ _ _ (by simp)]; exact heap_alloc_new w _, by have := heap_alloc_new (w.alloc (.cells #[.int .i64 0, .int .i64 0] 25)) (.cells #[.int .i64 1, .int .i64 1] 25); simpa using this, World.ownsRow_nil _ _ _ _, ((Below.refl _ _).alloc (Nat.le_refl _) _).alloc (by simp) _⟩, rfl⟩
    case round =>
      obtain ⟨k, line, col, d, hk, hl1, hl2, hc1, hc2, hdk, rfl, hrs, hscan⟩ := hrel
      have HRS := Lib.hid hrs
      have HSC := Lib.hid hscan
      have hz := hrs.size
      clear hrs hscan
      by_cases hlt : k < s.size
      · go_upto_if 28 with fail
        go_cut [5, 9, 28] (fun s5 s9 _ wx => MidR s w k line col s5 s9 wx)
        case first =>
          by_cases c35 : s[k].toNat = 35
          · have b35 : ((s[k].toNat : Int) == 35) = true := beqc (by rw [c35]; rfl)
            have e := HSC.out
            rw [scan_cmt hlt c35] at e
            have hcl : 1 ≤ cmtLen (s.data.toList.drop k) ∧ k + cmtLen (s.data.toList.drop k) ≤ s.size := by
              have h1 := takeWhile_le (fun c : UInt8 => notNl c.toNat) (s.data.toList.drop k)
              rw [List.length_drop, data_len] at h1
              refine ⟨?_, by unfold cmtLen; omega⟩
              unfold cmtLen
              rw [data_drop hlt, List.takeWhile_cons_of_pos (by simp [notNl, c35])]
              simp
            have hm := mid_plain (line := line) (col := col) hcl.2 (cmt_plain _)
            have e2 : scan s.data.toList 1 1 = Res.pre d (scan (s.data.toList.drop (k + cmtLen (s.data.toList.drop k))) (adv ((s.data.toList.take (k + cmtLen (s.data.toList.drop k))).drop k) (line, col)).1 (adv ((s.data.toList.take (k + cmtLen (s.data.toList.drop k))).drop k) (line, col)).2) := by
              rw [hm]; exact e
            have E := Lib.hid e2
            have C35 := Lib.hid c35
            clear hm e2 c35
            rw [b35]
            clear e b35
            go_wp2_with fail
            go_loop [9] (fun c => ∃ j : Nat, k + 1 ≤ j ∧ j ≤ s.size ∧ AllP notNl ((s.data.toList.take j).drop k) ∧ c = .int .i64 j) (fun c => s.size - (intOf c).toNat)
            case atStart => exact ⟨k + 1, Nat.le_refl _, by omega, by rw [mid_one hlt]; intro x hx; rw [List.mem_singleton.1 hx]; simp [notNl, C35.out], by go_num⟩
            case round =>
              obtain ⟨j, hkj, hj, ha, rfl⟩ := hrel
              have HA := Lib.hid ha
              clear ha
              by_cases hjl : j < s.size
              · by_cases h6 : s[j].toNat = 10
                · have h6' : ((s[j].toNat : Int) != 10) = false := by rw [h6]; rfl
                  have h7 := seg_len (p := notNl) (by omega) hj HA.out (fun _ => by simp [notNl, h6])
                  have H7 := Lib.hid h7
                  clear h6 h7
                  go_wp2
                  go_meet
                  case rel => exact ⟨k + cmtLen (s.data.toList.drop k), d, by omega, by omega, by omega, vint (by unfold cmtLen; rw [H7.out]; omega), HRS.out, E.out⟩
                · have h6' : ((s[j].toNat : Int) != 10) = true := by rw [bne_iff_ne]; omega
                  go_wp2
                  go_round
                  case rel => exact ⟨j + 1, by omega, by omega, HA.out.snocK (by omega) hjl (by simp [notNl]; omega), by go_num⟩
                  case measure => simp [intOf]; omega
              · have h7 := seg_len (p := notNl) (by omega) hj HA.out (fun h => absurd h hjl)
                have H7 := Lib.hid h7
                clear h7
                go_wp2
                go_meet
                case rel => exact ⟨k + cmtLen (s.data.toList.drop k), d, by omega, by omega, by omega, vint (by unfold cmtLen; rw [H7.out]; omega), HRS.out, E.out⟩
          · have b35 : ((s[k].toNat : Int) == 35) = false := beqc (by symm; rw [decide_eq_false_iff_not]; omega)
            by_cases cws : s[k].toNat = 32 ∨ s[k].toNat = 9 ∨ s[k].toNat = 10 ∨ s[k].toNat = 13
            · have hmid : scan s.data.toList 1 1 = Res.pre d (scan (s.data.toList.drop (k + 1)) (adv ((s.data.toList.take (k + 1)).drop k) (line, col)).1 (adv ((s.data.toList.take (k + 1)).drop k) (line, col)).2) := by
                rw [HSC.out, mid_one hlt]
                by_cases c10 : s[k].toNat = 10
                · rw [scan_nl hlt c10]; simp only [adv, c10, if_true]
                · rw [scan_ws hlt (by omega)]; simp only [adv, c10, if_false]
              have HMID := Lib.hid hmid
              rw [b35]
              clear hmid b35
              rcases cws with h | h | h | h
              · have hcn : s[k].toNat = 32 := by assumption
                have b32 : ((s[k].toNat : Int) != 32) = false := by rw [show (s[k].toNat : Int) = 32 from by omega]; rfl
                clear hcn
                go_wp2
                go_meet
                case rel => exact ⟨k + 1, d, by omega, by omega, by omega, by go_num, HRS.out, HMID.out⟩
              · have hcn : s[k].toNat = 9 := by assumption
                have b32 : ((s[k].toNat : Int) != 32) = true := by rw [bne_iff_ne]; omega
                have b9 : ((s[k].toNat : Int) != 9) = false := by rw [show (s[k].toNat : Int) = 9 from by omega]; rfl
                clear hcn
                go_wp2
                go_meet
                case rel => exact ⟨k + 1, d, by omega, by omega, by omega, by go_num, HRS.out, HMID.out⟩
              · have hcn : s[k].toNat = 10 := by assumption
                have b32 : ((s[k].toNat : Int) != 32) = true := by rw [bne_iff_ne]; omega
                have b9 : ((s[k].toNat : Int) != 9) = true := by rw [bne_iff_ne]; omega
                have b10 : ((s[k].toNat : Int) != 10) = false := by rw [show (s[k].toNat : Int) = 10 from by omega]; rfl
                clear hcn
                go_wp2
                go_meet
                case rel => exact ⟨k + 1, d, by omega, by omega, by omega, by go_num, HRS.out, HMID.out⟩
              · have hcn : s[k].toNat = 13 := by assumption
                have b32 : ((s[k].toNat : Int) != 32) = true := by rw [bne_iff_ne]; omega
                have b9 : ((s[k].toNat : Int) != 9) = true := by rw [bne_iff_ne]; omega
                have b10 : ((s[k].toNat : Int) != 10) = true := by rw [bne_iff_ne]; omega
                have b13 : ((s[k].toNat : Int) != 13) = false := by rw [show (s[k].toNat : Int) = 13 from by omega]; rfl
                clear hcn
                go_wp2
                go_meet
                case rel => exact ⟨k + 1, d, by omega, by omega, by omega, by go_num, HRS.out, HMID.out⟩
            · have b32 : ((s[k].toNat : Int) != 32) = true := by rw [bne_iff_ne]; omega
              have b9 : ((s[k].toNat : Int) != 9) = true := by rw [bne_iff_ne]; omega
              have b10 : ((s[k].toNat : Int) != 10) = true := by rw [bne_iff_ne]; omega
              have b13 : ((s[k].toNat : Int) != 13) = true := by rw [bne_iff_ne]; omega
              have hd := data_drop hlt
              have hel := end_le (s.data.toList.drop k)
              rw [List.length_drop, data_len] at hel
              obtain ⟨k2, hk2⟩ : ∃ k2, k2 = k + endLen (s.data.toList.drop k) := ⟨_, rfl⟩
              have hk2s : k2 ≤ s.size := by omega
              have HK2 := Lib.hid hk2
              rw [b35]
              by_cases he0 : endLen (s.data.toList.drop k) = 0
              · have hlex := endLen_zero hd he0
                have e := HSC.out
                rw [scan_err hlt (by omega) (by omega) (by omega) hlex (by decide)] at e
                have hr := scanRes_err HBIG.out e
                have HR := Lib.hid hr
                have bk : ((k2 : Int) == (k : Int)) = true := by rw [beq_iff_eq]; omega
                clear e hr hlex c35 b35 cws hd hel hk2 he0
                go_wp2_with fail
                refine (end_at s k k2 _ HS0 hlt HK2).mono ?_
                rintro e w1 ⟨rfl, hb1⟩
                have hrs1 := HRS.out.below hb1
                have HRS1 := Lib.hid hrs1
                obtain ⟨hx0, hx1, hf0, hf1⟩ := hrs1.cells
                obtain ⟨hy0, hy1, hg0, hg1⟩ := hrs1.cellsR
                have hz1 := hrs1.size
                clear hrs1 hb1
                go_wp2_with fail
                go_region
                all_goals
                  go_wp2
                  refine bodyPost_ret (v := .tuple #[.slice none 0 0, .agg #[.int .i64 line, .int .i64 col], .int .i64 50]) ?_ rfl ⟨.slice none 0 0, by rw [HR.out], ?_, ?_⟩
                  · simp [results, Tryd.results44, go_sem, hy0, hy1]
                  · rw [HR.out]; exact World.ownsRow_nil _ _ _ _
                  · exact ((HRS1.out.bel.setCell (Nat.le_refl _) _).setCell (Nat.le_refl _) _).drew
              · have hkk : k < k2 := by omega
                have bk : ((k2 : Int) == (k : Int)) = false := by rw [beq_eq_false_iff_ne]; omega
                have hmp := mid_plain (line := line) (col := col) (s := s) (k := k) (n := endLen (s.data.toList.drop k)) (by omega) (end_plain _)
                rw [← hk2] at hmp
                rcases Bool.eq_false_or_eq_true (letterB s[k].toNat) with h1 | h1
                · have hlex := lex_letter hd h1
                  have e := HSC.out
                  rw [scan_tok hlt (by omega) (by omega) (by omega) hlex rfl (by omega), pre_pre] at e
                  have e2 : scan s.data.toList 1 1 = Res.pre (d ++ [⟨⟨1, (s.data.toList.drop k).take (endLen (s.data.toList.drop k)), 0⟩, line, col⟩]) (scan (s.data.toList.drop k2) (adv ((s.data.toList.take k2).drop k) (line, col)).1 (adv ((s.data.toList.take k2).drop k) (line, col)).2) := by
                    rw [hmp, hk2]; exact e
                  have htok : Tok.cells ⟨⟨1, (s.data.toList.drop k).take (endLen (s.data.toList.drop k)), 0⟩, line, col⟩ = #[.int .i64 1, .string (s.extract k k2), .int .u64 0, .int .i64 line, .int .i64 col] := by rw [extract_str2, show k2 - k = endLen (s.data.toList.drop k) from by omega]; rfl
                  have HTOK := Lib.hid htok
                  have E := Lib.hid e2
                  clear e e2 htok hlex hmp c35 b35 cws hd hel hk2 he0
                  go_wp2_with fail
                  refine (end_at s k k2 _ HS0 hlt HK2).mono ?_
                  rintro e w1 ⟨rfl, hb1⟩
                  have hrs1 := HRS.out.below hb1
                  have HRS1 := Lib.hid hrs1
                  obtain ⟨hx0, hx1, hf0, hf1⟩ := hrs1.cells
                  have hz1 := hrs1.size
                  have hz2 : w.heap.size + 1 < w1.heap.size := by omega
                  have hz3 : w.heap.size < w1.heap.size := by omega
                  have hkle : k ≤ k2 := by omega
                  clear hrs1 hb1
                  go_wp2_with fail
                  go_region
                  all_goals
                    go_wp2_with (first | (go_at_call 59; refine (Letter_any _ _).mono ?_; rintro e w' ⟨rfl, rfl⟩) | (go_at_call 60; refine (Digit_any _ _).mono ?_; rintro e w' ⟨rfl, rfl⟩) | (at_builtin; refine wpList_append_own _ rfl _ _ 37 rfl (w.heap.size + 2) 52 i0 (.agg #[.int .i64 0, .string ⟨#[]⟩, .int .u64 0, .int .i64 0, .int .i64 0]) 5 48 Tryd.underlying37 hi hzi0 hzi1 hzi2 rfl (by decide) u5 d.length (flat d) rfl (RS.own (d := d) ((HRS1.out.alloc _).alloc _).drew) ⟨w1.heap.size + 1, 0, none⟩ 1 1 (#[.int .i64 1, .string (s.extract k k2), .int .u64 0, .int .i64 line, .int .i64 col] : Array Value).toList rfl rfl (news_last_drew _ _ _ _ (by simp)) (by intro u hu; simp at hu; rcases hu with rfl | rfl | rfl | rfl | rfl <;> rfl) (by unfold maxLen; omega) (by omega) (by simp; omega) ?_; intro v' w2 hown' hgrow _))
                    have HOWN' := Lib.hid hown'
                    have HGROW := Lib.hid hgrow
                    clear hown' hgrow
                    go_wp2
                    go_meet
                    case rel => exact ⟨k2, _, hkk, hk2s, by simp; omega, rfl, RS.grown (t := ⟨⟨1, (s.data.toList.drop k).take (endLen (s.data.toList.drop k)), 0⟩, line, col⟩) ((HRS1.out.alloc _).alloc _).drew (by rw [HTOK.out]; exact HOWN'.out) HGROW.out, E.out⟩
                · rcases Bool.eq_false_or_eq_true (digitB s[k].toNat) with h2 | h2
                  · have hne34 : ((s[k].toNat : Int) == 34) = false := by
                      rw [beq_eq_false_iff_ne]; intro h; rw [h] at h2; revert h2; decide
                    have hxl : (s.extract k k2).data.toList = (s.data.toList.drop k).take (endLen (s.data.toList.drop k)) := by rw [extract_str2, data_str, show k2 - k = endLen (s.data.toList.drop k) from by omega]
                    obtain ⟨nv, ne, hnum⟩ : ∃ nv ne, numeral ((s.data.toList.drop k).take (endLen (s.data.toList.drop k))) = (nv, ne) := ⟨_, _, rfl⟩
                    have hnc : ∀ wx, Calls Tryd.prog 61 #[.string (s.extract k k2)] wx fun e w' => e = .returned (.tuple #[.int .u64 nv, .int .i64 ne]) ∧ ∃ n, w' = wx.drewN n := by
                      intro wx
                      have h := numberR_any (s.extract k k2) wx (by have := HS0.out; simp; omega) (by simp; omega)
                      rw [hxl, hnum] at h
                      exact h
                    have HNUM := Lib.hid hnc
                    clear hnc hxl
                    by_cases hne : ne = 0
                    · have bne0 : (ne != 0) = false := by rw [hne]; rfl
                      have hlex : lexOne (s.data.toList.drop k) = (⟨2, [], nv⟩, endLen (s.data.toList.drop k), 0) := by
                        have := lex_num hd h1 h2 (by rw [hnum]; exact hne)
                        rw [hnum] at this; exact this
                      have e := HSC.out
                      rw [scan_tok hlt (by omega) (by omega) (by omega) hlex rfl (by omega), pre_pre] at e
                      have e2 : scan s.data.toList 1 1 = Res.pre (d ++ [⟨⟨2, [], nv⟩, line, col⟩]) (scan (s.data.toList.drop k2) (adv ((s.data.toList.take k2).drop k) (line, col)).1 (adv ((s.data.toList.take k2).drop k) (line, col)).2) := by
                        rw [hmp, hk2]; exact e
                      have htok : Tok.cells ⟨⟨2, [], nv⟩, line, col⟩ = #[.int .i64 2, .string ⟨#[]⟩, .int .u64 nv, .int .i64 line, .int .i64 col] := by rfl
                      have HTOK := Lib.hid htok
                      have E := Lib.hid e2
                      clear e e2 htok hlex hnum hne hmp c35 b35 cws hd hel hk2 he0
                      go_wp2_with fail
                      refine (end_at s k k2 _ HS0 hlt HK2).mono ?_
                      rintro e w1 ⟨rfl, hb1⟩
                      have hrs1 := HRS.out.below hb1
                      have HRS1 := Lib.hid hrs1
                      obtain ⟨hx0, hx1, hf0, hf1⟩ := hrs1.cells
                      have hz1 := hrs1.size
                      have hz2 : w.heap.size + 1 < w1.heap.size := by omega
                      have hz3 : w.heap.size < w1.heap.size := by omega
                      have hkle : k ≤ k2 := by omega
                      clear hrs1 hb1
                      go_wp2_with fail
                      go_region
                      all_goals
                        go_wp2_with (first | (go_at_call 59; refine (Letter_any _ _).mono ?_; rintro e w' ⟨rfl, rfl⟩) | (go_at_call 60; refine (Digit_any _ _).mono ?_; rintro e w' ⟨rfl, rfl⟩) | (go_at_call 61; refine (HNUM.out _).mono ?_; rintro e w' ⟨rfl, nq, rfl⟩) | (at_builtin; refine wpList_append_own _ rfl _ _ 37 rfl (w.heap.size + 2) 52 i0 (.agg #[.int .i64 0, .string ⟨#[]⟩, .int .u64 0, .int .i64 0, .int .i64 0]) 5 48 Tryd.underlying37 hi hzi0 hzi1 hzi2 rfl (by decide) u5 d.length (flat d) rfl (RS.own (HRS1.out.below (Below.alloc (Below.setCell (Below.setCell (Below.setCell (below_drewN (Below.alloc (Below.refl _ _) (Nat.le_refl _) _) _) (Nat.le_refl _) _) (Nat.le_refl _) _) (Nat.le_refl _) _) (by simp) _))) ⟨w1.heap.size + 1, 0, none⟩ 1 1 (#[.int .i64 2, .string ⟨#[]⟩, .int .u64 nv, .int .i64 line, .int .i64 col] : Array Value).toList rfl rfl (news_last _ _ _ _ (by simp)) (by intro u hu; simp at hu; rcases hu with rfl | rfl | rfl | rfl | rfl <;> rfl) (by unfold maxLen; omega) (by omega) (by simp; omega) ?_; intro v' w2 hown' hgrow _))
                        have HOWN' := Lib.hid hown'
                        have HGROW := Lib.hid hgrow
                        clear hown' hgrow
                        go_wp2
                        go_meet
                        case rel => exact ⟨k2, _, hkk, hk2s, by simp; omega, rfl, RS.grown (t := ⟨⟨2, [], nv⟩, line, col⟩) (HRS1.out.below (Below.alloc (Below.setCell (Below.setCell (Below.setCell (below_drewN (Below.alloc (Below.refl _ _) (Nat.le_refl _) _) _) (Nat.le_refl _) _) (Nat.le_refl _) _) (Nat.le_refl _) _) (by simp) _)) (by rw [HTOK.out]; exact HOWN'.out) HGROW.out, E.out⟩
                    · have bne0 : (ne != 0) = true := by rw [bne_iff_ne]; exact hne
                      have hlex : lexOne (s.data.toList.drop k) = (Raw.bad, 0, ne) := by
                        have := lex_numbad hd h1 h2 (by rw [hnum]; exact hne)
                        rw [hnum] at this; exact this
                      have e := HSC.out
                      rw [scan_err hlt (by omega) (by omega) (by omega) hlex hne] at e
                      have hr := scanRes_err HBIG.out e
                      have HR := Lib.hid hr
                      clear e hr hlex c35 b35 cws hd hel hk2 he0 hnum hne hmp
                      go_wp2_with fail
                      refine (end_at s k k2 _ HS0 hlt HK2).mono ?_
                      rintro e w1 ⟨rfl, hb1⟩
                      have hrs1 := HRS.out.below hb1
                      have HRS1 := Lib.hid hrs1
                      obtain ⟨hx0, hx1, hf0, hf1⟩ := hrs1.cells
                      obtain ⟨hy0, hy1, hg0, hg1⟩ := hrs1.cellsR
                      have hz1 := hrs1.size
                      have hz2 : w.heap.size + 1 < w1.heap.size := by omega
                      have hz3 : w.heap.size < w1.heap.size := by omega
                      have hkle : k ≤ k2 := by omega
                      clear hrs1 hb1
                      go_wp2_with fail
                      go_region
                      all_goals
                        go_wp2_with (first | (go_at_call 59; refine (Letter_any _ _).mono ?_; rintro e w' ⟨rfl, rfl⟩) | (go_at_call 60; refine (Digit_any _ _).mono ?_; rintro e w' ⟨rfl, rfl⟩) | (go_at_call 61; refine (HNUM.out _).mono ?_; rintro e w' ⟨rfl, nq, rfl⟩))
                        go_region
                        all_goals
                          go_wp2
                          refine bodyPost_ret (v := .tuple #[.slice none 0 0, .agg #[.int .i64 line, .int .i64 col], .int .i64 ne]) ?_ rfl ⟨.slice none 0 0, by rw [HR.out], ?_, ?_⟩
                          · simp [results, Tryd.results44, go_sem, hy0, hy1, hz3]
                          · rw [HR.out]; exact World.ownsRow_nil _ _ _ _
                          · have hbB := HRS1.out.bel
                            repeat (first | exact hbB | refine below_drewN ?_ _ | refine Below.drew ?_ | refine Below.setCell ?_ (by first | exact Nat.le_refl _ | exact Nat.le_of_lt hz3) _ | refine Below.alloc ?_ (by first | omega | (simp; omega)) _)
                  · by_cases h3 : s[k].toNat = 34
                    · have b34 : ((s[k].toNat : Int) == 34) = true := beqc (by rw [h3]; rfl)
                      obtain ⟨hlex, h2e⟩ := lex_str hd h1 h2 h3 (by omega)
                      have hk22 : k + 2 ≤ k2 := by omega
                      have e := HSC.out
                      rw [scan_tok hlt (by omega) (by omega) (by omega) hlex rfl (by omega), pre_pre] at e
                      have e2 : scan s.data.toList 1 1 = Res.pre (d ++ [⟨⟨3, (s.data.toList.drop (k + 1)).take (endLen (s.data.toList.drop k) - 2), 0⟩, line, col⟩]) (scan (s.data.toList.drop k2) (adv ((s.data.toList.take k2).drop k) (line, col)).1 (adv ((s.data.toList.take k2).drop k) (line, col)).2) := by
                        rw [hmp, hk2]; exact e
                      have htok : Tok.cells ⟨⟨3, (s.data.toList.drop (k + 1)).take (endLen (s.data.toList.drop k) - 2), 0⟩, line, col⟩ = #[.int .i64 3, .string (s.extract (k + 1) (k2 - 1)), .int .u64 0, .int .i64 line, .int .i64 col] := by rw [extract_str2, show k2 - 1 - (k + 1) = endLen (s.data.toList.drop k) - 2 from by omega]; rfl
                      have HTOK := Lib.hid htok
                      have E := Lib.hid e2
                      clear e e2 htok hlex hmp c35 b35 cws hd hel hk2 he0 h2e h3
                      go_wp2_with fail
                      refine (end_at s k k2 _ HS0 hlt HK2).mono ?_
                      rintro e w1 ⟨rfl, hb1⟩
                      have hrs1 := HRS.out.below hb1
                      have HRS1 := Lib.hid hrs1
                      obtain ⟨hx0, hx1, hf0, hf1⟩ := hrs1.cells
                      have hz1 := hrs1.size
                      have hz2 : w.heap.size + 1 < w1.heap.size := by omega
                      have hz3 : w.heap.size < w1.heap.size := by omega
                      have hkle : k ≤ k2 := by omega
                      clear hrs1 hb1
                      go_wp2_with fail
                      go_region
                      all_goals
                        go_wp2_with (first | (go_at_call 59; refine (Letter_any _ _).mono ?_; rintro e w' ⟨rfl, rfl⟩) | (go_at_call 60; refine (Digit_any _ _).mono ?_; rintro e w' ⟨rfl, rfl⟩) | (at_builtin; refine wpList_append_own _ rfl _ _ 37 rfl (w.heap.size + 2) 52 i0 (.agg #[.int .i64 0, .string ⟨#[]⟩, .int .u64 0, .int .i64 0, .int .i64 0]) 5 48 Tryd.underlying37 hi hzi0 hzi1 hzi2 rfl (by decide) u5 d.length (flat d) rfl (RS.own (d := d) ((HRS1.out.alloc _).alloc _).drew) ⟨w1.heap.size + 1, 0, none⟩ 1 1 (#[.int .i64 3, .string (s.extract (k + 1) (k2 - 1)), .int .u64 0, .int .i64 line, .int .i64 col] : Array Value).toList rfl rfl (news_last_drew _ _ _ _ (by simp)) (by intro u hu; simp at hu; rcases hu with rfl | rfl | rfl | rfl | rfl <;> rfl) (by unfold maxLen; omega) (by omega) (by simp; omega) ?_; intro v' w2 hown' hgrow _))
                        have HOWN' := Lib.hid hown'
                        have HGROW := Lib.hid hgrow
                        clear hown' hgrow
                        go_wp2
                        go_meet
                        case rel => exact ⟨k2, _, hkk, hk2s, by simp; omega, rfl, RS.grown (t := ⟨⟨3, (s.data.toList.drop (k + 1)).take (endLen (s.data.toList.drop k) - 2), 0⟩, line, col⟩) ((HRS1.out.alloc _).alloc _).drew (by rw [HTOK.out]; exact HOWN'.out) HGROW.out, E.out⟩
                    · have b34 : ((s[k].toNat : Int) == 34) = false := beqc (by symm; rw [decide_eq_false_iff_not]; omega)
                      have hlex := lex_punct hd h1 h2 h3 (by omega)
                      have e := HSC.out
                      rw [scan_tok hlt (by omega) (by omega) (by omega) hlex rfl (by omega), pre_pre] at e
                      have e2 : scan s.data.toList 1 1 = Res.pre (d ++ [⟨⟨4, (s.data.toList.drop k).take (endLen (s.data.toList.drop k)), 0⟩, line, col⟩]) (scan (s.data.toList.drop k2) (adv ((s.data.toList.take k2).drop k) (line, col)).1 (adv ((s.data.toList.take k2).drop k) (line, col)).2) := by
                        rw [hmp, hk2]; exact e
                      have htok : Tok.cells ⟨⟨4, (s.data.toList.drop k).take (endLen (s.data.toList.drop k)), 0⟩, line, col⟩ = #[.int .i64 4, .string (s.extract k k2), .int .u64 0, .int .i64 line, .int .i64 col] := by rw [extract_str2, show k2 - k = endLen (s.data.toList.drop k) from by omega]; rfl
                      have HTOK := Lib.hid htok
                      have E := Lib.hid e2
                      clear e e2 htok hlex hmp c35 b35 cws hd hel hk2 he0 h3
                      go_wp2_with fail
                      refine (end_at s k k2 _ HS0 hlt HK2).mono ?_
                      rintro e w1 ⟨rfl, hb1⟩
                      have hrs1 := HRS.out.below hb1
                      have HRS1 := Lib.hid hrs1
                      obtain ⟨hx0, hx1, hf0, hf1⟩ := hrs1.cells
                      have hz1 := hrs1.size
                      have hz2 : w.heap.size + 1 < w1.heap.size := by omega
                      have hz3 : w.heap.size < w1.heap.size := by omega
                      have hkle : k ≤ k2 := by omega
                      clear hrs1 hb1
                      go_wp2_with fail
                      go_region
                      all_goals
                        go_wp2_with (first | (go_at_call 59; refine (Letter_any _ _).mono ?_; rintro e w' ⟨rfl, rfl⟩) | (go_at_call 60; refine (Digit_any _ _).mono ?_; rintro e w' ⟨rfl, rfl⟩) | (at_builtin; refine wpList_append_own _ rfl _ _ 37 rfl (w.heap.size + 2) 52 i0 (.agg #[.int .i64 0, .string ⟨#[]⟩, .int .u64 0, .int .i64 0, .int .i64 0]) 5 48 Tryd.underlying37 hi hzi0 hzi1 hzi2 rfl (by decide) u5 d.length (flat d) rfl (RS.own (d := d) ((HRS1.out.alloc _).alloc _).drew) ⟨w1.heap.size + 1, 0, none⟩ 1 1 (#[.int .i64 4, .string (s.extract k k2), .int .u64 0, .int .i64 line, .int .i64 col] : Array Value).toList rfl rfl (news_last_drew _ _ _ _ (by simp)) (by intro u hu; simp at hu; rcases hu with rfl | rfl | rfl | rfl | rfl <;> rfl) (by unfold maxLen; omega) (by omega) (by simp; omega) ?_; intro v' w2 hown' hgrow _))
                        have HOWN' := Lib.hid hown'
                        have HGROW := Lib.hid hgrow
                        clear hown' hgrow
                        go_wp2
                        go_meet
                        case rel => exact ⟨k2, _, hkk, hk2s, by simp; omega, rfl, RS.grown (t := ⟨⟨4, (s.data.toList.drop k).take (endLen (s.data.toList.drop k)), 0⟩, line, col⟩) ((HRS1.out.alloc _).alloc _).drew (by rw [HTOK.out]; exact HOWN'.out) HGROW.out, E.out⟩
        case rest =>
          obtain ⟨k2, d2, hkk, hk2, hd2, rfl, hrs2, hsc2⟩ := hcut
          have HRS2 := Lib.hid hrs2
          have HSC2 := Lib.hid hsc2
          clear hrs2 hsc2 HRS HSC
          go_wp2_with fail
          go_loopw [7] (fun i wx => ∃ (j : Nat) (l' c' : Int), k ≤ j ∧ j ≤ k2 ∧ 1 ≤ l' ∧ l' ≤ j + 1 ∧ 1 ≤ c' ∧ c' ≤ j + 1 ∧ adv ((s.data.toList.take j).drop k) (line, col) = (l', c') ∧ i = .int .i64 j ∧ RS w d2 u5 l' c' wx) (fun i _ => k2 - (intOf i).toNat)
          case atStart => exact ⟨k, line, col, Nat.le_refl _, by omega, by omega, by omega, by omega, by omega, by rw [List.drop_of_length_le (by simp; omega)]; rfl, rfl, HRS2.out⟩
          case round =>
            obtain ⟨j, l', c', hkj, hj, hl3, hl4, hc3, hc4, hadv, rfl, hrs⟩ := hrel
            have HRS := Lib.hid hrs
            have HADV := Lib.hid hadv
            obtain ⟨hx0, hx1, hf0, hf1⟩ := hrs.cells
            clear hrs hadv
            by_cases hjl : j < k2
            · have hjs : j < s.size := by omega
              have hstep : adv ((s.data.toList.take (j + 1)).drop k) (line, col) = if s[j].toNat = 10 then (l' + 1, 1) else (l', c' + 1) := by
                rw [take_snoc s j hjs, List.drop_append_of_le_length (by rw [List.length_take, data_len]; omega), adv_append, HADV.out]; rfl
              have HST := Lib.hid hstep
              clear hstep
              by_cases h10 : s[j].toNat = 10
              · have b10 : ((s[j].toNat : Int) == 10) = true := beqc (by rw [h10]; rfl)
                have H10 := Lib.hid h10
                clear h10
                go_wp2
                go_roundw
                case rel => exact ⟨j + 1, l' + 1, 1, by omega, by omega, by omega, by omega, by omega, by omega, by rw [HST.out, if_pos H10.out], by go_num, (HRS.out.setCol _).setLine _ |>.setCol _⟩
                case measure => simp [intOf]; omega
              · have b10 : ((s[j].toNat : Int) == 10) = false := beqc (by symm; rw [decide_eq_false_iff_not]; omega)
                go_wp2
                go_roundw
                case rel => exact ⟨j + 1, l', c' + 1, by omega, by omega, by omega, by omega, by omega, by omega, by rw [HST.out, if_neg h10], by go_num, HRS.out.setCol _⟩
                case measure => simp [intOf]; omega
            · have hje : j = k2 := by omega
              have e := HSC2.out
              rw [← hje, HADV.out] at e
              have E := Lib.hid e
              clear e hje
              go_wp2
              go_roundw
              case rel => exact ⟨j, l', c', d2, by omega, hl3, hl4, hc3, hc4, by omega, rfl, HRS.out, E.out⟩
              case measure => simp [intOf]; omega
      · have e := HSC.out
        rw [List.drop_of_length_le (by rw [data_len]; omega), scan_nil, pre_end] at e
        have hr := scanRes_ok HBIG.out e
        have HR := Lib.hid hr
        clear e hr
        obtain ⟨hx0, hx1, hf0, hf1⟩ := HRS.out.cellsR
        go_wp2
        refine bodyPost_ret (v := .tuple #[u5, .agg #[.int .i64 0, .int .i64 0], .int .i64 0]) ?_ rfl ⟨u5, by rw [HR.out], ?_, ?_⟩
        · simp [results, Tryd.results44, go_sem, hx0, hx1]
        · rw [HR.out]
          exact ownsRow_base (ownsRow_setCell_below (ownsRow_setCell_below HRS.out.own (a := ⟨w.heap.size, 0, none⟩) (by show w.heap.size < _; omega) _) (a := ⟨w.heap.size, 1, none⟩) (by show w.heap.size < _; omega) _) (by omega)
        · exact (HRS.out.bel.setCell (Nat.le_refl _) _).setCell (Nat.le_refl _) _
end Go.Proofs.YtgeeklgojjcdmaaDoor
