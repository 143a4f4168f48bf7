/- Merged: AsmAll, AsmEnd, AsmTail, TokBd. -/
import Derived.Test.YtgeeklgojjcdmaaDoorPkParRG
import Derived.Test.YtgeeklgojjcdmaaDoorPkAsmP
import Derived.Test.YtgeeklgojjcdmaaDoorPkLocalG
import Derived.Lib.LastIndexByte
import Derived.Lib.Bytealg
import Derived.Test.YtgeeklgojjcdmaaDoorPkScanP
import Derived.Test.YtgeeklgojjcdmaaDoorPkLexP
set_option linter.unusedVariables false
set_option linter.unusedSimpArgs false
set_option linter.unusedSectionVars false
namespace Go.Proofs.YtgeeklgojjcdmaaDoor
section

end
section
theorem adv_end_k (s : ByteArray) : ∀ k, k ≤ s.size → adv (s.data.toList.take k) (1, 1) = (((s.data.toList.take k).count 10 : Int) + 1, (k : Int) - Lib.lastIdx s 10 k)
  | 0, _ => rfl
  | k + 1, h => by
    have ih := adv_end_k s k (by omega)
    have hk : k < s.size := by omega
    rw [adv_snoc hk ih]
    have hb : s.data[k]! = s[k] := by
      rw [getElem!_pos s.data k hk]; rfl
    have htk : s.data.toList.take (k + 1) = s.data.toList.take k ++ [s[k]] := take_snoc s k hk
    rw [htk, List.count_append, Lib.lastIdx, hb]
    by_cases hc : s[k].toNat = 10
    · have h10 : s[k] = 10 := by
        apply UInt8.toNat_inj.1; rw [hc]; rfl
      rw [if_pos hc, if_pos (by omega), h10]
      simp
      omega
    · have h10 : ¬ s[k] = 10 := fun q => hc (by rw [q]; rfl)
      rw [if_neg hc, if_neg (by omega)]
      have : ([s[k]] : List UInt8).count 10 = 0 := by
        rw [List.count_eq_zero]; simp; exact fun q => h10 q.symm
      rw [this]
      simp
      omega
theorem adv_end (s : ByteArray) : adv s.data.toList (1, 1) = ((Lib.countByte s.data.toList 10 : Int) + 1, (s.size : Int) - Lib.lastIndexByte s 10) := by
  have := adv_end_k s s.size (Nat.le_refl _)
  rw [List.take_of_length_le (by show s.size ≤ s.size; exact Nat.le_refl _)] at this
  exact this
end
section
open Go.RowKit Go.BigFrame

/-- A slice that a call has made, among the known blocks. -/
theorem Kn.of_owned {w0 w : World} {e : TypeId} {sz n : Nat} {v : Value} {L : List (List Value)} (hb : Below w0.heap.size w0 w) (hl : ∀ c ∈ L, c.length = sz) (hn : n = L.length) (h : w.ownsRow w0.heap.size e sz v n L.flatten) : ∃ ol, OwnT e sz v L ol ∧ Kn [] w0 w ol := by
  subst hn
  rcases h.2 with ⟨rfl, h0⟩ | ⟨g, cap, cur, rfl, hge, hg, hnc, hcm, hcs, ht⟩
  · have : L = [] := List.eq_nil_of_length_eq_zero h0
    subst this
    exact ⟨[], .nil, hb.os, hb.tape, hb.output, hb.size, fun k hk _ => hb.block k hk, (fun _ _ h => by cases h), (fun _ _ h => by cases h), List.nodup_nil⟩
  · refine ⟨_, .blk hnc hcm hl, hb.os, hb.tape, hb.output, hb.size, fun k hk _ => hb.block k hk, fun g' Φ h => ?_, fun g' Φ h => ?_, by simp⟩
    · cases h with
      | here => exact ⟨_, hg, cur, rfl, hcs, ht⟩
      | there h => cases h
    · cases h with
      | here => exact .inr hge
      | there h => cases h
theorem flat_map (d : List Tok) : flat d = (d.map fun t => t.cells.toList).flatten := by
  unfold flat; rw [List.flatMap_def]
theorem tok_len (d : List Tok) : ∀ c ∈ d.map fun t => t.cells.toList, c.length = 5 := by
  intro c hc
  rw [List.mem_map] at hc
  obtain ⟨v, _, rfl⟩ := hc
  rfl
theorem TokRd.of_own {M : List Nat} {W w : World} {l ol : Ents} {v : Value} {d : List Tok} (h : OwnT 52 5 v (d.map fun t => t.cells.toList) ol) (KN : Kn M W w l) (hs : ∀ x ∈ ol, x ∈ l) : TokRd w v d := by
  obtain ⟨a, c, hv⟩ := h.form
  rw [List.length_map] at hv
  refine ⟨a, c, hv, fun k t hk => ?_⟩
  have hne : 1 ≤ (d.map fun t => t.cells.toList).length := by
    rw [List.length_map]
    have := (List.getElem?_eq_some_iff.1 hk).1
    omega
  obtain ⟨g, cap, hv2, _, _, hol⟩ := h.pos hne
  have ha : a = some ⟨g, 0, none⟩ := by rw [hv] at hv2; injection hv2
  have hm : Has l g (CapAt 52 5 cap (d.map fun t => t.cells.toList)) := Has.of_mem (hs _ (by rw [hol]; simp))
  have hi : (d.map fun t => t.cells.toList)[k]? = some t.cells.toList := by rw [List.getElem?_map, hk]; rfl
  have e := fun j x hj => KN.elem hm (tok_len d) hi (j := j) (x := x) hj
  refine ⟨g, 0, ha, KN.lt hm, ?_, ?_, ?_, ?_, ?_⟩
  all_goals rw [Nat.zero_add]
  · exact e 0 _ rfl
  · exact e 1 _ rfl
  · exact e 2 _ rfl
  · exact e 3 _ rfl
  · exact e 4 _ rfl
end
section
theorem numV_nonneg (b : Int) (hb : 0 ≤ b) : ∀ (l : List UInt8) (v : Int), 0 ≤ v → (∀ c ∈ l, 0 ≤ digV c.toNat b) → 0 ≤ l.foldl (fun v c => v * b + digV c.toNat b) v
  | [], _, h, _ => h
  | c :: l, v, h, hc => numV_nonneg b hb l _ (Int.add_nonneg (Int.mul_nonneg h hb) (hc c (by simp))) (fun x hx => hc x (by simp [hx]))
theorem baseOf_nonneg (l : List UInt8) : 0 ≤ baseOf l := by unfold baseOf; split <;> decide
theorem numeral_bd (l : List UInt8) : 0 ≤ (numeral l).1 ∧ (numeral l).1 ≤ 18446744073709551615 := by
  unfold numeral
  split
  · exact ⟨by decide, by decide⟩
  · rename_i h1
    split
    · exact ⟨by decide, by decide⟩
    · rename_i h2
      have hd : ∀ c ∈ digitsOf (sufBody l), 0 ≤ digV c.toNat (baseOf (sufBody l)) := by
        intro c hc
        unfold badDigits at h1
        rw [Bool.or_eq_true, not_or] at h1
        have := h1.2
        rw [List.any_eq_true] at this
        by_cases hx : 0 ≤ digV c.toNat (baseOf (sufBody l))
        · exact hx
        · exact absurd ⟨c, hc, decide_eq_true (by omega)⟩ this
      have h0 : 0 ≤ numV (baseOf (sufBody l)) (digitsOf (sufBody l)) := numV_nonneg _ (baseOf_nonneg _) _ 0 (by decide) hd
      have hp : (0 : Int) < 2 ^ sufShift l := Int.pow_pos (by decide)
      refine ⟨Int.mul_nonneg h0 (by omega), ?_⟩
      have h3 : numV (baseOf (sufBody l)) (digitsOf (sufBody l)) ≤ most / 2 ^ sufShift l := by omega
      exact Int.mul_le_of_le_ediv hp h3
theorem lexOne_val (l : List UInt8) : 0 ≤ (lexOne l).1.value ∧ (lexOne l).1.value ≤ 18446744073709551615 := by
  unfold lexOne
  split
  · exact ⟨by decide, by decide⟩
  · split
    · exact ⟨by show (0 : Int) ≤ 0; decide, by show (0 : Int) ≤ _; decide⟩
    · split
      · split
        · exact numeral_bd _
        · exact ⟨by show (0 : Int) ≤ 0; decide, by show (0 : Int) ≤ _; decide⟩
      · split
        · split
          · exact ⟨by show (0 : Int) ≤ 0; decide, by show (0 : Int) ≤ _; decide⟩
          · exact ⟨by decide, by decide⟩
        · split
          · exact ⟨by decide, by decide⟩
          · exact ⟨by show (0 : Int) ≤ 0; decide, by show (0 : Int) ≤ _; decide⟩
theorem scanF_val : ∀ (n : Nat) (l : List UInt8) (a b : Int), ∀ t ∈ (scanF n l a b).1, 0 ≤ t.raw.value ∧ t.raw.value ≤ 18446744073709551615
  | 0, _, _, _ => by simp [scanF]
  | n + 1, [], _, _ => by simp [scanF]
  | n + 1, c :: r, a, b => by
    simp only [scanF]
    split
    · exact scanF_val n _ _ _
    · split
      · exact scanF_val n _ _ _
      · split
        · exact scanF_val n _ _ _
        · split
          · intro t ht
            simp only [Res.pre, List.mem_append, List.mem_singleton] at ht
            rcases ht with rfl | ht
            · exact lexOne_val (c :: r)
            · exact scanF_val n _ _ _ t ht
          · intro t ht; cases ht
theorem scanRes_val (l : List UInt8) : ∀ t ∈ (scanRes l).1, 0 ≤ t.raw.value ∧ t.raw.value ≤ 18446744073709551615 := by
  unfold scanRes
  split
  · intro t ht; cases ht
  · have := scanF_val l.length l 1 1
    split
    · rename_i d hs; unfold scan at hs; rw [hs] at this; exact this
    · intro t ht; cases ht
end
end Go.Proofs.YtgeeklgojjcdmaaDoor
