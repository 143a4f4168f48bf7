/- Merged: AsmAll, AsmEnd, AsmTail, TokBd. -/
import Derived.Test.YtemigcdieghkfaaDoorPkAsmRI
import Derived.Defers
import Derived.Recover
import Derived.Test.YtemigcdieghkfaaDoorPkAsmP
import Derived.Test.YtemigcdieghkfaaDoorPkLocalG
import Derived.Lib.LastIndexByte
import Derived.Lib.Bytealg
import Derived.Test.YtemigcdieghkfaaDoorPkScanP
import Derived.Test.YtemigcdieghkfaaDoorPkLexP
set_option linter.unusedVariables false
set_option linter.unusedSimpArgs false
set_option linter.unusedSectionVars false
namespace Go.Proofs.YtemigcdieghkfaaDoor
section
open Go.RowKit Go.BigFrame

set_option maxRecDepth 100000 in
set_option maxHeartbeats 40000000 in
theorem asm_catch {W w : World} {L : Ents} {b0 b1 b2 : Nat} {v0 v1 v2 v3 : Value} (l c x : Int) (older : List PanicEntry)
    (KN : Kn [] W w ((b0, At #[v0] 23) :: (b1, At #[v1, v2] 25) :: (b2, At #[v3] 26) :: L)) :
    CallsD Tryd.prog 23 #[.pointer (some ⟨b0, 0, none⟩), .pointer (some ⟨b1, 0, none⟩), .pointer (some ⟨b2, 0, none⟩)] (.panicking ({ v := .iface 55 (.agg #[.int .i64 l, .int .i64 c, .int .i64 x]), recovered := false } :: older)) w fun e u' w' =>
      e = .returned (.tuple #[]) ∧ u' = .panicking ({ v := .iface 55 (.agg #[.int .i64 l, .int .i64 c, .int .i64 x]), recovered := true } :: older) ∧
        Kn [] W w' ((b0, At #[.slice none 0 0] 23) :: (b1, At #[.int .i64 l, .int .i64 c] 25) :: (b2, At #[.int .i64 x] 26) :: L) := by
  have htas : ∀ (a b c : Value) (w : World), Sem.run Tryd.prog (Instr.typeAssert (.iface 55 (.agg #[a, b, c])) 20 55 true) w = .ok (.tuple #[.agg #[a, b, c], .bool true]) w := fun _ _ _ _ => by kernel_rfl
  refine callsD_of_wpS Tryd.func23 rfl fun c₀ cs hu => ?_
  apply wpS_seq
  apply wpS_region
  simp [wpOpsS, go_sem, recoverD, hu, Tryd.ntmps23, Exit.thenS]
  refine wpS_of_wp ?_
  simp only [Array.replicate, List.replicate, List.setIfInBounds_toArray, List.set_cons_zero, List.set_cons_succ, List.append_toArray, List.cons_append, List.nil_append]
  go_upto_region 5 with (first | ((with_reducible refine wpList_gate ?_); first | ((refine gate_load (by rfl) ?_); first | (refine ks_loadW KN 25 Tryd.underlying25 ?_) | (refine ks_load1 KN 26 Tryd.underlying26 ?_)) | ((refine gate_store (by rfl) ?_); first | (refine ks_storeW KN 55 ?_; clear KN; intro wx KN) | (refine ks_storeA KN 55 ?_; clear KN; intro wx KN) | (refine ks_store1 KN 23 ?_; clear KN; intro wx KN) | (refine ks_storeW KN 25 ?_; clear KN; intro wx KN) | (refine ks_storeA KN 25 ?_; clear KN; intro wx KN) | (refine ks_store1 KN 26 ?_; clear KN; intro wx KN)) | ((refine gate_new (by rfl) ?_); first | (refine ks_alloc KN 55 (q := 4) #[.int .i64 0, .int .i64 0, .int .i64 0] ?_; clear KN; intro g4 wx hg4 KN))))
  replace KN := KN.drew
  refine wp_region_held_drew (S := (fun w' => BlkT w' g4 #[.int .i64 l, .int .i64 c, .int .i64 x] 55)) (by kernel_rfl) ?qchS (fun hHeld => ?qcrest)
  case qchS => exact KN.at_ (by repeat (first | exact Has.here | refine Has.there ?_))
  refine wpAnyH_take (i := 0) (oi := ⟨some 17, _, _, _, _, _⟩) (v := ?qcv0) rfl (by kernel_rfl) (by kernel_rfl) (by kernel_rfl) (fun _ _ _ h => h) (Or.inl ⟨by rfl, ?qchy0⟩) hHeld ?qcr0
  case qchy0 => (intro w hSw; (try dsimp only at hSw); go_simp; (try with_reducible rfl))
  (try simp only [Act.put, List.setIfInBounds_toArray, List.set_cons_zero, List.set_cons_succ])
  refine wpAnyH_take (i := 1) (oi := ⟨some 18, _, _, _, _, _⟩) (v := (.agg #[.int .i64 l, .int .i64 c])) rfl (by kernel_rfl) (by kernel_rfl) (by kernel_rfl) (fun _ _ _ h => h) (kn_yieldsN (by rfl) 25 _ rfl g4 0 rfl _ 55 (fun _ h => h) #[.int .i64 l, .int .i64 c] rfl _ Tryd.underlying25 rfl (by kernel_rfl)) hHeld ?qcr1
  (try simp only [Act.put, List.setIfInBounds_toArray, List.set_cons_zero, List.set_cons_succ])
  refine wpAnyH_take (i := 2) (oi := ⟨some 19, _, _, _, _, _⟩) (v := ?qcv2) rfl (by kernel_rfl) (by kernel_rfl) (by kernel_rfl) (fun _ _ _ h => h) (Or.inl ⟨by rfl, ?qchy2⟩) hHeld ?qcr2
  case qchy2 => (intro w hSw; (try dsimp only at hSw); go_simp; (try with_reducible rfl))
  (try simp only [Act.put, List.setIfInBounds_toArray, List.set_cons_zero, List.set_cons_succ])
  refine wpAnyH_take (i := 3) (oi := ⟨some 20, _, _, _, _, _⟩) (v := (.int .i64 x)) rfl (by kernel_rfl) (by kernel_rfl) (by kernel_rfl) (fun _ _ _ h => h) (kn_yields1 (by rfl) 26 _ rfl g4 2 rfl _ 55 (fun _ h => h) _ rfl _ Tryd.underlying26 rfl) hHeld ?qcr3
  (try simp only [Act.put, List.setIfInBounds_toArray, List.set_cons_zero, List.set_cons_succ])
  refine wpAnyH_ready (rs := [4]) (by kernel_rfl) (by simp) ?qcc4
  refine AllReadyH.cons (o := ⟨none, _, _, _, _, _⟩) rfl (fun K hK => ?qcst4) AllReadyH.nil
  (rw [if_pos (by rfl)]; refine wp_kn_store1 KN 23 _ _ rfl b0 0 rfl _ rfl rfl _ _ (by repeat (first | exact Repl.here | apply Repl.there)) (by simp) (by kernel_rfl) (by rfl) ?_; clear KN; intro wx KN)
  refine hK.out _ _ ?qck4 (fun hHeld2 => ?qcm4)
  case qck4 => exact KN.at_ (by repeat (first | exact Has.here | refine Has.there ?_))
  clear hK K hHeld
  have hHeld := hHeld2; clear hHeld2
  (try simp only [Act.put, List.setIfInBounds_toArray, List.set_cons_zero, List.set_cons_succ])
  refine wpAnyH_ready (rs := [5]) (by kernel_rfl) (by simp) ?qcc5
  refine AllReadyH.cons (o := ⟨none, _, _, _, _, _⟩) rfl (fun K hK => ?qcst5) AllReadyH.nil
  (rw [if_pos (by rfl)]; refine wp_kn_storeW KN 25 _ _ rfl _ rfl #[.int .i64 l, .int .i64 c] rfl _ _ (by repeat (first | exact Repl.here | apply Repl.there)) (by kernel_rfl) (by kernel_rfl) (by kernel_rfl) ?_; clear KN; intro wx KN)
  refine hK.out _ _ ?qck5 (fun hHeld2 => ?qcm5)
  case qck5 => exact KN.at_ (by repeat (first | exact Has.here | refine Has.there ?_))
  clear hK K hHeld
  have hHeld := hHeld2; clear hHeld2
  (try simp only [Act.put, List.setIfInBounds_toArray, List.set_cons_zero, List.set_cons_succ])
  refine wpAnyH_ready (rs := [6]) (by kernel_rfl) (by simp) ?qcc6
  refine AllReadyH.cons (o := ⟨none, _, _, _, _, _⟩) rfl (fun K hK => ?qcst6) AllReadyH.nil
  (rw [if_pos (by rfl)]; refine wp_kn_store1 KN 26 _ _ rfl b2 0 rfl _ rfl rfl _ _ (by repeat (first | exact Repl.here | apply Repl.there)) (by simp) (by kernel_rfl) (by rfl) ?_; clear KN; intro wx KN)
  refine hK.out _ _ ?qck6 (fun hHeld2 => ?qcm6)
  case qck6 => exact KN.at_ (by repeat (first | exact Has.here | refine Has.there ?_))
  clear hK K hHeld
  have hHeld := hHeld2; clear hHeld2
  (try simp only [Act.put, List.setIfInBounds_toArray, List.set_cons_zero, List.set_cons_succ])
  refine wpAnyH_done (by kernel_rfl) ?qcdone _
  exact ⟨rfl, _, rfl, .tuple #[], results_none rfl _ _ _, rfl, rfl, KN.drop .here⟩
set_option maxRecDepth 100000 in
set_option maxHeartbeats 40000000 in
theorem asm_idle {w : World} {b0 b1 b2 : Nat} : CallsD Tryd.prog 23 #[.pointer (some ⟨b0, 0, none⟩), .pointer (some ⟨b1, 0, none⟩), .pointer (some ⟨b2, 0, none⟩)] .returning w fun e u' w' => e = .returned (.tuple #[]) ∧ u' = .returning ∧ w = w' := by
  refine callsD_of_wpS Tryd.func23 rfl fun c₀ cs hu => ?_
  apply wpS_seq
  apply wpS_region
  simp [wpOpsS, go_sem, recoverD, hu, Tryd.ntmps23, Exit.thenS]
  refine wpS_of_wp ?_
  simp only [Array.replicate, List.replicate, List.setIfInBounds_toArray, List.set_cons_zero, List.set_cons_succ, List.append_toArray, List.cons_append, List.nil_append]
  go_wp2_with fail
  exact ⟨rfl, .returning, by cases c₀; simp_all, .tuple #[], results_none rfl _ _ _, rfl, rfl, rfl⟩
end
section
theorem adv_end_k (s : ByteArray) : ∀ k, k ≤ s.size → adv (s.data.toList.take k) (1, 1) = (((s.data.toList.take k).count 10 : Int) + 1, (k : Int) - Lib.lastIdx s 10 k)
  | 0, _ => rfl
  | k + 1, h => by
    have ih := adv_end_k s k (by omega)
    have hk : k < s.size := by omega
    rw [adv_snoc hk ih]
    have hb : s.data[k]! = s[k] := by
      rw [getElem!_pos s.data k hk]; rfl
    have htk : s.data.toList.take (k + 1) = s.data.toList.take k ++ [s[k]] := take_snoc s k hk
    rw [htk, List.count_append, Lib.lastIdx, hb]
    by_cases hc : s[k].toNat = 10
    · have h10 : s[k] = 10 := by
        apply UInt8.toNat_inj.1; rw [hc]; rfl
      rw [if_pos hc, if_pos (by omega), h10]
      simp
      omega
    · have h10 : ¬ s[k] = 10 := fun q => hc (by rw [q]; rfl)
      rw [if_neg hc, if_neg (by omega)]
      have : ([s[k]] : List UInt8).count 10 = 0 := by
        rw [List.count_eq_zero]; simp; exact fun q => h10 q.symm
      rw [this]
      simp
      omega
theorem adv_end (s : ByteArray) : adv s.data.toList (1, 1) = ((Lib.countByte s.data.toList 10 : Int) + 1, (s.size : Int) - Lib.lastIndexByte s 10) := by
  have := adv_end_k s s.size (Nat.le_refl _)
  rw [List.take_of_length_le (by show s.size ≤ s.size; exact Nat.le_refl _)] at this
  exact this
end
section
open Go.RowKit Go.BigFrame

/-- A slice that a call has made, among the known blocks. -/
theorem Kn.of_owned {w0 w : World} {e : TypeId} {sz n : Nat} {v : Value} {L : List (List Value)} (hb : Below w0.heap.size w0 w) (hl : ∀ c ∈ L, c.length = sz) (hn : n = L.length) (h : w.ownsRow w0.heap.size e sz v n L.flatten) : ∃ ol, OwnT e sz v L ol ∧ Kn [] w0 w ol := by
  subst hn
  rcases h.2 with ⟨rfl, h0⟩ | ⟨g, cap, cur, rfl, hge, hg, hnc, hcm, hcs, ht⟩
  · have : L = [] := List.eq_nil_of_length_eq_zero h0
    subst this
    exact ⟨[], .nil, hb.os, hb.tape, hb.output, hb.size, fun k hk _ => hb.block k hk, (fun _ _ h => by cases h), (fun _ _ h => by cases h), List.nodup_nil⟩
  · refine ⟨_, .blk hnc hcm hl, hb.os, hb.tape, hb.output, hb.size, fun k hk _ => hb.block k hk, fun g' Φ h => ?_, fun g' Φ h => ?_, by simp⟩
    · cases h with
      | here => exact ⟨_, hg, cur, rfl, hcs, ht⟩
      | there h => cases h
    · cases h with
      | here => exact .inr hge
      | there h => cases h
theorem flat_map (d : List Tok) : flat d = (d.map fun t => t.cells.toList).flatten := by
  unfold flat; rw [List.flatMap_def]
theorem tok_len (d : List Tok) : ∀ c ∈ d.map fun t => t.cells.toList, c.length = 5 := by
  intro c hc
  rw [List.mem_map] at hc
  obtain ⟨v, _, rfl⟩ := hc
  rfl
theorem TokRd.of_own {M : List Nat} {W w : World} {l ol : Ents} {v : Value} {d : List Tok} (h : OwnT 45 5 v (d.map fun t => t.cells.toList) ol) (KN : Kn M W w l) (hs : ∀ x ∈ ol, x ∈ l) : TokRd w v d := by
  obtain ⟨a, c, hv⟩ := h.form
  rw [List.length_map] at hv
  refine ⟨a, c, hv, fun k t hk => ?_⟩
  have hne : 1 ≤ (d.map fun t => t.cells.toList).length := by
    rw [List.length_map]
    have := (List.getElem?_eq_some_iff.1 hk).1
    omega
  obtain ⟨g, cap, hv2, _, _, hol⟩ := h.pos hne
  have ha : a = some ⟨g, 0, none⟩ := by rw [hv] at hv2; injection hv2
  have hm : Has l g (CapAt 45 5 cap (d.map fun t => t.cells.toList)) := Has.of_mem (hs _ (by rw [hol]; simp))
  have hi : (d.map fun t => t.cells.toList)[k]? = some t.cells.toList := by rw [List.getElem?_map, hk]; rfl
  have e := fun j x hj => KN.elem hm (tok_len d) hi (j := j) (x := x) hj
  refine ⟨g, 0, ha, KN.lt hm, ?_, ?_, ?_, ?_, ?_⟩
  all_goals rw [Nat.zero_add]
  · exact e 0 _ rfl
  · exact e 1 _ rfl
  · exact e 2 _ rfl
  · exact e 3 _ rfl
  · exact e 4 _ rfl
end
section
theorem lexOne_tlen (l : List UInt8) : (lexOne l).1.text.length ≤ l.length := by
  unfold lexOne
  split
  · exact Nat.zero_le _
  · rename_i c r
    split
    · rw [List.length_take]; omega
    · split
      · split <;> exact Nat.zero_le _
      · split
        · split
          · show (r.take _).length ≤ _
            rw [List.length_take, List.length_cons]; omega
          · exact Nat.zero_le _
        · split
          · exact Nat.zero_le _
          · show (List.take _ _).length ≤ _
            rw [List.length_take]; omega
theorem scanF_tlen : ∀ (n : Nat) (l : List UInt8) (a b : Int), ∀ t ∈ (scanF n l a b).1, t.raw.text.length ≤ l.length
  | 0, _, _, _ => by simp [scanF]
  | n + 1, [], _, _ => by simp [scanF]
  | n + 1, c :: r, a, b => by
    simp only [scanF]
    have h := fun (k : Nat) (x y : Int) => scanF_tlen n (r.drop k) x y
    have h0 := fun (x y : Int) => scanF_tlen n r x y
    split
    · intro t ht; have := h0 _ _ t ht; rw [List.length_cons]; omega
    · split
      · intro t ht; have := h0 _ _ t ht; rw [List.length_cons]; omega
      · split
        · intro t ht; have := h _ _ _ t ht; rw [List.length_drop] at this; rw [List.length_cons]; omega
        · split
          · intro t ht
            simp only [Res.pre, List.mem_append, List.mem_singleton] at ht
            rcases ht with rfl | ht
            · exact lexOne_tlen (c :: r)
            · have := h _ _ _ t ht; rw [List.length_drop] at this; rw [List.length_cons]; omega
          · intro t ht; cases ht
theorem scanRes_tlen (l : List UInt8) : ∀ t ∈ (scanRes l).1, t.raw.text.length ≤ l.length := by
  unfold scanRes
  split
  · intro t ht; cases ht
  · have := scanF_tlen l.length l 1 1
    split
    · rename_i d hs; unfold scan at hs; rw [hs] at this; exact this
    · intro t ht; cases ht
theorem numV_nonneg (b : Int) (hb : 0 ≤ b) : ∀ (l : List UInt8) (v : Int), 0 ≤ v → (∀ c ∈ l, 0 ≤ digV c.toNat b) → 0 ≤ l.foldl (fun v c => v * b + digV c.toNat b) v
  | [], _, h, _ => h
  | c :: l, v, h, hc => numV_nonneg b hb l _ (Int.add_nonneg (Int.mul_nonneg h hb) (hc c (by simp))) (fun x hx => hc x (by simp [hx]))
theorem baseOf_nonneg (l : List UInt8) : 0 ≤ baseOf l := by unfold baseOf; split <;> decide
theorem numeral_bd (l : List UInt8) : 0 ≤ (numeral l).1 ∧ (numeral l).1 ≤ 18446744073709551615 := by
  unfold numeral
  split
  · exact ⟨by decide, by decide⟩
  · rename_i h1
    split
    · exact ⟨by decide, by decide⟩
    · rename_i h2
      have hd : ∀ c ∈ digitsOf (sufBody l), 0 ≤ digV c.toNat (baseOf (sufBody l)) := by
        intro c hc
        unfold badDigits at h1
        rw [Bool.or_eq_true, not_or] at h1
        have := h1.2
        rw [List.any_eq_true] at this
        by_cases hx : 0 ≤ digV c.toNat (baseOf (sufBody l))
        · exact hx
        · exact absurd ⟨c, hc, decide_eq_true (by omega)⟩ this
      have h0 : 0 ≤ numV (baseOf (sufBody l)) (digitsOf (sufBody l)) := numV_nonneg _ (baseOf_nonneg _) _ 0 (by decide) hd
      have hp : (0 : Int) < 2 ^ sufShift l := Int.pow_pos (by decide)
      refine ⟨Int.mul_nonneg h0 (by omega), ?_⟩
      have h3 : numV (baseOf (sufBody l)) (digitsOf (sufBody l)) ≤ most / 2 ^ sufShift l := by omega
      exact Int.mul_le_of_le_ediv hp h3
theorem lexOne_val (l : List UInt8) : 0 ≤ (lexOne l).1.value ∧ (lexOne l).1.value ≤ 18446744073709551615 := by
  unfold lexOne
  split
  · exact ⟨by decide, by decide⟩
  · split
    · exact ⟨by show (0 : Int) ≤ 0; decide, by show (0 : Int) ≤ _; decide⟩
    · split
      · split
        · exact numeral_bd _
        · exact ⟨by show (0 : Int) ≤ 0; decide, by show (0 : Int) ≤ _; decide⟩
      · split
        · split
          · exact ⟨by show (0 : Int) ≤ 0; decide, by show (0 : Int) ≤ _; decide⟩
          · exact ⟨by decide, by decide⟩
        · split
          · exact ⟨by decide, by decide⟩
          · exact ⟨by show (0 : Int) ≤ 0; decide, by show (0 : Int) ≤ _; decide⟩
theorem scanF_val : ∀ (n : Nat) (l : List UInt8) (a b : Int), ∀ t ∈ (scanF n l a b).1, 0 ≤ t.raw.value ∧ t.raw.value ≤ 18446744073709551615
  | 0, _, _, _ => by simp [scanF]
  | n + 1, [], _, _ => by simp [scanF]
  | n + 1, c :: r, a, b => by
    simp only [scanF]
    split
    · exact scanF_val n _ _ _
    · split
      · exact scanF_val n _ _ _
      · split
        · exact scanF_val n _ _ _
        · split
          · intro t ht
            simp only [Res.pre, List.mem_append, List.mem_singleton] at ht
            rcases ht with rfl | ht
            · exact lexOne_val (c :: r)
            · exact scanF_val n _ _ _ t ht
          · intro t ht; cases ht
theorem scanRes_val (l : List UInt8) : ∀ t ∈ (scanRes l).1, 0 ≤ t.raw.value ∧ t.raw.value ≤ 18446744073709551615 := by
  unfold scanRes
  split
  · intro t ht; cases ht
  · have := scanF_val l.length l 1 1
    split
    · rename_i d hs; unfold scan at hs; rw [hs] at this; exact this
    · intro t ht; cases ht
end
end Go.Proofs.YtemigcdieghkfaaDoor
