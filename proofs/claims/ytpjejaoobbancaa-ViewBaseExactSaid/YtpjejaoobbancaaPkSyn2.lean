/- Sync's methods, as the law's sanity check wants them: due, begin. -/
import Derived.Test.YtpjejaoobbancaaPkSyn1
set_option linter.unusedVariables false
set_option linter.unusedSimpArgs false
set_option linter.unusedSectionVars false
namespace Go.Proofs.Ytpjejaoobbancaa
open Go.RowKit Go.BigFrame

set_option maxRecDepth 100000 in
set_option maxHeartbeats 4000000 in
theorem due_yes {w : World} {g : Nat} {vn : Int} {m dead : SL} {mem dd : List Int} (h : SyncRd w g vn m dead mem dd) (hv : ¬ vn = 0) (hx : ∃ z ∈ mem, z ∈ dd) :
    Calls Try.prog 60 #[.pointer (some ⟨g, 0, none⟩)] w fun e w' => e = .returned (.bool true) ∧ Below w.heap.size w w' := by
  have KN := Kn.start w
  have H := Lib.hid h
  have HX := Lib.hid hx
  have hmf := run_mf
  clear h hx
  go_enter Try.func60, Try.ntmps60
  go_upto_region 2 with (first | ((with_reducible refine wpList_gate ?_); first | ((with_reducible refine gate_load ?_ ?_); rfl; first | (refine ks_load1 KN 48 Try.underlying48 ?_) | (refine ks_load1 KN 22 Try.underlying22 ?_) | (refine ks_load1 KN 42 Try.underlying42 ?_)) | ((with_reducible refine gate_new ?_ ?_); rfl; first | (refine ks_box KN 48 (q := 1) ?_; clear KN; intro g1 wx hg1 KN))))
  (try go_frame)
  replace KN := KN.drew
  refine wp_region_held_drew (S := (fun w' => w'.cell? ⟨g1, 0, none⟩ = some (.pointer (some ⟨g, 0, none⟩)))) (by kernel_rfl) ?duhS (fun hHeld => ?durest)
  case duhS => exact KN.cell (g := g1) (o := 0) (by repeat (first | exact Has.here | refine Has.there ?_)) rfl
  refine wpAnyH_take (i := 0) (oi := ⟨some 5, _, _, _, _, _⟩) (v := (.pointer (some ⟨g, 0, none⟩))) rfl (by kernel_rfl) (by kernel_rfl) (by kernel_rfl) (fun _ _ _ h => h) (kn_yields_cell (by rfl) 48 _ rfl g1 0 rfl _ (fun _ h => h) _ Try.underlying48 rfl) hHeld ?dur0
  (try simp only [Act.put, List.setIfInBounds_toArray, List.set_cons_zero, List.set_cons_succ])
  refine wpAnyH_take (i := 2) (oi := ⟨some 7, _, _, _, _, _⟩) (v := (.pointer (some ⟨g, 0, none⟩))) rfl (by kernel_rfl) (by kernel_rfl) (by kernel_rfl) (fun _ _ _ h => h) (kn_yields_cell (by rfl) 48 _ rfl g1 0 rfl _ (fun _ h => h) _ Try.underlying48 rfl) hHeld ?dur2
  (try simp only [Act.put, List.setIfInBounds_toArray, List.set_cons_zero, List.set_cons_succ])
  refine wpAnyH_take (i := 3) (oi := ⟨some 8, _, _, _, _, _⟩) (v := (.func (.func 42) #[.pointer (some ⟨g, 0, none⟩)] #[])) rfl (by kernel_rfl) (by kernel_rfl) (by kernel_rfl) (fun _ _ _ h => h) (Or.inl ⟨by rfl, ?duhy3⟩) hHeld ?dur3
  case duhy3 => (intro w hSw; (try dsimp only at hSw); go_simp; (try rfl))
  (try simp only [Act.put, List.setIfInBounds_toArray, List.set_cons_zero, List.set_cons_succ])
  refine wpAnyH_ready (rs := [1]) (by kernel_rfl) (by simp) ?duc1
  refine AllReadyH.cons (o := ⟨some 6, _, _, _, _, _⟩) rfl (fun K hK => ?dust1) AllReadyH.nil
  go_simp
  (refine (electors_any (H.out.below KN.toBelow) hv).mono ?_; rintro e wx ⟨v1, rfl, hr1, hb⟩; have HR1 := Lib.hid hr1; replace KN := KN.below hb; clear hb hr1)
  refine hK.out _ _ ?duk1 (fun hHeld2 => ?dum1)
  case duk1 => exact KN.cell (g := g1) (o := 0) (by repeat (first | exact Has.here | refine Has.there ?_)) rfl
  clear hK K hHeld
  have hHeld := hHeld2; clear hHeld2
  (try simp only [Act.put, List.setIfInBounds_toArray, List.set_cons_zero, List.set_cons_succ])
  refine wpAnyH_ready (rs := [4]) (by kernel_rfl) (by simp) ?duc4
  refine AllReadyH.cons (o := ⟨some 9, _, _, _, _, _⟩) rfl (fun K hK => ?dust4) AllReadyH.nil
  go_simp
  (refine (ContainsDead_any HR1.out (H.out.below KN.toBelow).cdead (H.out.below KN.toBelow).rd).mono ?_; rintro e wx ⟨b, rfl, hb, rfl⟩; obtain rfl : b = true := hb.2 HX.out; clear hb)
  refine hK.out _ _ ?duk4 (fun hHeld2 => ?dum4)
  case duk4 => exact KN.cell (g := g1) (o := 0) (by repeat (first | exact Has.here | refine Has.there ?_)) rfl
  clear hK K hHeld
  have hHeld := hHeld2; clear hHeld2
  (try simp only [Act.put, List.setIfInBounds_toArray, List.set_cons_zero, List.set_cons_succ])
  refine wpAnyH_take (i := 5) (oi := ⟨some 10, _, _, _, _, _⟩) (v := ?duv5) rfl (by kernel_rfl) (by kernel_rfl) (by kernel_rfl) (fun _ _ _ h => h) (Or.inl ⟨by rfl, ?duhy5⟩) hHeld ?dur5
  case duhy5 => (intro w hSw; (try dsimp only at hSw); go_simp; (try with_reducible rfl))
  (try simp only [Act.put, List.setIfInBounds_toArray, List.set_cons_zero, List.set_cons_succ])
  refine wpAnyH_take (i := 6) (oi := ⟨some 11, _, _, _, _, _⟩) (v := undef) rfl (by kernel_rfl) (by kernel_rfl) (by kernel_rfl) (fun _ _ _ h => h) (Or.inr ⟨by rfl, rfl⟩) hHeld ?dur6
  (try simp only [Act.put, List.setIfInBounds_toArray, List.set_cons_zero, List.set_cons_succ])
  refine wpAnyH_take (i := 7) (oi := ⟨some 12, _, _, _, _, _⟩) (v := undef) rfl (by kernel_rfl) (by kernel_rfl) (by kernel_rfl) (fun _ _ _ h => h) (Or.inr ⟨by rfl, rfl⟩) hHeld ?dur7
  (try simp only [Act.put, List.setIfInBounds_toArray, List.set_cons_zero, List.set_cons_succ])
  refine wpAnyH_take (i := 8) (oi := ⟨some 13, _, _, _, _, _⟩) (v := undef) rfl (by kernel_rfl) (by kernel_rfl) (by kernel_rfl) (fun _ _ _ h => h) (Or.inr ⟨by rfl, rfl⟩) hHeld ?dur8
  (try simp only [Act.put, List.setIfInBounds_toArray, List.set_cons_zero, List.set_cons_succ])
  refine wpAnyH_take (i := 9) (oi := ⟨some 14, _, _, _, _, _⟩) (v := undef) rfl (by kernel_rfl) (by kernel_rfl) (by kernel_rfl) (fun _ _ _ h => h) (Or.inr ⟨by rfl, rfl⟩) hHeld ?dur9
  (try simp only [Act.put, List.setIfInBounds_toArray, List.set_cons_zero, List.set_cons_succ])
  refine wpAnyH_take (i := 10) (oi := ⟨some 15, _, _, _, _, _⟩) (v := undef) rfl (by kernel_rfl) (by kernel_rfl) (by kernel_rfl) (fun _ _ _ h => h) (Or.inr ⟨by rfl, rfl⟩) hHeld ?dur10
  (try simp only [Act.put, List.setIfInBounds_toArray, List.set_cons_zero, List.set_cons_succ])
  refine wpAnyH_take (i := 11) (oi := ⟨some 16, _, _, _, _, _⟩) (v := undef) rfl (by kernel_rfl) (by kernel_rfl) (by kernel_rfl) (fun _ _ _ h => h) (Or.inr ⟨by rfl, rfl⟩) hHeld ?dur11
  (try simp only [Act.put, List.setIfInBounds_toArray, List.set_cons_zero, List.set_cons_succ])
  refine wpAnyH_take (i := 12) (oi := ⟨some 17, _, _, _, _, _⟩) (v := ?duv12) rfl (by kernel_rfl) (by kernel_rfl) (by kernel_rfl) (fun _ _ _ h => h) (Or.inl ⟨by rfl, ?duhy12⟩) hHeld ?dur12
  case duhy12 => (intro w hSw; (try dsimp only at hSw); go_simp; (try with_reducible rfl))
  (try simp only [Act.put, List.setIfInBounds_toArray, List.set_cons_zero, List.set_cons_succ])
  refine wpAnyH_take (i := 13) (oi := ⟨some 18, _, _, _, _, _⟩) (v := ?duv13) rfl (by kernel_rfl) (by kernel_rfl) (by kernel_rfl) (fun _ _ _ h => h) (Or.inl ⟨by rfl, ?duhy13⟩) hHeld ?dur13
  case duhy13 => (intro w hSw; (try dsimp only at hSw); go_simp; (try with_reducible rfl))
  (try simp only [Act.put, List.setIfInBounds_toArray, List.set_cons_zero, List.set_cons_succ])
  refine wpAnyH_take (i := 14) (oi := ⟨some 19, _, _, _, _, _⟩) (v := undef) rfl (by kernel_rfl) (by kernel_rfl) (by kernel_rfl) (fun _ _ _ h => h) (Or.inr ⟨by rfl, rfl⟩) hHeld ?dur14
  (try simp only [Act.put, List.setIfInBounds_toArray, List.set_cons_zero, List.set_cons_succ])
  refine wpAnyH_take (i := 15) (oi := ⟨some 20, _, _, _, _, _⟩) (v := undef) rfl (by kernel_rfl) (by kernel_rfl) (by kernel_rfl) (fun _ _ _ h => h) (Or.inr ⟨by rfl, rfl⟩) hHeld ?dur15
  (try simp only [Act.put, List.setIfInBounds_toArray, List.set_cons_zero, List.set_cons_succ])
  refine wpAnyH_take (i := 16) (oi := ⟨some 21, _, _, _, _, _⟩) (v := undef) rfl (by kernel_rfl) (by kernel_rfl) (by kernel_rfl) (fun _ _ _ h => h) (Or.inr ⟨by rfl, rfl⟩) hHeld ?dur16
  (try simp only [Act.put, List.setIfInBounds_toArray, List.set_cons_zero, List.set_cons_succ])
  refine wpAnyH_take (i := 17) (oi := ⟨some 22, _, _, _, _, _⟩) (v := undef) rfl (by kernel_rfl) (by kernel_rfl) (by kernel_rfl) (fun _ _ _ h => h) (Or.inr ⟨by rfl, rfl⟩) hHeld ?dur17
  (try simp only [Act.put, List.setIfInBounds_toArray, List.set_cons_zero, List.set_cons_succ])
  refine wpAnyH_take (i := 18) (oi := ⟨some 23, _, _, _, _, _⟩) (v := undef) rfl (by kernel_rfl) (by kernel_rfl) (by kernel_rfl) (fun _ _ _ h => h) (Or.inr ⟨by rfl, rfl⟩) hHeld ?dur18
  (try simp only [Act.put, List.setIfInBounds_toArray, List.set_cons_zero, List.set_cons_succ])
  refine wpAnyH_take (i := 19) (oi := ⟨some 24, _, _, _, _, _⟩) (v := undef) rfl (by kernel_rfl) (by kernel_rfl) (by kernel_rfl) (fun _ _ _ h => h) (Or.inr ⟨by rfl, rfl⟩) hHeld ?dur19
  (try simp only [Act.put, List.setIfInBounds_toArray, List.set_cons_zero, List.set_cons_succ])
  refine wpAnyH_take (i := 20) (oi := ⟨some 25, _, _, _, _, _⟩) (v := undef) rfl (by kernel_rfl) (by kernel_rfl) (by kernel_rfl) (fun _ _ _ h => h) (Or.inr ⟨by rfl, rfl⟩) hHeld ?dur20
  (try simp only [Act.put, List.setIfInBounds_toArray, List.set_cons_zero, List.set_cons_succ])
  refine wpAnyH_take (i := 21) (oi := ⟨some 26, _, _, _, _, _⟩) (v := ?duv21) rfl (by kernel_rfl) (by kernel_rfl) (by kernel_rfl) (fun _ _ _ h => h) (Or.inl ⟨by rfl, ?duhy21⟩) hHeld ?dur21
  case duhy21 => (intro w hSw; (try dsimp only at hSw); go_simp; (try with_reducible rfl))
  (try simp only [Act.put, List.setIfInBounds_toArray, List.set_cons_zero, List.set_cons_succ])
  refine wpAnyH_take (i := 22) (oi := ⟨some 2, _, _, _, _, _⟩) (v := ?duv22) rfl (by kernel_rfl) (by kernel_rfl) (by kernel_rfl) (fun _ _ _ h => h) (Or.inl ⟨by rfl, ?duhy22⟩) hHeld ?dur22
  case duhy22 => (intro w hSw; (try dsimp only at hSw); go_simp; (try with_reducible rfl))
  (try simp only [Act.put, List.setIfInBounds_toArray, List.set_cons_zero, List.set_cons_succ])
  refine wpAnyH_done (by kernel_rfl) ?dudone _
  go_wp2_with fail
  go_ret
  exact ⟨rfl, KN.toBelow⟩
def msgA (dst rd : Int) (cs : SL) : Array Value :=
  #[.int .i64 12, .int .i64 0, .int .i64 0, .int .i64 dst, .int .i64 rd, .int .i64 0, .int .i64 0, .int .i64 0, .int .i64 0, .int .i64 0, .int .i64 0, .bool false,
    .int .i64 0, .int .i64 0, .int .i64 0, .int .i64 0, .int .i64 0, .int .i64 0, .int .i64 0, .int .i64 0, .int .i64 0, .int .i64 0, .int .i64 0, .int .i64 0, .int .i64 0, .int .i64 0, .int .i64 0, .int .i64 0, .int .i64 0,
    .int .i64 0, .int .i64 0, .int .i64 0, .slice none 0 0, .int .i64 0, .int .i64 0, .int .i64 0, .int .i64 0, .int .i64 0, .int .i64 0, .bool false,
    .slice none 0 0, .slice none 0 0, cs.v, .slice none 0 0, .int .i64 0, .int .i64 0, .slice none 0 0, .slice none 0 0,
    .slice none 0 0, .slice none 0 0, .slice none 0 0, .slice none 0 0, .slice none 0 0, .slice none 0 0,
    .int .i64 0, .int .i64 0, .slice none 0 0, .slice none 0 0, .slice none 0 0, .slice none 0 0, .slice none 0 0, .slice none 0 0, .slice none 0 0, .slice none 0 0, .bool false, .int .i64 0, .slice none 0 0, .slice none 0 0, .slice none 0 0, .slice none 0 0, .slice none 0 0, .slice none 0 0, .slice none 0 0, .slice none 0 0]
def MsgRows (rows : List (List Value)) (l : List Int) (k : Nat) : Prop := rows.length = l.length ∧ ∀ (i : Nat) (c : Int), l[i]? = some c → ∃ (rd : Int) (sl : SL), rows[i]? = some (msgA c rd sl).toList ∧ sl.n = k
theorem MsgRows.snoc {rows : List (List Value)} {l : List Int} {k : Nat} (h : MsgRows rows l k) (c rd : Int) (sl : SL) (hk : sl.n = k) : MsgRows (rows ++ [(msgA c rd sl).toList]) (l ++ [c]) k := by
  refine ⟨by rw [List.length_append, List.length_append, h.1]; rfl, fun i c' hc => ?_⟩
  rcases Nat.lt_or_ge i l.length with hi | hi
  · rw [List.getElem?_append_left hi] at hc
    obtain ⟨a, b, h1, h2⟩ := h.2 i c' hc
    exact ⟨a, b, by rw [List.getElem?_append_left (by rw [h.1]; exact hi)]; exact h1, h2⟩
  · rw [List.getElem?_append_right hi] at hc
    have hi0 : i - l.length = 0 := by
      have := (List.getElem?_eq_some_iff.1 hc).1
      simp only [List.length_cons, List.length_nil] at this
      omega
    rw [hi0] at hc
    have : c = c' := by simpa using hc
    subst this
    exact ⟨rd, sl, by rw [List.getElem?_append_right (by rw [h.1]; exact hi), h.1, hi0]; rfl, hk⟩
def BeginOut (g : Nat) (vn : Int) (rg m o dead wt : SL) (num : Int) (mem dd : List Int) (om od : Ents) (W : World) (e : Ending) (w' : World) : Prop :=
  ∃ (v : Value) (rows : List (List Value)) (ol : Ents) (ex : SL), e = .returned v ∧ OwnT 69 74 v rows ol ∧ MsgRows rows (keepL dd mem) dd.length ∧ Kn [] W w' ((g, At (syncA vn rg m o dead wt ex 1 (num + 1)) 98) :: ((om ++ od) ++ ol))
def BgR (g : Nat) (vn : Int) (rg m o dead wt ex : SL) (num : Int) (mem dd : List Int) (om od oe : Ents) (W : World) (s3 i : Value) (wr : World) : Prop :=
  ∃ (k : Nat) (rows : List (List Value)) (ol : Ents), i = .int .i64 (k : Int) ∧ k ≤ (keepL dd mem).length ∧ OwnT 69 74 s3 rows ol ∧ MsgRows rows ((keepL dd mem).take k) dd.length ∧ Kn [] W wr ((g, At (syncA vn rg m o dead wt ex 1 (num + 1)) 98) :: (((om ++ od) ++ oe) ++ ol))
theorem msg_info : (Try.prog.info? 69).map (fun i => (i.size, i.bytes, i.zero.map (·.cells.size))) = some (74, 1056, some 74) := by kernel_rfl
set_option maxRecDepth 100000 in
set_option maxHeartbeats 8000000 in
theorem begin_any {W w : World} {g : Nat} {vn : Int} {rg m o dead wt ex : SL} {st num : Int} {mem dd : List Int} {om omx od : Ents} (KN : Kn [] W w ((g, At (syncA vn rg m o dead wt ex st num) 98) :: (omx ++ od))) (hm : OwnT 3 1 m.v (intRows mem) om) (hs : om.Sublist omx) (hd : OwnT 3 1 dead.v (intRows dd) od)
    (lm : mem.length ≤ 1000000) (ld : dd.length ≤ 1000000) (hv : ¬ vn = 0) (hn0 : 0 ≤ num) (hn1 : num ≤ 1000000) :
    Calls Try.prog 44 #[.pointer (some ⟨g, 0, none⟩)] w (BeginOut g vn rg m o dead wt num mem dd omx od W) := by
  have HM := Lib.hid hm
  have HD := Lib.hid hd
  have LM := Lib.hid lm
  have LD := Lib.hid ld
  have HV := Lib.hid hv
  have SM : Hid (∀ z : Nat × (Obj → Prop), om.Sublist (z :: (omx ++ od))) := Lib.hid (fun z => List.Sublist.cons _ (hs.trans (List.sublist_append_left _ _)))
  have SD : Hid (∀ z : Nat × (Obj → Prop), od.Sublist (z :: (omx ++ od))) := Lib.hid (fun z => List.Sublist.cons _ (List.sublist_append_right _ _))
  obtain ⟨da, dn, dc⟩ := dead
  obtain ⟨ea, en, ec⟩ := ex
  clear hm hd lm ld hv
  go_enter Try.func44, Try.ntmps44
  go_upto_region 3 with (first | ((with_reducible refine wpList_gate ?_); first | ((with_reducible refine gate_load ?_ ?_); rfl; first | (refine ks_load1 KN 3 Try.underlying3 ?_) | (refine ks_load1 KN 22 Try.underlying22 ?_)) | ((with_reducible refine gate_store ?_ ?_); rfl; first | (refine ks_store1 KN 3 ?_; clear KN; intro wx KN) | (refine ks_store1 KN 96 ?_; clear KN; intro wx KN) | (refine ks_store1 KN 22 ?_; clear KN; intro wx KN) | (refine ks_store1 KN 24 ?_; clear KN; intro wx KN))))
  (try go_frame)
  replace KN := KN.as_ g (syncA vn rg m o ⟨da, dn, dc⟩ wt ⟨ea, en, ec⟩ 1 (num + 1)) (by repeat (first | exact Repl.here | apply Repl.there)) (by kernel_rfl)
  replace KN := KN.drew
  refine wp_region_held_drew (S := (fun w' => w'.cell? ⟨g, 20, none⟩ = some (.slice da dn dc))) (by kernel_rfl) ?bghS (fun hHeld => ?bgrest)
  case bghS => exact KN.cell (g := g) (o := 20) (by repeat (first | exact Has.here | refine Has.there ?_)) rfl
  refine wpAnyH_take (i := 0) (oi := ⟨some 16, _, _, _, _, _⟩) (v := ?bgv0) rfl (by kernel_rfl) (by kernel_rfl) (by kernel_rfl) (fun _ _ _ h => h) (Or.inl ⟨by rfl, ?bghy0⟩) hHeld ?bgr0
  case bghy0 => (intro w hSw; (try dsimp only at hSw); go_simp; (try with_reducible rfl))
  (try simp only [Act.put, List.setIfInBounds_toArray, List.set_cons_zero, List.set_cons_succ])
  refine wpAnyH_take (i := 1) (oi := ⟨some 17, _, _, _, _, _⟩) (v := ?bgv1) rfl (by kernel_rfl) (by kernel_rfl) (by kernel_rfl) (fun _ _ _ h => h) (Or.inl ⟨by rfl, ?bghy1⟩) hHeld ?bgr1
  case bghy1 => (intro w hSw; (try dsimp only at hSw); go_simp; (try with_reducible rfl))
  (try simp only [Act.put, List.setIfInBounds_toArray, List.set_cons_zero, List.set_cons_succ])
  refine wpAnyH_take (i := 3) (oi := ⟨some 19, _, _, _, _, _⟩) (v := ?bgv3) rfl (by kernel_rfl) (by kernel_rfl) (by kernel_rfl) (fun _ _ _ h => h) (Or.inl ⟨by rfl, ?bghy3⟩) hHeld ?bgr3
  case bghy3 => (intro w hSw; (try dsimp only at hSw); go_simp; (try with_reducible rfl))
  (try simp only [Act.put, List.setIfInBounds_toArray, List.set_cons_zero, List.set_cons_succ])
  refine wpAnyH_take (i := 4) (oi := ⟨some 20, _, _, _, _, _⟩) (v := ?bgv4) rfl (by kernel_rfl) (by kernel_rfl) (by kernel_rfl) (fun _ _ _ h => h) (Or.inl ⟨by rfl, ?bghy4⟩) hHeld ?bgr4
  case bghy4 => (intro w hSw; (try dsimp only at hSw); go_simp; (try with_reducible rfl))
  (try simp only [Act.put, List.setIfInBounds_toArray, List.set_cons_zero, List.set_cons_succ])
  refine wpAnyH_take (i := 5) (oi := ⟨some 21, _, _, _, _, _⟩) (v := ?bgv5) rfl (by kernel_rfl) (by kernel_rfl) (by kernel_rfl) (fun _ _ _ h => h) (Or.inl ⟨by rfl, ?bghy5⟩) hHeld ?bgr5
  case bghy5 => (intro w hSw; (try dsimp only at hSw); go_simp; (try with_reducible rfl))
  (try simp only [Act.put, List.setIfInBounds_toArray, List.set_cons_zero, List.set_cons_succ])
  refine wpAnyH_take (i := 6) (oi := ⟨some 22, _, _, _, _, _⟩) (v := (.slice da dn dc)) rfl (by kernel_rfl) (by kernel_rfl) (by kernel_rfl) (fun _ _ _ h => h) (kn_yields_cell (by rfl) 22 _ rfl g 20 rfl _ (fun _ h => h) _ Try.underlying22 rfl) hHeld ?bgr6
  (try simp only [Act.put, List.setIfInBounds_toArray, List.set_cons_zero, List.set_cons_succ])
  refine wpAnyH_ready (rs := [2]) (by kernel_rfl) (by simp) ?bgc2
  refine AllReadyH.cons (o := ⟨some 18, _, _, _, _, _⟩) rfl (fun K hK => ?bgst2) AllReadyH.nil
  go_simp
  (refine (electors_any (SyncRd.of KN (by repeat (first | exact Has.here | refine Has.there ?_)) HM.out HD.out (SM.out _) (SD.out _) LM.out LD.out) HV.out).mono ?_; rintro e wx ⟨v1, rfl, hr1, hb⟩; have HR1 := Lib.hid hr1; replace KN := KN.below hb; clear hb hr1)
  refine hK.out _ _ ?bgk2 (fun hHeld2 => ?bgm2)
  case bgk2 => exact KN.cell (g := g) (o := 20) (by repeat (first | exact Has.here | refine Has.there ?_)) rfl
  clear hK K hHeld
  have hHeld := hHeld2; clear hHeld2
  (try simp only [Act.put, List.setIfInBounds_toArray, List.set_cons_zero, List.set_cons_succ])
  refine wpAnyH_ready (rs := [7]) (by kernel_rfl) (by simp) ?bgc7
  refine AllReadyH.cons (o := ⟨some 23, _, _, _, _, _⟩) rfl (fun K hK => ?bgst7) AllReadyH.nil
  go_simp
  (refine (exclude_any (outv := .slice da dn dc) HR1.out LM.out (HD.out.row (f := fun o => o) (KN.sub (SD.out _)) .id)).mono ?_; rintro e wx ⟨v2, oe, rfl, O2, K2⟩; obtain ⟨xa, xn, xc, rfl, hxn⟩ := O2.form4; have HE := Lib.hid O2; have HXN := Lib.hid hxn; replace KN := (KN.call0 K2).perm List.perm_append_comm; clear K2 O2 hxn; simp only [List.cons_append] at KN)
  refine hK.out _ _ ?bgk7 (fun hHeld2 => ?bgm7)
  case bgk7 => exact KN.cell (g := g) (o := 20) (by repeat (first | exact Has.here | refine Has.there ?_)) rfl
  clear hK K hHeld
  have hHeld := hHeld2; clear hHeld2
  (try simp only [Act.put, List.setIfInBounds_toArray, List.set_cons_zero, List.set_cons_succ])
  refine wpAnyH_take (i := 8) (oi := ⟨some 24, _, _, _, _, _⟩) (v := ?bgv8) rfl (by kernel_rfl) (by kernel_rfl) (by kernel_rfl) (fun _ _ _ h => h) (Or.inl ⟨by rfl, ?bghy8⟩) hHeld ?bgr8
  case bghy8 => (intro w hSw; (try dsimp only at hSw); go_simp; (try with_reducible rfl))
  (try simp only [Act.put, List.setIfInBounds_toArray, List.set_cons_zero, List.set_cons_succ])
  refine wpAnyH_take (i := 9) (oi := ⟨some 25, _, _, _, _, _⟩) (v := ?bgv9) rfl (by kernel_rfl) (by kernel_rfl) (by kernel_rfl) (fun _ _ _ h => h) (Or.inl ⟨by rfl, ?bghy9⟩) hHeld ?bgr9
  case bghy9 => (intro w hSw; (try dsimp only at hSw); go_simp; (try with_reducible rfl))
  (try simp only [Act.put, List.setIfInBounds_toArray, List.set_cons_zero, List.set_cons_succ])
  refine wpAnyH_ready (rs := [10]) (by kernel_rfl) (by simp) ?bgc10
  refine AllReadyH.cons (o := ⟨none, _, _, _, _, _⟩) rfl (fun K hK => ?bgst10) AllReadyH.nil
  (rw [if_pos (by rfl)]; refine wp_kn_store1 KN 22 _ _ rfl g 26 rfl (.slice xa xn xc) rfl rfl _ 98 (by repeat (first | exact Repl.here | apply Repl.there)) (by (try simp only [Array.size_setIfInBounds, putL_size]); first | exact Nat.le_of_ble_eq_true rfl | (simp; omega)) (by kernel_rfl) (by rfl) ?_; clear KN; intro wx KN)
  refine hK.out _ _ ?bgk10 (fun hHeld2 => ?bgm10)
  case bgk10 => exact KN.cell (g := g) (o := 20) (by repeat (first | exact Has.here | refine Has.there ?_)) rfl
  clear hK K hHeld
  have hHeld := hHeld2; clear hHeld2
  (try simp only [Act.put, List.setIfInBounds_toArray, List.set_cons_zero, List.set_cons_succ])
  refine wpAnyH_done (by kernel_rfl) ?bgdone _
  go_upto_block 0 with (first | ((with_reducible refine wpList_gate ?_); first | ((with_reducible refine gate_load ?_ ?_); rfl; first | (refine ks_load1 KN 3 Try.underlying3 ?_) | (refine ks_load1 KN 22 Try.underlying22 ?_)) | ((with_reducible refine gate_store ?_ ?_); rfl; first | (refine ks_store1 KN 3 ?_; clear KN; intro wx KN) | (refine ks_store1 KN 96 ?_; clear KN; intro wx KN) | (refine ks_store1 KN 22 ?_; clear KN; intro wx KN) | (refine ks_store1 KN 24 ?_; clear KN; intro wx KN))))
  (try go_frame)
  replace KN := KN.as_ g (syncA vn rg m o ⟨da, dn, dc⟩ wt ⟨xa, xn, xc⟩ 1 (num + 1)) (by repeat (first | exact Repl.here | apply Repl.there)) (by kernel_rfl)
  obtain ⟨l, hl⟩ : ∃ l, l = keepL dd mem := ⟨_, rfl⟩
  have HL := Lib.hid hl
  rw [← hl] at HE HXN
  have hxl : xn = l.length := by have := HXN.out; rw [List.length_map] at this; exact this
  have HXL := Lib.hid hxl
  have hl6 : xn ≤ 1000000 := by rw [hxl, hl]; exact Nat.le_trans (keepL_le _ _) LM.out
  clear hl hxl
  go_wp2_with fail
  go_loopw [3, 5, 37] (fun s3 _ i wr => BgR g vn rg m o ⟨da, dn, dc⟩ wt ⟨xa, xn, xc⟩ num mem dd omx od oe W s3 i wr) (fun _ _ i _ => xn - (intOf i).toNat)
  case atStart => exact ⟨0, [], [], rfl, Nat.zero_le _, .nil, ⟨by rw [List.take_zero]; rfl, fun i c h => by simp at h⟩, by rw [List.append_nil]; exact KN⟩
  case round =>
    clear KN
    obtain ⟨k, rows, ol, rfl, hk, OW, hmr, KN⟩ := hrel
    rw [← HL.out] at hk hmr
    have HO := Lib.hid OW
    have HMR := Lib.hid hmr
    obtain ⟨ra, rn, rc, rfl⟩ := OW.form3
    clear OW hmr
    rw [← HXL.out] at hk
    by_cases hlt : k < xn
    · obtain ⟨x, hx⟩ : ∃ x, l[k]? = some x := ⟨_, List.getElem?_eq_getElem (by rw [← HXL.out]; exact hlt)⟩
      have hrow := HE.out.row (f := fun o => o) (KN.sub (List.Sublist.cons _ ((List.sublist_append_right _ _).trans (List.sublist_append_left _ _)))) .id
      obtain ⟨_, _, hv9, _, hc⟩ := ints_form hrow
      simp only [Value.slice.injEq] at hv9
      obtain ⟨g1, off, hge, hg1, hc1, hc2, hcell⟩ := hc k x hx
      obtain ⟨hv1, hv2, hv3⟩ := hv9
      subst hv1
      subst hge
      subst hv3
      have hc1' : xn ≤ xc := by rw [HXL.out]; exact hc1
      unfold maxLen at hc2
      have HX := Lib.hid hx
      have HRN : Hid (rows.length = k) := Lib.hid (by have := HMR.out.1; rw [List.length_take, ← HXL.out] at this; omega)
      have SDD : Hid (∀ z : Nat × (Obj → Prop), od.Sublist (z :: (((omx ++ od) ++ oe) ++ ol))) := Lib.hid (fun z => List.Sublist.cons _ (((List.sublist_append_right _ _).trans (List.sublist_append_left _ _)).trans (List.sublist_append_left _ _)))
      clear hc hc1 hv2 hx hrow
      go_upto_region 9 with (first | ((with_reducible refine wpList_gate ?_); first | ((with_reducible refine gate_load ?_ ?_); rfl; first | (refine ks_load1 KN 3 Try.underlying3 ?_) | (refine ks_load1 KN 22 Try.underlying22 ?_)) | ((with_reducible refine gate_store ?_ ?_); rfl; first | (refine ks_store1 KN 3 ?_; clear KN; intro wx KN) | (refine ks_store1 KN 96 ?_; clear KN; intro wx KN) | (refine ks_store1 KN 22 ?_; clear KN; intro wx KN) | (refine ks_store1 KN 24 ?_; clear KN; intro wx KN))))
      clear hcell
      (try go_frame)
      replace KN := KN.drew
      refine wp_region_held_drew (S := (fun w' => w'.cell? ⟨g, 20, none⟩ = some (.slice da dn dc) ∧ w'.cell? ⟨g, 24, none⟩ = some (.int .i64 (num + 1)))) (by kernel_rfl) ?bhhS (fun hHeld => ?bhrest)
      case bhhS => exact ⟨KN.cell (g := g) (o := 20) (by repeat (first | exact Has.here | refine Has.there ?_)) rfl, KN.cell (g := g) (o := 24) (by repeat (first | exact Has.here | refine Has.there ?_)) rfl⟩
      refine wpAnyH_take (i := 0) (oi := ⟨some 41, _, _, _, _, _⟩) (v := ?bhv0) rfl (by kernel_rfl) (by kernel_rfl) (by kernel_rfl) (fun _ _ _ h => h) (Or.inl ⟨by rfl, ?bhhy0⟩) hHeld ?bhr0
      case bhhy0 => (intro w hSw; (try dsimp only at hSw); go_simp; (try with_reducible rfl))
      (try simp only [Act.put, List.setIfInBounds_toArray, List.set_cons_zero, List.set_cons_succ])
      refine wpAnyH_take (i := 1) (oi := ⟨some 42, _, _, _, _, _⟩) (v := ?bhv1) rfl (by kernel_rfl) (by kernel_rfl) (by kernel_rfl) (fun _ _ _ h => h) (Or.inl ⟨by rfl, ?bhhy1⟩) hHeld ?bhr1
      case bhhy1 => (intro w hSw; (try dsimp only at hSw); go_simp; (try with_reducible rfl))
      (try simp only [Act.put, List.setIfInBounds_toArray, List.set_cons_zero, List.set_cons_succ])
      refine wpAnyH_take (i := 2) (oi := ⟨some 43, _, _, _, _, _⟩) (v := ?bhv2) rfl (by kernel_rfl) (by kernel_rfl) (by kernel_rfl) (fun _ _ _ h => h) (Or.inl ⟨by rfl, ?bhhy2⟩) hHeld ?bhr2
      case bhhy2 => (intro w hSw; (try dsimp only at hSw); go_simp; (try with_reducible rfl))
      (try simp only [Act.put, List.setIfInBounds_toArray, List.set_cons_zero, List.set_cons_succ])
      refine wpAnyH_take (i := 3) (oi := ⟨some 44, _, _, _, _, _⟩) (v := ?bhv3) rfl (by kernel_rfl) (by kernel_rfl) (by kernel_rfl) (fun _ _ _ h => h) (Or.inl ⟨by rfl, ?bhhy3⟩) hHeld ?bhr3
      case bhhy3 => (intro w hSw; (try dsimp only at hSw); go_simp; (try with_reducible rfl))
      (try simp only [Act.put, List.setIfInBounds_toArray, List.set_cons_zero, List.set_cons_succ])
      refine wpAnyH_take (i := 4) (oi := ⟨some 45, _, _, _, _, _⟩) (v := ?bhv4) rfl (by kernel_rfl) (by kernel_rfl) (by kernel_rfl) (fun _ _ _ h => h) (Or.inl ⟨by rfl, ?bhhy4⟩) hHeld ?bhr4
      case bhhy4 => (intro w hSw; (try dsimp only at hSw); go_simp; (try with_reducible rfl))
      (try simp only [Act.put, List.setIfInBounds_toArray, List.set_cons_zero, List.set_cons_succ])
      refine wpAnyH_take (i := 5) (oi := ⟨some 46, _, _, _, _, _⟩) (v := (.int .i64 (num + 1))) rfl (by kernel_rfl) (by kernel_rfl) (by kernel_rfl) (fun _ _ _ h => h) (kn_yields_cell (by rfl) 3 _ rfl g 24 rfl _ (fun _ h => h.2) _ Try.underlying3 rfl) hHeld ?bhr5
      (try simp only [Act.put, List.setIfInBounds_toArray, List.set_cons_zero, List.set_cons_succ])
      refine wpAnyH_take (i := 6) (oi := ⟨some 47, _, _, _, _, _⟩) (v := ?bhv6) rfl (by kernel_rfl) (by kernel_rfl) (by kernel_rfl) (fun _ _ _ h => h) (Or.inl ⟨by rfl, ?bhhy6⟩) hHeld ?bhr6
      case bhhy6 => (intro w hSw; (try dsimp only at hSw); go_simp; (try with_reducible rfl))
      (try simp only [Act.put, List.setIfInBounds_toArray, List.set_cons_zero, List.set_cons_succ])
      refine wpAnyH_take (i := 7) (oi := ⟨some 48, _, _, _, _, _⟩) (v := ?bhv7) rfl (by kernel_rfl) (by kernel_rfl) (by kernel_rfl) (fun _ _ _ h => h) (Or.inl ⟨by rfl, ?bhhy7⟩) hHeld ?bhr7
      case bhhy7 => (intro w hSw; (try dsimp only at hSw); go_simp; (try with_reducible rfl))
      (try simp only [Act.put, List.setIfInBounds_toArray, List.set_cons_zero, List.set_cons_succ])
      refine wpAnyH_take (i := 8) (oi := ⟨some 49, _, _, _, _, _⟩) (v := ?bhv8) rfl (by kernel_rfl) (by kernel_rfl) (by kernel_rfl) (fun _ _ _ h => h) (Or.inl ⟨by rfl, ?bhhy8⟩) hHeld ?bhr8
      case bhhy8 => (intro w hSw; (try dsimp only at hSw); go_simp; (try with_reducible rfl))
      (try simp only [Act.put, List.setIfInBounds_toArray, List.set_cons_zero, List.set_cons_succ])
      refine wpAnyH_take (i := 9) (oi := ⟨some 50, _, _, _, _, _⟩) (v := (.slice da dn dc)) rfl (by kernel_rfl) (by kernel_rfl) (by kernel_rfl) (fun _ _ _ h => h) (kn_yields_cell (by rfl) 22 _ rfl g 20 rfl _ (fun _ h => h.1) _ Try.underlying22 rfl) hHeld ?bhr9
      (try simp only [Act.put, List.setIfInBounds_toArray, List.set_cons_zero, List.set_cons_succ])
      refine wpAnyH_ready (rs := [10]) (by kernel_rfl) (by simp) ?bhc10
      refine AllReadyH.cons (o := ⟨some 51, _, _, _, _, _⟩) rfl (fun K hK => ?bhst10) AllReadyH.nil
      go_simp
      (refine (Clone_any (v := .slice da dn dc) (HD.out.row (f := fun o => o) (KN.sub (SDD.out _)) .id) LD.out).mono ?_; rintro e wx ⟨v1, oc1, rfl, O1, K2, _⟩; obtain ⟨ca, cn, cc, rfl, hcn⟩ := O1.form4; have HCN := Lib.hid hcn; replace KN := KN.below K2.toBelow; clear K2 O1 hcn)
      refine hK.out _ _ ?bhk10 (fun hHeld2 => ?bhm10)
      case bhk10 => exact ⟨KN.cell (g := g) (o := 20) (by repeat (first | exact Has.here | refine Has.there ?_)) rfl, KN.cell (g := g) (o := 24) (by repeat (first | exact Has.here | refine Has.there ?_)) rfl⟩
      clear hK K hHeld
      have hHeld := hHeld2; clear hHeld2
      (try simp only [Act.put, List.setIfInBounds_toArray, List.set_cons_zero, List.set_cons_succ])
      refine wpAnyH_take (i := 11) (oi := ⟨some 52, _, _, _, _, _⟩) (v := (.agg (msgA x (num + 1) ⟨ca, cn, cc⟩))) rfl (by kernel_rfl) (by kernel_rfl) (by kernel_rfl) (fun _ _ _ h => h) (Or.inl ⟨by rfl, ?bhhy11⟩) hHeld ?bhr11
      case bhhy11 => (intro w hSw; (try dsimp only at hSw); go_simp; (try rfl))
      (try simp only [Act.put, List.setIfInBounds_toArray, List.set_cons_zero, List.set_cons_succ])
      refine wpAnyH_ready (rs := [12]) (by kernel_rfl) (by simp) ?bhc12
      refine AllReadyH.cons (o := ⟨some 53, _, _, _, _, _⟩) rfl (fun K hK => ?bhst12) AllReadyH.nil
      (rw [if_pos (by rfl)]; refine wp_kn_buildSlice KN 53 1 _ rfl 53 rfl 69 (msgA x (num + 1) ⟨ca, cn, cc⟩) (by kernel_rfl) ?_; clear KN; intro g53 wx hg53 KN)
      refine hK.out _ _ ?bhk12 (fun hHeld2 => ?bhm12)
      case bhk12 => exact ⟨KN.cell (g := g) (o := 20) (by repeat (first | exact Has.here | refine Has.there ?_)) rfl, KN.cell (g := g) (o := 24) (by repeat (first | exact Has.here | refine Has.there ?_)) rfl⟩
      clear hK K hHeld
      have hHeld := hHeld2; clear hHeld2
      (try simp only [Act.put, List.setIfInBounds_toArray, List.set_cons_zero, List.set_cons_succ])
      refine wpAnyH_ready (rs := [13]) (by kernel_rfl) (by simp) ?bhc13
      refine AllReadyH.cons (o := ⟨some 54, _, _, _, _, _⟩) rfl (fun K hK => ?bhst13) AllReadyH.nil
      (rw [if_pos (by rfl)]; refine wp_kn_append1 KN HO.out _ _ 53 rfl 1056 Try.underlying53 (by kernel_rfl) (by decide) rfl 1 rfl rfl (by kernel_rfl) (by rw [HRN.out]; unfold maxLen; omega) (by rw [HRN.out]; omega) (f := fun o => (g, _) :: (((omx ++ od) ++ oe) ++ o)) (.cons _ (.app .id _)) rfl ?_; clear KN; intro v54 wx ol54 OW54 KN; have HO54 := Lib.hid OW54; clear OW54)
      refine hK.out _ _ ?bhk13 (fun hHeld2 => ?bhm13)
      case bhk13 => exact ⟨KN.cell (g := g) (o := 20) (by repeat (first | exact Has.here | refine Has.there ?_)) rfl, KN.cell (g := g) (o := 24) (by repeat (first | exact Has.here | refine Has.there ?_)) rfl⟩
      clear hK K hHeld
      have hHeld := hHeld2; clear hHeld2
      (try simp only [Act.put, List.setIfInBounds_toArray, List.set_cons_zero, List.set_cons_succ])
      refine wpAnyH_take (i := 14) (oi := ⟨some 3, _, _, _, _, _⟩) (v := ?bhv14) rfl (by kernel_rfl) (by kernel_rfl) (by kernel_rfl) (fun _ _ _ h => h) (Or.inl ⟨by rfl, ?bhhy14⟩) hHeld ?bhr14
      case bhhy14 => (intro w hSw; (try dsimp only at hSw); go_simp; (try with_reducible rfl))
      (try simp only [Act.put, List.setIfInBounds_toArray, List.set_cons_zero, List.set_cons_succ])
      refine wpAnyH_done (by kernel_rfl) ?bhdone _
      go_wp2_with fail
      go_roundw
      case rel => exact ⟨k + 1, _, ol54, by go_num, by rw [← HL.out, ← HXL.out]; omega, HO54.out, by rw [← HL.out, take_snocI HX.out]; exact HMR.out.snoc _ _ _ (by have := HCN.out; rw [List.length_map] at this; exact this), KN⟩
      case measure => simp [intOf]; omega
    · have hkl : k = xn := by omega
      have HF : Hid (MsgRows rows (keepL dd mem) dd.length) := Lib.hid (by
        have := HMR.out
        rw [List.take_of_length_le (by rw [← HXL.out]; omega), HL.out] at this
        exact this)
      go_wp2_with fail
      go_ret
      exact ⟨_, rows, ol, ⟨xa, xn, xc⟩, rfl, HO.out, HF.out, KN.pick (List.Sublist.cons_cons _ (List.Sublist.append (List.sublist_append_left _ _) (List.Sublist.refl _)))⟩
end Go.Proofs.Ytpjejaoobbancaa
