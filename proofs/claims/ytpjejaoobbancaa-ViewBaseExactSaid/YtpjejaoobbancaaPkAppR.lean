/- append(s, xs...) onto a slice of the call's own, the source any slice. Nothing of the program is imported. -/
import Derived.Test.YtpjejaoobbancaaPkKnAll
set_option linter.unusedVariables false
set_option linter.unusedSimpArgs false
set_option linter.unusedSectionVars false
namespace Go.Proofs.Ytpjejaoobbancaa
open Go Go.RowKit Go.BigFrame
section
variable {P : Program} {ops : Array Oper} {rest : List Oper} {op : Oper} {a : Act} {w W : World} {K : Act → World → Prop} {Q : Exit → Act → World → Prop} {M : List Nat} {l : Ents} {f : Ents → Ents} {ol : Ents} {e E : TypeId} {sz : Nat} {v : Value} {L : List (List Value)}
theorem wp_kn_appendR (KN : Kn M W w l) (OW : OwnT e sz v L ol) (s x : Operand) (t : TypeId) (ho : op.op = .call { callee := .builtin .append, args := #[s, x], argTypes := #[t, t] })
    (bytes : Nat) (ht : P.underlying t = some (.slice e)) (hinfo : (P.info? e).map (fun i => (i.size, i.bytes, i.zero.map (·.cells.size))) = some (sz, bytes, some sz)) (hsz : 0 < sz)
    (hs : a.eval s = v) (vx : Value) (hx : a.eval x = vx) (X : List (List Value)) (hr : Row w vx sz X) (hXl : ∀ c ∈ X, c.length = sz)
    (h1 : ∀ c ∈ X, ∀ u ∈ c, u.oneCell' = true) (hm : L.length + X.length ≤ maxLen) (hb : (L.length + X.length) * bytes ≤ 140737488355328)
    (hf : TailF f) (hl : f ol = l) (h : ∀ v' w' ol', OwnT e sz v' (L ++ X) ol' → Kn M W w' (f ol') → K (a.put op.dst v') w') : op.wp P a w K Q := by
  have h1' : ∀ u ∈ X.flatten, u.oneCell' = true := fun u hu => by
    obtain ⟨d, hd, hud⟩ := List.mem_flatten.1 hu
    exact h1 d hd u hud
  obtain ⟨i, z, hi, hz, hsize, hby, hzs⟩ := info_of hinfo
  have go : ∀ (ad : Addr) (m c : Nat), vx = .slice (some ad) m c → m = X.length → (∀ j u, X.flatten[j]? = some u → w.cell? (ad.add j) = some u) → op.wp P a w K Q := by
    intro ad m c hv hmX hc
    subst hl
    have hrow := OW.owns KN hf
    obtain ⟨v', w', hrun, h2, h3, _, h5⟩ := run_append_own_at (P := P) w 0 t op.type e i z sz bytes ht hi hz hsize hby hzs hsz v L.length L.flatten hrow ad m c X.flatten (by rw [flat_len sz X hXl, hmX]) hc h1' (by omega) (by rw [hmX]; exact hb) (Nat.zero_le _)
    have hfl : L.flatten ++ X.flatten = (L ++ X).flatten := by simp
    rw [hfl] at h2
    obtain ⟨ol', OW', hk⟩ := OwnT.of_owns (n := L.length + m) (fun c' hc' => by
      rcases List.mem_append.1 hc' with h | h
      · exact OW.len c' h
      · exact hXl c' h) (by rw [List.length_append, hmX]) h2
    unfold Oper.wp execOp
    simp only [ho, resolve, invoke, builtin, Sem.run_bind, Sem.run_pure, Result.andThen_ok, List.map_toArray, List.map_cons, List.map_nil, hs, hx, hv, hrun]
    refine h v' w' ol' OW' (KN.grown hf OW' h3 OW.block fun g Φ hg => ?_)
    obtain ⟨k1, k2⟩ := hk g Φ hg
    refine ⟨k1, ?_⟩
    rcases h5 with h5 | h5
    · exact .inl (h5 ▸ k2)
    · rw [h5] at k2; exact .inr (by simpa using k2.symm)
  rcases hr.2 with ⟨rfl, ad, c, hv⟩ | ⟨g, off, cap, hv, h0, _, _, _, hc⟩
  · cases ad with
    | some ad => exact go ad 0 c hv rfl (fun j u h => by simp at h)
    | none =>
      have hrun : (Builtin.append_ #[t, t] op.type #[v, .slice none 0 c]).run P w = .ok v w := by
        cases OW with
        | nil => simp [Builtin.append_, run_underlying ht, sizeOf, typeInfo, hi, Builtin.lenOf, Builtin.firstCells]
        | @blk g cap L hn hc hl' => simp [Builtin.append_, run_underlying ht, sizeOf, typeInfo, hi, Builtin.lenOf, Builtin.firstCells, hn, storeCells]
      unfold Oper.wp execOp
      simp only [ho, resolve, invoke, builtin, Sem.run_bind, Sem.run_pure, Result.andThen_ok, List.map_toArray, List.map_cons, List.map_nil, hs, hx, hv, hrun]
      exact h v w ol (by rw [List.append_nil]; exact OW) (by rw [hl]; exact KN)
  · refine go _ _ cap hv rfl (fun k u hu => ?_)
    obtain ⟨c, h1', h2'⟩ := flat_at sz hsz X hXl k u hu
    have := hc (k / sz) c (k % sz) u h1' h2'
    rw [Addr.add_mid]
    rwa [show off + k / sz * sz + k % sz = off + k from by have := Nat.div_add_mod' k sz; omega] at this
theorem wpList_kn_appendR (KN : Kn M W w l) (OW : OwnT e sz v L ol) (hw : Region.wanted op (yielded ops a.tmps) = true) (s x : Operand) (t : TypeId) (ho : op.op = .call { callee := .builtin .append, args := #[s, x], argTypes := #[t, t] })
    (bytes : Nat) (ht : P.underlying t = some (.slice e)) (hinfo : (P.info? e).map (fun i => (i.size, i.bytes, i.zero.map (·.cells.size))) = some (sz, bytes, some sz)) (hsz : 0 < sz)
    (hs : a.eval s = v) (vx : Value) (hx : a.eval x = vx) (X : List (List Value)) (hr : Row w vx sz X) (hXl : ∀ c ∈ X, c.length = sz)
    (h1 : ∀ c ∈ X, ∀ u ∈ c, u.oneCell' = true) (hm : L.length + X.length ≤ maxLen) (hb : (L.length + X.length) * bytes ≤ 140737488355328)
    (hf : TailF f) (hl : f ol = l) (h : ∀ v' w' ol', OwnT e sz v' (L ++ X) ol' → Kn M W w' (f ol') → wpList P ops Q rest (a.put op.dst v') w') : wpList P ops Q (op :: rest) a w :=
  wpList_want hw fun _ hK => wp_kn_appendR KN OW s x t ho bytes ht hinfo hsz hs vx hx X hr hXl h1 hm hb hf hl fun v' w' ol' h1 h2 => hK _ _ (h v' w' ol' h1 h2)
/-- A slice literal in a region that draws its order. -/
theorem wp_kn_buildSlice (KN : Kn M W w l) (t : TypeId) (len : Nat) (parts : Array (Nat × Operand)) (ho : op.op = .buildSlice t len parts) (d : Tmp) (hd : op.dst = some d)
    (e : TypeId) (cs : Array Value) (hrun : (Instr.buildSlice t len (parts.map fun (i, x) => (i, a.eval x))).run P w = .ok (.slice (some ⟨w.heap.size, 0, none⟩) len len) (w.alloc (.cells cs e)))
    (h : ∀ g w', W.heap.size ≤ g → Kn M W w' ((g, At cs e) :: l) → K (a.put (some d) (.slice (some ⟨g, 0, none⟩) len len)) w') : op.wp P a w K Q := by
  unfold Oper.wp execOp
  simp only [ho, Sem.run_bind, hrun, Result.andThen_ok, Sem.run_pure]
  rw [Oper.upon_value, hd]
  exact h _ _ KN.size (KN.alloc (.cells cs e) rfl)
theorem OwnT.form3 (h : OwnT e sz v L ol) : ∃ a n c, v = .slice a n c := by
  obtain ⟨a, c, h⟩ := h.form
  exact ⟨a, _, c, h⟩
theorem OwnT.form4 (h : OwnT e sz v L ol) : ∃ a n c, v = .slice a n c ∧ n = L.length := by
  obtain ⟨a, c, h⟩ := h.form
  exact ⟨a, _, c, h, rfl⟩
end
abbrev intRows (l : List Int) : List (List Value) := l.map fun z => [Value.int .i64 z]
theorem intRows_len (l : List Int) : ∀ c ∈ intRows l, c.length = 1 := by intro c hc; obtain ⟨x, _, rfl⟩ := List.mem_map.1 hc; rfl
theorem intRows_one (l : List Int) : ∀ c ∈ intRows l, ∀ u ∈ c, u.oneCell' = true := by
  intro c hc u hu
  obtain ⟨x, _, rfl⟩ := List.mem_map.1 hc
  have : u = .int .i64 x := by simpa using hu
  subst this; rfl
theorem intRows_snoc (l : List Int) (z : Int) : intRows l ++ [[Value.int .i64 z]] = intRows (l ++ [z]) := by simp [intRows]
theorem ints_form {w : World} {v : Value} {l : List Int} (h : Row w v 1 (intRows l)) : ∃ a c, v = .slice a l.length c ∧ l.length ≤ maxLen ∧ (∀ (k : Nat) (z : Int), l[k]? = some z → ∃ g off, a = some ⟨g, off, none⟩ ∧ g < w.heap.size ∧ l.length ≤ c ∧ c ≤ maxLen ∧
    w.cell? ⟨g, off + k, none⟩ = some (.int .i64 z)) := by
  have hm := h.1
  rw [List.length_map] at hm
  rcases h.2 with ⟨h0, a, c, rfl⟩ | ⟨b, off, cap, hv, h0, hl, hmm, hb, hc⟩
  · have : l = [] := by simpa using h0
    subst this
    exact ⟨a, c, rfl, by simp, fun k x hx => by simp at hx⟩
  · simp only [List.length_map] at hv hl
    refine ⟨_, _, hv, hm, fun k z hz => ⟨b, off, rfl, hb, hl, hmm, ?_⟩⟩
    have g := hc k [.int .i64 z] 0 (.int .i64 z) (by rw [List.getElem?_map, hz]; rfl) rfl
    simpa using g
end Go.Proofs.Ytpjejaoobbancaa
