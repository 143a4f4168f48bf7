/- A slice of the call's own that grows, among the known blocks. Nothing of the program is imported. -/
import Derived.Test.YtbllialcfmpkaaaKn2
set_option linter.unusedVariables false
set_option linter.unusedSimpArgs false
set_option linter.unusedSectionVars false
namespace Go.Proofs.Ytbllialcfmpkaaa
open Go Go.RowKit Go.BigFrame

/-- The block of a slice that grows: room for cap elements, the first ones are those of L. -/
def CapAt (e : TypeId) (sz cap : Nat) (L : List (List Value)) : Obj → Prop := fun o => ∃ cur : Array Value, o = .cells cur e ∧ cur.size = cap * sz ∧ cur.toList.take (L.length * sz) = L.flatten
/-- A slice of the call's own and its entry among the known blocks (none as long as it is nil). -/
inductive OwnT (e : TypeId) (sz : Nat) : Value → List (List Value) → Ents → Prop
  | nil : OwnT e sz (.slice none 0 0) [] []
  | blk {g cap : Nat} {L : List (List Value)} (hn : L.length ≤ cap) (hc : cap ≤ maxLen) (hl : ∀ c ∈ L, c.length = sz) : OwnT e sz (.slice (some ⟨g, 0, none⟩) L.length cap) L [(g, CapAt e sz cap L)]
/-- This function lays entries ahead of a list. -/
inductive TailF : (Ents → Ents) → Prop
  | id : TailF fun o => o
  | cons {f : Ents → Ents} (x : Nat × (Obj → Prop)) : TailF f → TailF fun o => x :: f o
section
variable {e : TypeId} {sz : Nat} {v : Value} {L : List (List Value)} {ol : Ents} {M : List Nat} {W w w' : World} {l : Ents} {f : Ents → Ents}
theorem OwnT.len (h : OwnT e sz v L ol) : ∀ c ∈ L, c.length = sz := by
  cases h with
  | nil => simp
  | blk _ _ hl => exact hl
theorem OwnT.form (h : OwnT e sz v L ol) : ∃ a c, v = .slice a L.length c := by
  cases h with
  | nil => exact ⟨_, _, rfl⟩
  | blk => exact ⟨_, _, rfl⟩
theorem OwnT.pos (h : OwnT e sz v L ol) (h0 : 1 ≤ L.length) : ∃ g cap, v = .slice (some ⟨g, 0, none⟩) L.length cap ∧ L.length ≤ cap ∧ cap ≤ maxLen ∧ ol = [(g, CapAt e sz cap L)] := by
  cases h with
  | nil => simp at h0
  | blk hn hc _ => exact ⟨_, _, rfl, hn, hc, rfl⟩
theorem OwnT.max (h : OwnT e sz v L ol) : L.length ≤ maxLen := by
  cases h with
  | nil => simp
  | blk hn hc _ => omega
theorem TailF.has (hf : TailF f) {g : Nat} {Φ : Obj → Prop} (h : Has ol g Φ) : Has (f ol) g Φ := by
  induction hf with
  | id => exact h
  | cons x _ ih => exact .there ih
theorem TailF.keys (hf : TailF f) (ol : Ents) : ∃ ks, ∀ o, (f o).map (·.1) = ks ++ o.map (·.1) := by
  induction hf with
  | id => exact ⟨[], fun _ => rfl⟩
  | @cons f x _ ih =>
    obtain ⟨ks, h⟩ := ih
    exact ⟨x.1 :: ks, fun o => by simp [h o]⟩
theorem TailF.split (hf : TailF f) {ol' : Ents} {k : Nat} {Ψ : Obj → Prop} (h : Has (f ol') k Ψ) : Has ol' k Ψ ∨ (∀ o, Has (f o) k Ψ) := by
  induction hf with
  | id => exact .inl h
  | @cons f x _ ih =>
    cases h with
    | here => exact .inr fun o => .here
    | there h =>
      rcases ih h with h | h
      · exact .inl h
      · exact .inr fun o => .there (h o)
/-- The entries' tail is that of the slice that has grown. -/
theorem Kn.grown (KN : Kn M W w (f ol)) (hf : TailF f) {v' : Value} {L' : List (List Value)} {ol' : Ents} (h' : OwnT e sz v' L' ol')
    (hg : w.grownBy w' v.ownBlock) (hv : ∀ g, v.ownBlock = some g → ∃ Φ, ol = [(g, Φ)])
    (hk : ∀ g Φ, ol' = [(g, Φ)] → (∃ o, w'.heap[g]? = some o ∧ Φ o) ∧ (v.ownBlock = some g ∨ g = w.heap.size)) : Kn M W w' (f ol') := by
  obtain ⟨ks, hks⟩ := hf.keys ol
  have ap := KN.apart
  rw [hks ol, List.nodup_append] at ap
  have own : ∀ k Ψ, (∀ o, Has (f o) k Ψ) → some k ≠ v.ownBlock := by
    intro k Ψ hh he
    obtain ⟨Φ, rfl⟩ := hv k he.symm
    have h1 : k ∈ (f []).map (·.1) := (hh []).key
    rw [hks [], List.map_nil, List.append_nil] at h1
    exact ap.2.2 k h1 k (by simp) rfl
  have old : ∀ g, v.ownBlock = some g → g ∈ M ∨ W.heap.size ≤ g := by
    intro g hvg
    obtain ⟨Φ, rfl⟩ := hv g hvg
    exact KN.fresh _ _ (hf.has .here)
  refine ⟨hg.os.trans KN.os, hg.tape.trans KN.tape, hg.output.trans KN.output, Nat.le_trans KN.size hg.size, fun k hkW hM => ?_, fun k Ψ hh => ?_, fun k Ψ hh => ?_, ?_⟩
  · rw [hg.block k (Nat.lt_of_lt_of_le hkW KN.size) ?_]
    · exact KN.frame k hkW hM
    · intro he
      rcases old k he.symm with h | h
      · exact hM h
      · omega
  · rcases hf.split hh with h | h
    · cases h' with
      | nil => cases h
      | blk =>
        cases h with
        | here => exact (hk _ _ rfl).1
        | there h => cases h
    · obtain ⟨o, ho, hΨ⟩ := KN.own k Ψ (h ol)
      exact ⟨o, (hg.block k (Array.getElem?_eq_some_iff.1 ho).1 (own k Ψ h)).trans ho, hΨ⟩
  · rcases hf.split hh with h | h
    · cases h' with
      | nil => cases h
      | blk =>
        cases h with
        | here =>
          rcases (hk _ _ rfl).2 with h | h
          · exact old _ h
          · exact .inr (h ▸ KN.size)
        | there h => cases h
    · exact KN.fresh k Ψ (h ol)
  · rw [hks ol', List.nodup_append]
    refine ⟨ap.1, ?_, ?_⟩
    · cases h' <;> simp
    · intro a ha b hb he
      subst he
      cases h' with
      | nil => simp at hb
      | blk =>
        simp at hb
        subst hb
        obtain ⟨_, hd⟩ := hk _ _ rfl
        rcases hd with hd | hd
        · obtain ⟨Φ, rfl⟩ := hv _ hd
          exact ap.2.2 _ ha _ (by simp) rfl
        · have : ∃ Ψ, Has (f ol) a Ψ := by
            have hm : a ∈ (f ol).map (·.1) := by rw [hks ol]; simp [ha]
            obtain ⟨x, hx, rfl⟩ := List.mem_map.1 hm
            exact ⟨x.2, Has.of_mem hx⟩
          obtain ⟨Ψ, hh⟩ := this
          have := KN.lt hh
          omega
theorem OwnT.owns (h : OwnT e sz v L ol) (KN : Kn M W w (f ol)) (hf : TailF f) : w.ownsRow 0 e sz v L.length L.flatten := by
  cases h with
  | nil => exact World.ownsRow_nil _ _ _ _
  | @blk g cap L hn hc hl =>
    obtain ⟨o, ho, cur, rfl, hs, ht⟩ := KN.own _ _ (hf.has .here)
    exact ⟨flat_len sz L hl, .inr ⟨g, cap, cur, rfl, Nat.zero_le _, ho, hn, hc, hs, ht⟩⟩
theorem OwnT.row (h : OwnT e sz v L ol) (KN : Kn M W w (f ol)) (hf : TailF f) : Row w v sz L := Row.of_own h.len rfl (h.owns KN hf)
theorem OwnT.block (h : OwnT e sz v L ol) : ∀ g, v.ownBlock = some g → ∃ Φ, ol = [(g, Φ)] := by
  intro g hg
  cases h with
  | nil => simp [Value.ownBlock] at hg
  | blk => simp [Value.ownBlock] at hg; subst hg; exact ⟨_, rfl⟩
theorem OwnT.of_owns {base n : Nat} (hl : ∀ c ∈ L, c.length = sz) (hn : n = L.length) (h : w.ownsRow base e sz v n L.flatten) : ∃ ol, OwnT e sz v L ol ∧ ∀ g Φ, ol = [(g, Φ)] → (∃ o, w.heap[g]? = some o ∧ Φ o) ∧ v.ownBlock = some g := by
  subst hn
  rcases h.2 with ⟨rfl, h0⟩ | ⟨g, cap, cur, rfl, _, hg, hnc, hcm, hcs, ht⟩
  · have : L = [] := List.eq_nil_of_length_eq_zero h0
    subst this
    exact ⟨[], .nil, fun _ _ h => by cases h⟩
  · refine ⟨_, .blk hnc hcm hl, fun g' Φ h => ?_⟩
    simp only [List.cons.injEq, Prod.mk.injEq, and_true] at h
    obtain ⟨rfl, rfl⟩ := h
    exact ⟨⟨_, hg, cur, rfl, hcs, ht⟩, rfl⟩
end
section
variable {P : Program} {ops : Array Oper} {rest : List Oper} {op : Oper} {a : Act} {w W : World} {K : Act → World → Prop} {Q : Exit → Act → World → Prop} {M : List Nat} {l : Ents} {f : Ents → Ents} {ol : Ents} {e E : TypeId} {sz : Nat} {v : Value} {L : List (List Value)} {gx : Nat} {cs : Array Value}
/-- append(s, x): the element lies in the block that was made last. -/
theorem wp_kn_append1 (KN : Kn M W w ((gx, At cs E) :: l)) (OW : OwnT e sz v L ol) (s x : Operand) (t : TypeId) (ho : op.op = .call { callee := .builtin .append, args := #[s, x], argTypes := #[t, t] })
    (bytes : Nat) (ht : P.underlying t = some (.slice e)) (hinfo : (P.info? e).map (fun i => (i.size, i.bytes, i.zero.map (·.cells.size))) = some (sz, bytes, some sz)) (hsz : 0 < sz)
    (hs : a.eval s = v) (c : Nat) (hx : a.eval x = .slice (some ⟨gx, 0, none⟩) 1 c) (hcs : cs.size = sz) (h1 : cs.all (·.oneCell') = true) (hm : L.length + 1 ≤ maxLen) (hb : (L.length + 1) * bytes ≤ 140737488355328)
    (hf : TailF f) (hl : f ol = l) (h : ∀ v' w' ol', OwnT e sz v' (L ++ [cs.toList]) ol' → Kn M W w' (f ol') → K (a.put op.dst v') w') : op.wp P a w K Q := by
  subst hl
  obtain ⟨i, z, hi, hz, hsize, hby, hzs⟩ : ∃ i z, P.info? e = some i ∧ i.zero = some z ∧ i.size = sz ∧ i.bytes = bytes ∧ z.cells.size = sz := by
    cases hq : P.info? e with
    | none => simp [hq] at hinfo
    | some i =>
      simp only [hq, Option.map_some, Option.some.injEq, Prod.mk.injEq] at hinfo
      obtain ⟨h1, h2, h3⟩ := hinfo
      cases hzz : i.zero with
      | none => simp [hzz] at h3
      | some z => exact ⟨i, z, rfl, hzz, h1, h2, by simpa [hzz] using h3⟩
  have KN1 : Kn M W w (f ol) := KN.drop .here
  have hrow := OW.owns KN1 hf
  have hblk := KN.at_ .here
  obtain ⟨v', w', hrun, h2, h3, _, h5⟩ := run_append_own_at (P := P) w 0 t op.type e i z sz bytes ht hi hz hsize hby hzs hsz v L.length L.flatten hrow ⟨gx, 0, none⟩ 1 c cs.toList (by simp [hcs])
    (fun j u hu => by rw [show ((⟨gx, 0, none⟩ : Addr).add j) = ⟨gx, j, none⟩ from by unfold Addr.add; split <;> simp_all, blk_cell hblk]; simpa using hu)
    (fun u hu => (Array.all_eq_true_iff_forall_mem.1 h1) u (by simpa using hu)) hm hb (Nat.zero_le _)
  have hfl : L.flatten ++ cs.toList = (L ++ [cs.toList]).flatten := by simp
  rw [hfl] at h2
  obtain ⟨ol', OW', hk⟩ := OwnT.of_owns (n := L.length + 1) (fun c' hc' => by
    rcases List.mem_append.1 hc' with h | h
    · exact OW.len c' h
    · simp at h; subst h; simpa using hcs) (by simp) h2
  unfold Oper.wp execOp
  simp only [ho, resolve, invoke, builtin, Sem.run_bind, Sem.run_pure, Result.andThen_ok, List.map_toArray, List.map_cons, List.map_nil, hs, hx, hrun]
  refine h v' w' ol' OW' (KN1.grown hf OW' h3 OW.block fun g Φ hg => ?_)
  obtain ⟨k1, k2⟩ := hk g Φ hg
  refine ⟨k1, ?_⟩
  rcases h5 with h5 | h5
  · exact .inl (h5 ▸ k2)
  · rw [h5] at k2; exact .inr (by simpa using k2.symm)
theorem wpList_kn_append1 (KN : Kn M W w ((gx, At cs E) :: l)) (OW : OwnT e sz v L ol) (hw : Region.wanted op (yielded ops a.tmps) = true) (s x : Operand) (t : TypeId) (ho : op.op = .call { callee := .builtin .append, args := #[s, x], argTypes := #[t, t] })
    (bytes : Nat) (ht : P.underlying t = some (.slice e)) (hinfo : (P.info? e).map (fun i => (i.size, i.bytes, i.zero.map (·.cells.size))) = some (sz, bytes, some sz)) (hsz : 0 < sz)
    (hs : a.eval s = v) (c : Nat) (hx : a.eval x = .slice (some ⟨gx, 0, none⟩) 1 c) (hcs : cs.size = sz) (h1 : cs.all (·.oneCell') = true) (hm : L.length + 1 ≤ maxLen) (hb : (L.length + 1) * bytes ≤ 140737488355328)
    (hf : TailF f) (hl : f ol = l) (h : ∀ v' w' ol', OwnT e sz v' (L ++ [cs.toList]) ol' → Kn M W w' (f ol') → wpList P ops Q rest (a.put op.dst v') w') : wpList P ops Q (op :: rest) a w :=
  wpList_want hw fun _ hK => wp_kn_append1 KN OW s x t ho bytes ht hinfo hsz hs c hx hcs h1 hm hb hf hl fun v' w' ol' h1 h2 => hK _ _ (h v' w' ol' h1 h2)
end
end Go.Proofs.Ytbllialcfmpkaaa
