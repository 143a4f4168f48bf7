/- append([]T(nil), xs...): a copy in memory of its own. Nothing of the program is imported. -/
import Derived.Test.YtmeicjndfblglaaDoorKn
import Derived.Test.YtmeicjndfblglaaDoorRead
import Derived.Maps.AppendAt
import Derived.OwnWalk
set_option linter.unusedVariables false
set_option linter.unusedSimpArgs false
set_option linter.unusedSectionVars false
namespace Go.Proofs.YtmeicjndfblglaaDoor
open Go Go.RowKit Go.BigFrame

theorem flat_get {α : Type} (sz : Nat) : ∀ (L : List (List α)), (∀ c ∈ L, c.length = sz) → ∀ (i j : Nat) (c : List α), L[i]? = some c → j < sz → L.flatten[i * sz + j]? = c[j]?
  | [], _, i, j, c, h, _ => by simp at h
  | d :: L, hl, i, j, c, h, hj => by
    have hd := hl d (by simp)
    rw [List.flatten_cons]
    cases i with
    | zero =>
      simp only [List.getElem?_cons_zero, Option.some.injEq] at h
      subst h
      rw [Nat.zero_mul, Nat.zero_add, List.getElem?_append_left (by omega)]
    | succ i =>
      simp only [List.getElem?_cons_succ] at h
      rw [List.getElem?_append_right (by rw [hd, Nat.succ_mul]; omega), hd, show (i + 1) * sz + j - sz = i * sz + j from by rw [Nat.succ_mul]; omega]
      exact flat_get sz L (fun c hc => hl c (by simp [hc])) i j c h hj
theorem flat_len {α : Type} (sz : Nat) : ∀ (L : List (List α)), (∀ c ∈ L, c.length = sz) → L.flatten.length = L.length * sz
  | [], _ => by simp
  | d :: L, hl => by
    rw [List.flatten_cons, List.length_append, flat_len sz L (fun c hc => hl c (by simp [hc])), hl d (by simp), List.length_cons, Nat.succ_mul]; omega
theorem flat_at {α : Type} (sz : Nat) (hs : 0 < sz) (L : List (List α)) (hl : ∀ c ∈ L, c.length = sz) (k : Nat) (x : α) (h : L.flatten[k]? = some x) : ∃ c, L[k / sz]? = some c ∧ c[k % sz]? = some x := by
  have hk : k < L.length * sz := by rw [← flat_len sz L hl]; exact (List.getElem?_eq_some_iff.1 h).1
  have hi : k / sz < L.length := (Nat.div_lt_iff_lt_mul hs).2 hk
  refine ⟨_, List.getElem?_eq_getElem hi, ?_⟩
  have := flat_get sz L hl (k / sz) (k % sz) _ (List.getElem?_eq_getElem hi) (Nat.mod_lt _ hs)
  rw [Nat.div_add_mod'] at this
  rw [← this]; exact h
/-- What a row of the call's own reads as. -/
theorem Row.of_own {w : World} {base : Nat} {e : TypeId} {sz : Nat} {v : Value} {n : Nat} {L : List (List Value)} (hl : ∀ c ∈ L, c.length = sz) (hn : n = L.length) (h : w.ownsRow base e sz v n L.flatten) : Row w v sz L := by
  subst hn
  rcases h.2 with ⟨rfl, h0⟩ | ⟨g, cap, cur, rfl, _, hg, hnc, hcm, hcs, ht⟩
  · exact ⟨by omega, .inl ⟨List.eq_nil_of_length_eq_zero h0, _, _, rfl⟩⟩
  · refine ⟨by omega, ?_⟩
    by_cases h0 : L = []
    · subst h0; exact .inl ⟨rfl, _, _, rfl⟩
    · refine .inr ⟨g, 0, cap, rfl, ?_, hnc, hcm, (Array.getElem?_eq_some_iff.1 hg).1, fun i c j x hi hj => ?_⟩
      · cases L with
        | nil => exact absurd rfl h0
        | cons _ _ => simp
      · have hjl : j < sz := by have := (List.getElem?_eq_some_iff.1 hj).1; rw [hl c (List.mem_of_getElem? hi)] at this; exact this
        have hil : i < L.length := (List.getElem?_eq_some_iff.1 hi).1
        have hf := flat_get sz L hl i j c hi hjl
        rw [hj] at hf
        have hlt : i * sz + j < L.length * sz := by
          have : (i + 1) * sz ≤ L.length * sz := Nat.mul_le_mul_right _ hil
          rw [Nat.succ_mul] at this; omega
        rw [Nat.zero_add]
        simp only [World.cell?, hg]
        rw [← ht, List.getElem?_take, if_pos hlt] at hf
        simpa using hf
section
variable {P : Program} {ops : Array Oper} {rest : List Oper} {op : Oper} {a : Act} {w W : World} {K : Act → World → Prop} {Q : Exit → Act → World → Prop} {M : List Nat} {l : Ents}
theorem run_append_copy (t ty e : TypeId) (i : TypeInfo) (z : Value) (sz bytes : Nat) (ht : P.underlying t = some (.slice e)) (hi : P.info? e = some i) (hz : i.zero = some z) (hsize : i.size = sz) (hby : i.bytes = bytes) (hzs : z.cells.size = sz) (hsz : 0 < sz)
    (v : Value) (L : List (List Value)) (hr : Row w v sz L) (hl : ∀ c ∈ L, c.length = sz) (h1 : ∀ c ∈ L, ∀ u ∈ c, u.oneCell' = true) (hb : L.length * bytes ≤ 140737488355328) :
    ∃ v' w', (Builtin.append_ #[t, t] ty #[.slice none 0 0, v]).run P w = .ok v' w' ∧ Row w' v' sz L ∧ Below w.heap.size w w' := by
  have own0 : w.ownsRow w.heap.size e sz (.slice none 0 0) 0 [] := ⟨by simp, .inl ⟨rfl, rfl⟩⟩
  have go : ∀ (ad : Addr) (m c : Nat) (news : List Value), v = .slice (some ad) m c → m = L.length → news = L.flatten → (∀ j u, news[j]? = some u → w.cell? (ad.add j) = some u) →
      ∃ v' w', (Builtin.append_ #[t, t] ty #[.slice none 0 0, v]).run P w = .ok v' w' ∧ Row w' v' sz L ∧ Below w.heap.size w w' := by
    intro ad m c news hv hm hn hc
    obtain ⟨v', w', hrun, h2, h3, _, h5⟩ := run_append_own_at (P := P) w w.heap.size t ty e i z sz bytes ht hi hz hsize hby hzs hsz (.slice none 0 0) 0 [] own0 ad m c news (by rw [hn, flat_len sz L hl, hm]) hc
      (fun u hu => by
        rw [hn] at hu
        obtain ⟨d, hd, hud⟩ := List.mem_flatten.1 hu
        exact h1 d hd u hud) (by rw [hm, Nat.zero_add]; exact hr.1) (by rw [hm, Nat.zero_add]; exact hb) (Nat.le_refl _)
    subst hv
    refine ⟨v', w', hrun, ?_, ⟨h3.os, h3.tape, h3.output, h3.size, fun k hk => h3.block k hk (by simp [Value.ownBlock])⟩⟩
    refine Row.of_own (base := w.heap.size) (e := e) (n := 0 + m) hl (by omega) ?_
    rw [List.nil_append, hn] at h2
    exact h2
  rcases hr.2 with ⟨rfl, ad, c, rfl⟩ | ⟨g, off, cap, rfl, h0, _, _, _, hc⟩
  · cases ad with
    | none =>
      refine ⟨.slice none 0 0, w, ?_, ⟨by simp, .inl ⟨rfl, _, _, rfl⟩⟩, Below.refl _ _⟩
      simp [Builtin.append_, run_underlying ht, sizeOf, typeInfo, hi, Builtin.lenOf, Builtin.firstCells]
    | some ad => exact go ad 0 c [] rfl rfl rfl (fun j u h => by simp at h)
  · refine go _ _ cap L.flatten rfl rfl rfl (fun k u hu => ?_)
    obtain ⟨c, h1', h2'⟩ := flat_at sz hsz L hl k u hu
    have := hc (k / sz) c (k % sz) u h1' h2'
    rw [Addr.add_mid]
    rwa [show off + k / sz * sz + k % sz = off + k from by have := Nat.div_add_mod' k sz; omega] at this
theorem wp_kn_copy (KN : Kn M W w l) (s x : Operand) (t : TypeId) (ho : op.op = .call { callee := .builtin .append, args := #[s, x], argTypes := #[t, t] }) (e : TypeId) (i : TypeInfo) (z : Value) (sz bytes : Nat)
    (ht : P.underlying t = some (.slice e)) (hi : P.info? e = some i) (hz : i.zero = some z) (hsize : i.size = sz) (hby : i.bytes = bytes) (hzs : z.cells.size = sz) (hsz : 0 < sz)
    (hs : a.eval s = .slice none 0 0) (v : Value) (hx : a.eval x = v) (L : List (List Value)) (hr : Row w v sz L) (hl : ∀ c ∈ L, c.length = sz) (h1 : ∀ c ∈ L, ∀ u ∈ c, u.oneCell' = true) (hb : L.length * bytes ≤ 140737488355328)
    (h : ∀ v' w', Kn M W w' l → Row w' v' sz L → K (a.put op.dst v') w') : op.wp P a w K Q := by
  obtain ⟨v', w', hrun, h2, h3⟩ := run_append_copy (P := P) t op.type e i z sz bytes ht hi hz hsize hby hzs hsz v L hr hl h1 hb
  unfold Oper.wp execOp
  simp only [ho, resolve, invoke, builtin, Sem.run_bind, Sem.run_pure, Result.andThen_ok, List.map_toArray, List.map_cons, List.map_nil, hs, hx, hrun]
  exact h v' w' (KN.below h3) h2
end
end Go.Proofs.YtmeicjndfblglaaDoor
