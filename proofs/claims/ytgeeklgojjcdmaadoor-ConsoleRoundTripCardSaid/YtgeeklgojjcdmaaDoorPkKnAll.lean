/- Merged: Append, Equal, Kn2, Grow, Elem, KnMap, Copy, Make, Elem1. -/
import Derived.Test.YtgeeklgojjcdmaaDoorPkKn
import Derived.Test.YtgeeklgojjcdmaaDoorPkRead
import Derived.Maps.AppendAt
import Derived.OwnWalk
import Derived.Laws.StructEq
import Derived.DeepKeys
import Derived.Maps.Own
import Derived.Maps.OwnSet
import Derived.Maps.OwnOps
import Derived.Great.BuildSlice
import Derived.Laws.MakeOwn
set_option linter.unusedVariables false
set_option linter.unusedSimpArgs false
set_option linter.unusedSectionVars false
namespace Go.Proofs.YtgeeklgojjcdmaaDoor
section
open Go Go.RowKit Go.BigFrame

theorem flat_get {α : Type} (sz : Nat) : ∀ (L : List (List α)), (∀ c ∈ L, c.length = sz) → ∀ (i j : Nat) (c : List α), L[i]? = some c → j < sz → L.flatten[i * sz + j]? = c[j]?
  | [], _, i, j, c, h, _ => by simp at h
  | d :: L, hl, i, j, c, h, hj => by
    have hd := hl d (by simp)
    rw [List.flatten_cons]
    cases i with
    | zero =>
      simp only [List.getElem?_cons_zero, Option.some.injEq] at h
      subst h
      rw [Nat.zero_mul, Nat.zero_add, List.getElem?_append_left (by omega)]
    | succ i =>
      simp only [List.getElem?_cons_succ] at h
      rw [List.getElem?_append_right (by rw [hd, Nat.succ_mul]; omega), hd, show (i + 1) * sz + j - sz = i * sz + j from by rw [Nat.succ_mul]; omega]
      exact flat_get sz L (fun c hc => hl c (by simp [hc])) i j c h hj
theorem flat_len {α : Type} (sz : Nat) : ∀ (L : List (List α)), (∀ c ∈ L, c.length = sz) → L.flatten.length = L.length * sz
  | [], _ => by simp
  | d :: L, hl => by
    rw [List.flatten_cons, List.length_append, flat_len sz L (fun c hc => hl c (by simp [hc])), hl d (by simp), List.length_cons, Nat.succ_mul]; omega
/-- What a row of the call's own reads as. -/
theorem Row.of_own {w : World} {base : Nat} {e : TypeId} {sz : Nat} {v : Value} {n : Nat} {L : List (List Value)} (hl : ∀ c ∈ L, c.length = sz) (hn : n = L.length) (h : w.ownsRow base e sz v n L.flatten) : Row w v sz L := by
  subst hn
  rcases h.2 with ⟨rfl, h0⟩ | ⟨g, cap, cur, rfl, _, hg, hnc, hcm, hcs, ht⟩
  · exact ⟨by omega, .inl ⟨List.eq_nil_of_length_eq_zero h0, _, _, rfl⟩⟩
  · refine ⟨by omega, ?_⟩
    by_cases h0 : L = []
    · subst h0; exact .inl ⟨rfl, _, _, rfl⟩
    · refine .inr ⟨g, 0, cap, rfl, ?_, hnc, hcm, (Array.getElem?_eq_some_iff.1 hg).1, fun i c j x hi hj => ?_⟩
      · cases L with
        | nil => exact absurd rfl h0
        | cons _ _ => simp
      · have hjl : j < sz := by have := (List.getElem?_eq_some_iff.1 hj).1; rw [hl c (List.mem_of_getElem? hi)] at this; exact this
        have hil : i < L.length := (List.getElem?_eq_some_iff.1 hi).1
        have hf := flat_get sz L hl i j c hi hjl
        rw [hj] at hf
        have hlt : i * sz + j < L.length * sz := by
          have : (i + 1) * sz ≤ L.length * sz := Nat.mul_le_mul_right _ hil
          rw [Nat.succ_mul] at this; omega
        rw [Nat.zero_add]
        simp only [World.cell?, hg]
        rw [← ht, List.getElem?_take, if_pos hlt] at hf
        simpa using hf
section
variable {P : Program} {ops : Array Oper} {rest : List Oper} {op : Oper} {a : Act} {w W : World} {K : Act → World → Prop} {Q : Exit → Act → World → Prop} {M : List Nat} {l : Ents}
end
end
section
open Go Go.RowKit Go.BigFrame

def partV (P : Program) (t : TypeId) (cs : Array Value) (off : Nat) : Option Value :=
  match P.underlying t with
  | some d => if d.isRow = true then (P.info? t).map fun i => .agg (cs.extract off (off + i.size)) else cs[off]?
  | none => none
/-- A value of bools, integers and strings, laid as its type says. -/
def plainV (P : Program) : Nat → TypeId → Value → Bool
  | 0, _, _ => false
  | d + 1, t, v => match P.underlying t, v with
    | some .bool, .bool _ => true
    | some (.int _), .int _ _ => true
    | some .string, .string _ => true
    | some (.struct fs), .agg xs => !P.stoodInHeld t && fs.toList.all fun f => f.name == "_" || (match partV P f.type xs f.offset with | some a => plainV P d f.type a | none => false)
    | some (.array n e), .agg xs => (P.info? e).isSome && (List.range n).all fun i => match partV P e xs (i * P.cellsOf e) with | some a => plainV P d e a | none => false
    | _, _ => false
theorem run_part {P : Program} {t : TypeId} {cs : Array Value} {off : Nat} {a : Value} (w : World) (h : partV P t cs off = some a) : (part t cs off).run P w = .ok a w := by
  unfold partV at h
  cases hu : P.underlying t with
  | none => simp [hu] at h
  | some d =>
    simp only [hu] at h
    by_cases hd : d.isRow = true
    · rw [if_pos hd] at h
      cases hi : P.info? t with
      | none => simp [hi] at h
      | some i =>
        simp only [hi, Option.map_some, Option.some.injEq] at h
        subst h
        have hagg : (isAgg t).run P w = .ok true w := by
          unfold isAgg
          rw [Sem.run_bind, run_underlying hu w]
          cases d <;> simp_all
        simp [part, hagg, sizeOf, typeInfo, hi]
    · rw [if_neg hd] at h
      have hagg : (isAgg t).run P w = .ok false w := by
        unfold isAgg
        rw [Sem.run_bind, run_underlying hu w]
        cases d <;> simp_all
      simp [part, hagg, h]
theorem run_eqFields_same {P : Program} (d : Nat) (xs : Array Value) (w : World) : ∀ (fs : List Field), (∀ f ∈ fs, f.name = "_" ∨ ∃ a, (part f.type xs f.offset).run P w = .ok a w ∧ (Op.equalIn d f.type a a).run P w = .ok true w) → (Op.eqFields d xs xs fs).run P w = .ok true w
  | [], _ => by simp [Op.eqFields]
  | f :: fs, h => by
    have ih := run_eqFields_same d xs w fs (fun g hg => h g (by simp [hg]))
    rcases h f (by simp) with hf | ⟨a, h1, h2⟩
    · simp only [Op.eqFields, hf, ne_eq, not_true_eq_false, if_false]; exact ih
    · by_cases hn : f.name = "_"
      · simp only [Op.eqFields, hn, ne_eq, not_true_eq_false, if_false]; exact ih
      · simp only [Op.eqFields, hn, ne_eq, not_false_eq_true, if_true, Sem.run_bind, h1, h2, Result.andThen_ok, Bool.not_true, Bool.false_eq_true, if_false]; exact ih
theorem run_eqItems_same {P : Program} (d : Nat) (e : TypeId) (n : Nat) (xs : Array Value) (w : World) : ∀ (is : List Nat), (∀ i ∈ is, ∃ a, (part e xs (i * n)).run P w = .ok a w ∧ (Op.equalIn d e a a).run P w = .ok true w) → (Op.eqItems d e n xs xs is).run P w = .ok true w
  | [], _ => by simp [Op.eqItems]
  | i :: is, h => by
    have ih := run_eqItems_same d e n xs w is (fun g hg => h g (by simp [hg]))
    obtain ⟨a, h1, h2⟩ := h i (by simp)
    simp only [Op.eqItems, Sem.run_bind, h1, h2, Result.andThen_ok, Bool.not_true, Bool.false_eq_true, if_false]; exact ih
theorem equal_same {P : Program} (w : World) (D : Nat) : ∀ (m : Nat) (t : TypeId) (v : Value), plainV P m t v = true → (Op.equalIn (D + m) t v v).run P w = .ok true w
  | 0, _, _, h => by simp [plainV] at h
  | m + 1, t, v, h => by
    unfold plainV at h
    rw [show D + (m + 1) = (D + m) + 1 from rfl]
    cases hu : P.underlying t with
    | none => simp [hu] at h
    | some kd =>
      simp only [hu] at h
      cases kd with
      | bool =>
        cases v <;> simp at h
        simp [Op.equalIn, run_underlying hu]
      | int q =>
        cases v <;> simp at h
        simp [Op.equalIn, run_underlying hu]
      | string =>
        cases v <;> simp at h
        simp [Op.equalIn, run_underlying hu, beq_toListBytes]
      | struct fs =>
        cases v with
        | agg xs =>
          simp only [Bool.and_eq_true, Bool.not_eq_true', List.all_eq_true, Bool.or_eq_true, beq_iff_eq] at h
          have hfs : P.fieldsOf t = fs := by simp [Program.fieldsOf, hu]
          rw [run_equalIn_struct w (D + m) t xs xs (by rw [hfs]; exact hu) h.1, hfs]
          refine run_eqFields_same _ _ _ _ (fun f hf => ?_)
          rcases h.2 f hf with hn | hp
          · exact .inl hn
          · cases hq : partV P f.type xs f.offset with
            | none => rw [hq] at hp; cases hp
            | some a =>
              rw [hq] at hp
              exact .inr ⟨a, run_part w hq, equal_same w D m f.type a hp⟩
        | _ => simp at h
      | array n e =>
        cases v with
        | agg xs =>
          simp only [Bool.and_eq_true, List.all_eq_true, Option.isSome_iff_exists] at h
          obtain ⟨⟨i, hi⟩, h⟩ := h
          rw [run_equalIn_array w (D + m) xs xs hu hi]
          refine run_eqItems_same _ _ _ _ _ _ (fun j hj => ?_)
          have hp := h j hj
          have hc : P.cellsOf e = i.size := by simp [Program.cellsOf, hi]
          cases hq : partV P e xs (j * P.cellsOf e) with
          | none => rw [hq] at hp; cases hp
          | some a =>
            rw [hq] at hp
            first
              | exact ⟨a, run_part w hq, equal_same w D m e a hp⟩
              | exact ⟨a, run_part w (by rw [← hc]; exact hq), equal_same w D m e a hp⟩
        | _ => simp at h
      | _ => simp at h
section
variable {P : Program} {ops : Array Oper} {rest : List Oper} {op : Oper} {a : Act} {w : World} {K : Act → World → Prop} {Q : Exit → Act → World → Prop}
theorem run_eql_same (m : Nat) (hm : m ≤ 10000) (t : TypeId) (xs : Array Value) (hp : plainV P m t (.agg xs) = true) : (binOp .eql t (.agg xs) (.agg xs)).run P w = .ok (.bool true) w := by
  have := equal_same (P := P) w (10000 - m) m t (.agg xs) hp
  rw [show 10000 - m + m = 10000 from by omega] at this
  rw [run_eql_struct, this]; rfl
theorem run_neq_same (m : Nat) (hm : m ≤ 10000) (t : TypeId) (xs : Array Value) (hp : plainV P m t (.agg xs) = true) : (binOp .neq t (.agg xs) (.agg xs)).run P w = .ok (.bool false) w := by
  have := equal_same (P := P) w (10000 - m) m t (.agg xs) hp
  rw [show 10000 - m + m = 10000 from by omega] at this
  rw [run_neq_struct, this]; rfl
def isCmp : Op → Bool
  | .binOp .neq .. | .binOp .eql .. => true
  | _ => false
theorem gate_cmp (_hm : isCmp op.op = true) (h : wpList P ops Q (op :: rest) a w) : wpList P ops Q (op :: rest) a w := h
theorem wp_kn_eql (t t2 : TypeId) (x y : Operand) (ho : op.op = .binOp .eql t x y t2) (xs : Array Value) (hx : a.eval x = .agg xs) (hy : a.eval y = .agg xs) (hg : P.eqGuardType P.depth t = false) (hp : plainV P 10 t (.agg xs) = true)
    (h : K (a.put op.dst (.bool true)) w) : op.wp P a w K Q := by
  unfold Oper.wp execOp
  simp only [ho, hx, hy, Sem.run_bind, run_eqGuard_agg w .eql t x y xs xs hg, Result.andThen_ok, run_eql_same 10 (by decide) t xs hp, Sem.run_pure]
  exact h
theorem wpList_kn_eql (hw : Region.wanted op (yielded ops a.tmps) = true) (t t2 : TypeId) (x y : Operand) (ho : op.op = .binOp .eql t x y t2) (xs : Array Value) (hx : a.eval x = .agg xs) (hy : a.eval y = .agg xs) (hg : P.eqGuardType P.depth t = false) (hp : plainV P 10 t (.agg xs) = true)
    (h : wpList P ops Q rest (a.put op.dst (.bool true)) w) : wpList P ops Q (op :: rest) a w :=
  wpList_want hw fun _ hK => wp_kn_eql t t2 x y ho xs hx hy hg hp (hK _ _ h)
theorem kn_yields_neq {S : World → Prop} (hw : Region.wanted op (yielded ops a.tmps) = true) (t t2 : TypeId) (x y : Operand) (ho : op.op = .binOp .neq t x y t2) (xs : Array Value) (hx : a.eval x = .agg xs) (hy : a.eval y = .agg xs) (hg : P.eqGuardType P.depth t = false) (hp : plainV P 10 t (.agg xs) = true) : YieldsIf P ops S op (.bool false) a :=
  .inl ⟨hw, fun w _ => by
    unfold execOp
    simp only [ho, hx, hy, Sem.run_bind, run_eqGuard_agg w .neq t x y xs xs hg, Result.andThen_ok, run_neq_same 10 (by decide) t xs hp, Sem.run_pure]⟩
end
end
section
open Go Go.RowKit Go.BigFrame
section
variable {P : Program} {ops : Array Oper} {rest : List Oper} {op : Oper} {a : Act} {w W : World} {K : Act → World → Prop} {Q : Exit → Act → World → Prop} {M : List Nat} {l l' : Ents}
/-- A slice literal. -/
theorem wpList_kn_lit (KN : Kn M W w l) (hg : op.guard = none) (t e : TypeId) (len : Nat) (parts : Array (Nat × Operand)) (ho : op.op = .buildSlice t len parts) (d : Tmp) (hd : op.dst = some d) (hu : P.underlying t = some (.slice e)) (cells : Array Value)
    (hf : P.builtSlice e len (parts.map fun (i, x) => (i, a.eval x)).toList = some cells)
    (h : ∀ g w', W.heap.size ≤ g → Kn M W w' ((g, At cells e) :: l) → wpList P ops Q rest (a.put (some d) (.slice (some ⟨g, 0, none⟩) len len)) w') : wpList P ops Q (op :: rest) a w :=
  Go.Great.wpList_buildSliceTo hg t e len parts ho _ rfl (some d) hd hu cells hf (h _ _ KN.size (KN.alloc (.cells cells e) rfl))
end
end
section
open Go Go.RowKit Go.BigFrame

/-- The block of a slice that grows: room for cap elements, the first ones are those of L. -/
def CapAt (e : TypeId) (sz cap : Nat) (L : List (List Value)) : Obj → Prop := fun o => ∃ cur : Array Value, o = .cells cur e ∧ cur.size = cap * sz ∧ cur.toList.take (L.length * sz) = L.flatten
/-- A slice of the call's own and its entry among the known blocks (none as long as it is nil). -/
inductive OwnT (e : TypeId) (sz : Nat) : Value → List (List Value) → Ents → Prop
  | nil : OwnT e sz (.slice none 0 0) [] []
  | blk {g cap : Nat} {L : List (List Value)} (hn : L.length ≤ cap) (hc : cap ≤ maxLen) (hl : ∀ c ∈ L, c.length = sz) : OwnT e sz (.slice (some ⟨g, 0, none⟩) L.length cap) L [(g, CapAt e sz cap L)]
/-- This function lays entries ahead of a list. -/
inductive TailF : (Ents → Ents) → Prop
  | id : TailF fun o => o
  | cons {f : Ents → Ents} (x : Nat × (Obj → Prop)) : TailF f → TailF fun o => x :: f o
section
variable {e : TypeId} {sz : Nat} {v : Value} {L : List (List Value)} {ol : Ents} {M : List Nat} {W w w' : World} {l : Ents} {f : Ents → Ents}
theorem OwnT.len (h : OwnT e sz v L ol) : ∀ c ∈ L, c.length = sz := by
  cases h with
  | nil => simp
  | blk _ _ hl => exact hl
theorem OwnT.form (h : OwnT e sz v L ol) : ∃ a c, v = .slice a L.length c := by
  cases h with
  | nil => exact ⟨_, _, rfl⟩
  | blk => exact ⟨_, _, rfl⟩
theorem OwnT.pos (h : OwnT e sz v L ol) (h0 : 1 ≤ L.length) : ∃ g cap, v = .slice (some ⟨g, 0, none⟩) L.length cap ∧ L.length ≤ cap ∧ cap ≤ maxLen ∧ ol = [(g, CapAt e sz cap L)] := by
  cases h with
  | nil => simp at h0
  | blk hn hc _ => exact ⟨_, _, rfl, hn, hc, rfl⟩
theorem OwnT.max (h : OwnT e sz v L ol) : L.length ≤ maxLen := by
  cases h with
  | nil => simp
  | blk hn hc _ => omega
theorem TailF.has (hf : TailF f) {g : Nat} {Φ : Obj → Prop} (h : Has ol g Φ) : Has (f ol) g Φ := by
  induction hf with
  | id => exact h
  | cons x _ ih => exact .there ih
theorem TailF.keys (hf : TailF f) (ol : Ents) : ∃ ks, ∀ o, (f o).map (·.1) = ks ++ o.map (·.1) := by
  induction hf with
  | id => exact ⟨[], fun _ => rfl⟩
  | @cons f x _ ih =>
    obtain ⟨ks, h⟩ := ih
    exact ⟨x.1 :: ks, fun o => by simp [h o]⟩
theorem TailF.split (hf : TailF f) {ol' : Ents} {k : Nat} {Ψ : Obj → Prop} (h : Has (f ol') k Ψ) : Has ol' k Ψ ∨ (∀ o, Has (f o) k Ψ) := by
  induction hf with
  | id => exact .inl h
  | @cons f x _ ih =>
    cases h with
    | here => exact .inr fun o => .here
    | there h =>
      rcases ih h with h | h
      · exact .inl h
      · exact .inr fun o => .there (h o)
/-- The entries' tail is that of the slice that has grown. -/
theorem Kn.grown (KN : Kn M W w (f ol)) (hf : TailF f) {v' : Value} {L' : List (List Value)} {ol' : Ents} (h' : OwnT e sz v' L' ol')
    (hg : w.grownBy w' v.ownBlock) (hv : ∀ g, v.ownBlock = some g → ∃ Φ, ol = [(g, Φ)])
    (hk : ∀ g Φ, ol' = [(g, Φ)] → (∃ o, w'.heap[g]? = some o ∧ Φ o) ∧ (v.ownBlock = some g ∨ g = w.heap.size)) : Kn M W w' (f ol') := by
  obtain ⟨ks, hks⟩ := hf.keys ol
  have ap := KN.apart
  rw [hks ol, List.nodup_append] at ap
  have own : ∀ k Ψ, (∀ o, Has (f o) k Ψ) → some k ≠ v.ownBlock := by
    intro k Ψ hh he
    obtain ⟨Φ, rfl⟩ := hv k he.symm
    have h1 : k ∈ (f []).map (·.1) := (hh []).key
    rw [hks [], List.map_nil, List.append_nil] at h1
    exact ap.2.2 k h1 k (by simp) rfl
  have old : ∀ g, v.ownBlock = some g → g ∈ M ∨ W.heap.size ≤ g := by
    intro g hvg
    obtain ⟨Φ, rfl⟩ := hv g hvg
    exact KN.fresh _ _ (hf.has .here)
  refine ⟨hg.os.trans KN.os, hg.tape.trans KN.tape, hg.output.trans KN.output, Nat.le_trans KN.size hg.size, fun k hkW hM => ?_, fun k Ψ hh => ?_, fun k Ψ hh => ?_, ?_⟩
  · rw [hg.block k (Nat.lt_of_lt_of_le hkW KN.size) ?_]
    · exact KN.frame k hkW hM
    · intro he
      rcases old k he.symm with h | h
      · exact hM h
      · omega
  · rcases hf.split hh with h | h
    · cases h' with
      | nil => cases h
      | blk =>
        cases h with
        | here => exact (hk _ _ rfl).1
        | there h => cases h
    · obtain ⟨o, ho, hΨ⟩ := KN.own k Ψ (h ol)
      exact ⟨o, (hg.block k (Array.getElem?_eq_some_iff.1 ho).1 (own k Ψ h)).trans ho, hΨ⟩
  · rcases hf.split hh with h | h
    · cases h' with
      | nil => cases h
      | blk =>
        cases h with
        | here =>
          rcases (hk _ _ rfl).2 with h | h
          · exact old _ h
          · exact .inr (h ▸ KN.size)
        | there h => cases h
    · exact KN.fresh k Ψ (h ol)
  · rw [hks ol', List.nodup_append]
    refine ⟨ap.1, ?_, ?_⟩
    · cases h' <;> simp
    · intro a ha b hb he
      subst he
      cases h' with
      | nil => simp at hb
      | blk =>
        simp at hb
        subst hb
        obtain ⟨_, hd⟩ := hk _ _ rfl
        rcases hd with hd | hd
        · obtain ⟨Φ, rfl⟩ := hv _ hd
          exact ap.2.2 _ ha _ (by simp) rfl
        · have : ∃ Ψ, Has (f ol) a Ψ := by
            have hm : a ∈ (f ol).map (·.1) := by rw [hks ol]; simp [ha]
            obtain ⟨x, hx, rfl⟩ := List.mem_map.1 hm
            exact ⟨x.2, Has.of_mem hx⟩
          obtain ⟨Ψ, hh⟩ := this
          have := KN.lt hh
          omega
theorem OwnT.owns (h : OwnT e sz v L ol) (KN : Kn M W w (f ol)) (hf : TailF f) : w.ownsRow 0 e sz v L.length L.flatten := by
  cases h with
  | nil => exact World.ownsRow_nil _ _ _ _
  | @blk g cap L hn hc hl =>
    obtain ⟨o, ho, cur, rfl, hs, ht⟩ := KN.own _ _ (hf.has .here)
    exact ⟨flat_len sz L hl, .inr ⟨g, cap, cur, rfl, Nat.zero_le _, ho, hn, hc, hs, ht⟩⟩
theorem OwnT.row (h : OwnT e sz v L ol) (KN : Kn M W w (f ol)) (hf : TailF f) : Row w v sz L := Row.of_own h.len rfl (h.owns KN hf)
theorem OwnT.block (h : OwnT e sz v L ol) : ∀ g, v.ownBlock = some g → ∃ Φ, ol = [(g, Φ)] := by
  intro g hg
  cases h with
  | nil => simp [Value.ownBlock] at hg
  | blk => simp [Value.ownBlock] at hg; subst hg; exact ⟨_, rfl⟩
theorem OwnT.of_owns {base n : Nat} (hl : ∀ c ∈ L, c.length = sz) (hn : n = L.length) (h : w.ownsRow base e sz v n L.flatten) : ∃ ol, OwnT e sz v L ol ∧ ∀ g Φ, ol = [(g, Φ)] → (∃ o, w.heap[g]? = some o ∧ Φ o) ∧ v.ownBlock = some g := by
  subst hn
  rcases h.2 with ⟨rfl, h0⟩ | ⟨g, cap, cur, rfl, _, hg, hnc, hcm, hcs, ht⟩
  · have : L = [] := List.eq_nil_of_length_eq_zero h0
    subst this
    exact ⟨[], .nil, fun _ _ h => by cases h⟩
  · refine ⟨_, .blk hnc hcm hl, fun g' Φ h => ?_⟩
    simp only [List.cons.injEq, Prod.mk.injEq, and_true] at h
    obtain ⟨rfl, rfl⟩ := h
    exact ⟨⟨_, hg, cur, rfl, hcs, ht⟩, rfl⟩
end
section
variable {P : Program} {ops : Array Oper} {rest : List Oper} {op : Oper} {a : Act} {w W : World} {K : Act → World → Prop} {Q : Exit → Act → World → Prop} {M : List Nat} {l : Ents} {f : Ents → Ents} {ol : Ents} {e E : TypeId} {sz : Nat} {v : Value} {L : List (List Value)} {gx : Nat} {cs : Array Value}
/-- append(s, x): the element lies in the block that was made last. -/
theorem wp_kn_append1 (KN : Kn M W w ((gx, At cs E) :: l)) (OW : OwnT e sz v L ol) (s x : Operand) (t : TypeId) (ho : op.op = .call { callee := .builtin .append, args := #[s, x], argTypes := #[t, t] })
    (bytes : Nat) (ht : P.underlying t = some (.slice e)) (hinfo : (P.info? e).map (fun i => (i.size, i.bytes, i.zero.map (·.cells.size))) = some (sz, bytes, some sz)) (hsz : 0 < sz)
    (hs : a.eval s = v) (c : Nat) (hx : a.eval x = .slice (some ⟨gx, 0, none⟩) 1 c) (hcs : cs.size = sz) (h1 : cs.all (·.oneCell') = true) (hm : L.length + 1 ≤ maxLen) (hb : (L.length + 1) * bytes ≤ 140737488355328)
    (hf : TailF f) (hl : f ol = l) (h : ∀ v' w' ol', OwnT e sz v' (L ++ [cs.toList]) ol' → Kn M W w' (f ol') → K (a.put op.dst v') w') : op.wp P a w K Q := by
  subst hl
  obtain ⟨i, z, hi, hz, hsize, hby, hzs⟩ : ∃ i z, P.info? e = some i ∧ i.zero = some z ∧ i.size = sz ∧ i.bytes = bytes ∧ z.cells.size = sz := by
    cases hq : P.info? e with
    | none => simp [hq] at hinfo
    | some i =>
      simp only [hq, Option.map_some, Option.some.injEq, Prod.mk.injEq] at hinfo
      obtain ⟨h1, h2, h3⟩ := hinfo
      cases hzz : i.zero with
      | none => simp [hzz] at h3
      | some z => exact ⟨i, z, rfl, hzz, h1, h2, by simpa [hzz] using h3⟩
  have KN1 : Kn M W w (f ol) := KN.drop .here
  have hrow := OW.owns KN1 hf
  have hblk := KN.at_ .here
  obtain ⟨v', w', hrun, h2, h3, _, h5⟩ := run_append_own_at (P := P) w 0 t op.type e i z sz bytes ht hi hz hsize hby hzs hsz v L.length L.flatten hrow ⟨gx, 0, none⟩ 1 c cs.toList (by simp [hcs])
    (fun j u hu => by rw [show ((⟨gx, 0, none⟩ : Addr).add j) = ⟨gx, j, none⟩ from by unfold Addr.add; split <;> simp_all, blk_cell hblk]; simpa using hu)
    (fun u hu => (Array.all_eq_true_iff_forall_mem.1 h1) u (by simpa using hu)) hm hb (Nat.zero_le _)
  have hfl : L.flatten ++ cs.toList = (L ++ [cs.toList]).flatten := by simp
  rw [hfl] at h2
  obtain ⟨ol', OW', hk⟩ := OwnT.of_owns (n := L.length + 1) (fun c' hc' => by
    rcases List.mem_append.1 hc' with h | h
    · exact OW.len c' h
    · simp at h; subst h; simpa using hcs) (by simp) h2
  unfold Oper.wp execOp
  simp only [ho, resolve, invoke, builtin, Sem.run_bind, Sem.run_pure, Result.andThen_ok, List.map_toArray, List.map_cons, List.map_nil, hs, hx, hrun]
  refine h v' w' ol' OW' (KN1.grown hf OW' h3 OW.block fun g Φ hg => ?_)
  obtain ⟨k1, k2⟩ := hk g Φ hg
  refine ⟨k1, ?_⟩
  rcases h5 with h5 | h5
  · exact .inl (h5 ▸ k2)
  · rw [h5] at k2; exact .inr (by simpa using k2.symm)
theorem wpList_kn_append1 (KN : Kn M W w ((gx, At cs E) :: l)) (OW : OwnT e sz v L ol) (hw : Region.wanted op (yielded ops a.tmps) = true) (s x : Operand) (t : TypeId) (ho : op.op = .call { callee := .builtin .append, args := #[s, x], argTypes := #[t, t] })
    (bytes : Nat) (ht : P.underlying t = some (.slice e)) (hinfo : (P.info? e).map (fun i => (i.size, i.bytes, i.zero.map (·.cells.size))) = some (sz, bytes, some sz)) (hsz : 0 < sz)
    (hs : a.eval s = v) (c : Nat) (hx : a.eval x = .slice (some ⟨gx, 0, none⟩) 1 c) (hcs : cs.size = sz) (h1 : cs.all (·.oneCell') = true) (hm : L.length + 1 ≤ maxLen) (hb : (L.length + 1) * bytes ≤ 140737488355328)
    (hf : TailF f) (hl : f ol = l) (h : ∀ v' w' ol', OwnT e sz v' (L ++ [cs.toList]) ol' → Kn M W w' (f ol') → wpList P ops Q rest (a.put op.dst v') w') : wpList P ops Q (op :: rest) a w :=
  wpList_want hw fun _ hK => wp_kn_append1 KN OW s x t ho bytes ht hinfo hsz hs c hx hcs h1 hm hb hf hl fun v' w' ol' h1 h2 => hK _ _ (h v' w' ol' h1 h2)
end
end
section
open Go Go.RowKit Go.BigFrame
theorem putL_getIf : ∀ (vs : List Value) (cs : Array Value) (o j : Nat), o + vs.length ≤ cs.size → (putL cs o vs)[j]? = if o ≤ j ∧ j < o + vs.length then vs[j - o]? else cs[j]?
  | [], cs, o, j, _ => by
    show cs[j]? = _
    rw [if_neg (by simp)]
  | v :: r, cs, o, j, h => by
    simp only [List.length_cons] at h
    rw [putL, putL_getIf r _ _ _ (by rw [Array.size_setIfInBounds]; omega)]
    by_cases h1 : o + 1 ≤ j ∧ j < o + 1 + r.length
    · rw [if_pos h1, if_pos (by simp only [List.length_cons]; omega), show j - o = (j - (o + 1)) + 1 from by omega]; rfl
    · rw [if_neg h1]
      by_cases h2 : j = o
      · subst h2
        rw [if_pos (by simp only [List.length_cons]; omega), Nat.sub_self, Array.getElem?_setIfInBounds, if_pos rfl, if_pos (by omega)]; rfl
      · rw [if_neg (by simp only [List.length_cons]; omega), Array.getElem?_setIfInBounds_ne (by omega)]
section
variable {e : TypeId} {sz cap : Nat} {L : List (List Value)} {M : List Nat} {W w w' : World} {l l' : Ents} {g : Nat}
theorem CapAt.get {o : Obj} (h : CapAt e sz cap L o) (hl : ∀ c ∈ L, c.length = sz) {i j : Nat} {c : List Value} {x : Value} (hi : L[i]? = some c) (hj : c[j]? = some x) :
    ∃ cur, o = .cells cur e ∧ cur.size = cap * sz ∧ cur[i * sz + j]? = some x := by
  obtain ⟨cur, rfl, hs, ht⟩ := h
  refine ⟨cur, rfl, hs, ?_⟩
  have hjl : j < sz := by have := (List.getElem?_eq_some_iff.1 hj).1; rw [hl c (List.mem_of_getElem? hi)] at this; exact this
  have hf := flat_get sz L hl i j c hi hjl
  rw [hj, ← ht, List.getElem?_take] at hf
  split at hf
  · simpa using hf
  · cases hf
theorem Kn.elem (KN : Kn M W w l) (m : Has l g (CapAt e sz cap L)) (hl : ∀ c ∈ L, c.length = sz) {i j : Nat} {c : List Value} {x : Value} (hi : L[i]? = some c) (hj : c[j]? = some x) : w.cell? ⟨g, i * sz + j, none⟩ = some x := by
  obtain ⟨o, ho, hΦ⟩ := KN.own g _ m
  obtain ⟨cur, rfl, _, hc⟩ := hΦ.get hl hi hj
  simp only [World.cell?, ho]
  exact hc
theorem flatten_set (hl : ∀ c ∈ L, c.length = sz) (i : Nat) (c : List Value) (hc : c.length = sz) (hi : i < L.length) (k : Nat) : (L.set i c).flatten[k]? = if i * sz ≤ k ∧ k < i * sz + sz then c[k - i * sz]? else L.flatten[k]? := by
  have hl' : ∀ d ∈ L.set i c, d.length = sz := by
    intro d hd
    rcases List.mem_or_eq_of_mem_set hd with h | rfl
    · exact hl d h
    · exact hc
  rcases Nat.eq_zero_or_pos sz with hz | hz
  · subst hz
    have e1 := flat_len 0 (L.set i c) hl'
    have e2 := flat_len 0 L hl
    rw [if_neg (by omega), List.getElem?_eq_none (by omega), List.getElem?_eq_none (by omega)]
  rcases Nat.lt_or_ge k (L.length * sz) with hk | hk
  · have hq : k / sz < L.length := (Nat.div_lt_iff_lt_mul hz).2 hk
    have hm := Nat.mod_lt k hz
    have hk2 : k / sz * sz + k % sz = k := Nat.div_add_mod' k sz
    have a1 := flat_get sz (L.set i c) hl' (k / sz) (k % sz) ((L.set i c)[k / sz]'(by simpa using hq)) (List.getElem?_eq_getElem _) hm
    have a2 := flat_get sz L hl (k / sz) (k % sz) (L[k / sz]) (List.getElem?_eq_getElem _) hm
    rw [hk2] at a1 a2
    rw [a1, a2]
    by_cases hik : k / sz = i
    · have e : i * sz ≤ k ∧ k < i * sz + sz := by rw [← hik]; omega
      rw [if_pos e]
      have : (L.set i c)[k / sz]'(by simpa using hq) = c := by rw [List.getElem_set]; rw [if_pos hik.symm]
      rw [this]
      congr 1
      rw [← hik]; omega
    · have ne : ¬ (i * sz ≤ k ∧ k < i * sz + sz) := by
        rintro ⟨h1, h2⟩
        apply hik
        have h3 : i ≤ k / sz := (Nat.le_div_iff_mul_le hz).2 h1
        have h4 : k / sz < i + 1 := (Nat.div_lt_iff_lt_mul hz).2 (by rw [Nat.succ_mul]; exact h2)
        omega
      rw [if_neg ne, List.getElem_set, if_neg (fun q => hik q.symm)]
  · have e1 := flat_len sz (L.set i c) hl'
    have e2 := flat_len sz L hl
    rw [List.length_set] at e1
    have : ¬ (i * sz ≤ k ∧ k < i * sz + sz) := by
      have : (i + 1) * sz ≤ L.length * sz := Nat.mul_le_mul_right _ hi
      rw [Nat.succ_mul] at this
      omega
    rw [if_neg this, List.getElem?_eq_none (by omega), List.getElem?_eq_none (by omega)]
/-- An element is written over. -/
theorem CapAt.set {cur : Array Value} (hs : cur.size = cap * sz) (ht : cur.toList.take (L.length * sz) = L.flatten) (hl : ∀ c ∈ L, c.length = sz) (hcap : L.length ≤ cap) (i : Nat) (c : List Value) (hc : c.length = sz) (hi : i < L.length) :
    CapAt e sz cap (L.set i c) (.cells (putL cur (i * sz) c) e) := by
  have hfit : i * sz + c.length ≤ cur.size := by
    rw [hs, hc]
    have : (i + 1) * sz ≤ cap * sz := Nat.mul_le_mul_right _ (by omega)
    rw [Nat.succ_mul] at this
    exact this
  refine ⟨_, rfl, by rw [putL_size]; exact hs, ?_⟩
  rw [List.length_set]
  apply List.ext_getElem?
  intro k
  rw [flatten_set hl i c hc hi k, List.getElem?_take]
  have hg : (putL cur (i * sz) c).toList[k]? = (putL cur (i * sz) c)[k]? := by simp
  have hp := putL_getIf c cur (i * sz) k hfit
  rw [hc] at hp
  have hlt : i * sz + sz ≤ L.length * sz := by
    have : (i + 1) * sz ≤ L.length * sz := Nat.mul_le_mul_right _ hi
    rw [Nat.succ_mul] at this
    exact this
  have hfl := flat_len sz L hl
  by_cases hk : k < L.length * sz
  · rw [if_pos hk, hg, hp]
    split
    · rfl
    · rw [← ht, List.getElem?_take, if_pos hk]; simp
  · rw [if_neg hk, if_neg (by omega), List.getElem?_eq_none (by omega)]
section
variable {P : Program} {ops : Array Oper} {rest : List Oper} {op : Oper} {a : Act} {K : Act → World → Prop} {Q : Exit → Act → World → Prop}
end
end
end
section
open Go Go.RowKit Go.BigFrame
open Go.WideElems (Fit rg)
open Go.Maps (Keyed)

section
variable {M : List Nat} {W w w' : World} {l l' : Ents}
theorem Kn.perm (h : Kn M W w l) (p : l.Perm l') : Kn M W w l' :=
  ⟨h.os, h.tape, h.output, h.size, h.frame, fun g Φ hh => h.own g Φ (Has.of_mem (p.mem_iff.2 hh.mem)), fun g Φ hh => h.fresh g Φ (Has.of_mem (p.mem_iff.2 hh.mem)), (p.map _).nodup_iff.1 h.apart⟩
variable {H : Type}
/-- The block is a map of at most n entries that reads as D. -/
def MapAt (P : Program) (k : TypeId) (R : Value → Option (DataW H × List MemPlace)) (n : Nat) (D : DataW H) : Obj → Prop :=
  fun o => ∃ es clock, o = .map es clock ∧ Fit P k R es clock ∧ es.size ≤ n ∧ D = .map ((es.toList.map (rg P k R)).foldr DataW.insert [])
variable {P : Program} {k : TypeId} {R : Value → Option (DataW H × List MemPlace)} {n m : Nat} {D : DataW H}
theorem Kn.map (h : Kn M W w l) (hm : Has l m (MapAt P k R n D)) : w.ownsMap P k R m n D := by
  obtain ⟨o, ho, es, clock, rfl, h1, h2, h3⟩ := h.own _ _ hm
  exact ⟨es, clock, ho, h1, h2, h3⟩
theorem MapAt.of {b : Nat} (h : w.ownsMap P k R b n D) : ∃ o, w.heap[b]? = some o ∧ MapAt P k R n D o := by
  obtain ⟨es, clock, ho, h1, h2, h3⟩ := h
  exact ⟨_, ho, es, clock, rfl, h1, h2, h3⟩
variable {ops : Array Oper} {rest : List Oper} {op : Oper} {a : Act} {Q : Exit → Act → World → Prop}
end
end
section
open Go Go.RowKit Go.BigFrame
section
variable {P : Program} {ops : Array Oper} {rest : List Oper} {op : Oper} {a : Act} {w W : World} {K : Act → World → Prop} {Q : Exit → Act → World → Prop} {M : List Nat} {l : Ents}
end
end
section
open Go Go.RowKit Go.BigFrame
section
variable {P : Program} {ops : Array Oper} {rest : List Oper} {op : Oper} {a : Act} {w W : World} {K : Act → World → Prop} {Q : Exit → Act → World → Prop} {M : List Nat} {l : Ents} {f : Ents → Ents} {ol : Ents} {e E : TypeId} {sz : Nat} {v : Value} {L X : List (List Value)}
end
theorem Kn.sub {M : List Nat} {W w : World} {l l' : Ents} (h : Kn M W w l) (s : l'.Sublist l) : Kn M W w l' :=
  ⟨h.os, h.tape, h.output, h.size, h.frame, fun _ _ hk => h.own _ _ (Has.of_mem (s.subset hk.mem)), fun _ _ hk => h.fresh _ _ (Has.of_mem (s.subset hk.mem)), h.apart.sublist (s.map _)⟩
end
section
open Go Go.RowKit Go.BigFrame

section
variable {e : TypeId} {sz cap : Nat} {L : List (List Value)} {M : List Nat} {W w w' : World} {l l' : Ents}
variable {P : Program} {ops : Array Oper} {rest : List Oper} {op : Oper} {a : Act} {K : Act → World → Prop} {Q : Exit → Act → World → Prop}
end
end
end Go.Proofs.YtgeeklgojjcdmaaDoor
