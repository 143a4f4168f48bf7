/- clear(s) among the known blocks; a slice's own block opened. Nothing of the program is imported. -/
import Derived.Test.YtpjejaoobbancaaPkAppR
import Derived.Lib.SliceRun
set_option linter.unusedVariables false
set_option linter.unusedSimpArgs false
set_option linter.unusedSectionVars false
namespace Go.Proofs.Ytpjejaoobbancaa
open Go Go.RowKit Go.BigFrame
section
variable {P : Program} {ops : Array Oper} {rest : List Oper} {op : Oper} {a : Act} {w W : World} {Q : Exit → Act → World → Prop} {M : List Nat} {l l' : Ents} {g o n c : Nat} {cs : Array Value} {T : TypeId}
theorem wpList_kn_clear (KN : Kn M W w l) (hw : Region.wanted op (yielded ops a.tmps) = true) (s : Operand) (t : TypeId) (ho : op.op = .call { callee := .builtin .clear, args := #[s], argTypes := #[t] }) (e : TypeId) (z : Value)
    (ht : P.underlying t = some (.slice e)) (hv : ∀ w, (zeroValue e).run P w = .ok z w) (hz : z.cells = #[z]) (h1 : z.oneCell' = true) (hs : a.eval s = .slice (some ⟨g, o, none⟩) n c)
    (r : Repl l g (At cs T) (At (putL cs o (List.replicate n z)) T) l') (hn : 0 < n) (hle : o + n ≤ cs.size) (h : ∀ w', Kn M W w' l' → wpList P ops Q rest (a.put op.dst (.tuple #[])) w') : wpList P ops Q (op :: rest) a w :=
  wpList_want hw fun _ hK => by
    have hb := KN.at_ r.has
    have hrun := fun ty => Lib.run_clear_slice (P := P) w t e ty z ht hv hz h1 g o n c hn (fun j hj => by rw [blk_cell hb, Array.getElem?_eq_getElem (by omega)]; rfl) (fun j hj => blk_free hb _)
    unfold Oper.wp execOp
    simp only [ho, resolve, invoke, builtin, Sem.run_bind, Sem.run_pure, Result.andThen_ok, List.map_toArray, List.map_cons, List.map_nil, hs, hrun]
    exact hK _ _ (h _ (KN.setCells o _ r))
end
theorem Kn.open1 {M : List Nat} {W w : World} {l : Ents} {g : Nat} {e : TypeId} {sz cap : Nat} {L : List (List Value)} (KN : Kn M W w ((g, CapAt e sz cap L) :: l)) : ∃ cur : Array Value, Kn M W w ((g, At cur e) :: l) ∧ cur.size = cap * sz ∧ cur.toList.take (L.length * sz) = L.flatten := by
  obtain ⟨o, ho, cur, rfl, h1, h2⟩ := KN.own _ _ .here
  exact ⟨cur, KN.upd rfl rfl rfl (Nat.le_refl _) (fun _ _ _ => rfl) .here ⟨_, ho, rfl⟩, h1, h2⟩
theorem Kn.shut1 {M : List Nat} {W w : World} {l : Ents} {g : Nat} {e : TypeId} {sz cap : Nat} {L : List (List Value)} {cur : Array Value} (KN : Kn M W w ((g, At cur e) :: l)) (h1 : cur.size = cap * sz) (h2 : cur.toList.take (L.length * sz) = L.flatten) : Kn M W w ((g, CapAt e sz cap L) :: l) :=
  KN.weak (fun _ ho => ⟨cur, ho, h1, h2⟩) .here
theorem flat_int (l : List Int) : (intRows l).flatten = l.map fun z => Value.int .i64 z := by
  induction l with
  | nil => rfl
  | cons x xs ih => simp only [intRows, List.map_cons, List.flatten_cons, List.cons_append, List.nil_append]; rw [← ih]
theorem putL_take (vs : List Value) : ∀ (cs : Array Value) (o : Nat), (putL cs o vs).toList.take o = cs.toList.take o := by
  induction vs with
  | nil => intro cs o; rfl
  | cons v r ih =>
    intro cs o
    have h := ih (cs.setIfInBounds o v) (o + 1)
    have h2 : (putL (cs.setIfInBounds o v) (o + 1) r).toList.take o = (cs.setIfInBounds o v).toList.take o := by
      have := congrArg (List.take o) h
      rwa [List.take_take, List.take_take, Nat.min_eq_left (Nat.le_succ o)] at this
    rw [putL, h2, Array.toList_setIfInBounds, List.take_set_of_le (Nat.le_refl _)]
end Go.Proofs.Ytpjejaoobbancaa
