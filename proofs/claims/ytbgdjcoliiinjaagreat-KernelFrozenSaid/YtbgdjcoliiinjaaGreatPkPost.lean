/- The row's last step, where of the world behind the call it is known that below its first new block nothing has turned. -/
import Derived.Below
import Derived.ChangeSame
import Derived.WideShapes
set_option linter.unusedVariables false
set_option linter.unusedSimpArgs false
set_option linter.unusedSectionVars false
namespace Go.Proofs.YtbgdjcoliiinjaaGreat
open Go Go.RowKit Go.WideShapes Go.ChangeShapes

theorem post_below {H : Type} {enc : TypeId × Value → H} {P : Program} {f : Func} {s : ChangeSpec} {apart fresh handsOn again : Bool} {W W' : World} {args : Array Value} {v : Value} {ds gs : List (DataW H)} {before pa pv : List MemPlace}
    (whole : DataW.Whole enc P f.params.toList s.vars apart W args.toList ds gs before)
    (results : ∀ (b : Nat) (sp : Nat → Bool) (hd : Bool), DataW.TrodAll enc P W' b sp hd f.resultTypes.toList (v.resultList f.resultTypes.size) (s.fn H (ds ++ gs)).results [])
    (arguments : ∀ sp : Nat → Bool, (∀ p ∈ before, sp p.block = true) → DataW.TrodAll enc P W' 0 sp true f.params.toList args.toList (s.fn H (ds ++ gs)).args pa)
    (variables : ∀ sp : Nat → Bool, (∀ p ∈ before, sp p.block = true) → DataW.TrodVars enc P W' sp s.vars (s.fn H (ds ++ gs)).vars pv)
    (places : before = pa ++ pv) (bel : Below W.heap.size W W')
    (okay : ∀ (j : Nat) (t : TypeId) (r : Value), f.resultTypes[j]? = some t → (v.resultList f.resultTypes.size)[j]? = some r → Value.okWide P W' .any 0 t r) :
    s.post enc P f apart fresh handsOn again W args v W' := by
  have old : ∀ p ∈ before, p.block < W.heap.size := fun p hp => whole.lt p hp
  have oldB : ∀ p ∈ before, (fun b => decide (b < W.heap.size)) p.block = true := fun p hp => decide_eq_true (old p hp)
  refine ⟨ds, gs, before, [], pa, pv, whole, results _ _ _, arguments _ oldB, variables _ oldB, ?_, ?_⟩
  · exact World.keptBut_mono (fun p hp => ⟨hp, Or.inr (by rw [places, List.mem_append] at hp; exact hp)⟩) (bel.frame (· ∈ before))
  · intro _
    obtain ⟨_, _, _, _, _, unfrozen, once⟩ := whole
    refine ⟨okay, _, _, ([] ++ pa) ++ pv, ⟨[] ++ pa, pv, trodAll_append (arguments _ (fun _ _ => rfl)) (results _ _ _), variables _ (fun _ _ => rfl), rfl, ?_, ?_⟩, fun p hp _ => by rw [places]; simpa using hp⟩
    · intro b off hp
      have inb : MemPlace.cell b off ∈ before := by rw [places]; simpa using hp
      exact (bel.frozen (old _ inb)).trans (unfrozen b off inb)
    · intro ap
      have := once ap
      rw [places] at this
      simpa using this
end Go.Proofs.YtbgdjcoliiinjaaGreat
