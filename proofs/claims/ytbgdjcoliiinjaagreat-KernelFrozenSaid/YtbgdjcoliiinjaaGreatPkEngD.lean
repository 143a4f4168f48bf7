/- Merged: ER, ES, ET, EU, EV, EW, EX, EY, EZ, FA, FB, FC. -/
import Derived.Test.YtbgdjcoliiinjaaGreatPkEngA
import Derived.Orders
import Derived.Scope
set_option linter.unusedVariables false
set_option linter.unusedSimpArgs false
set_option linter.unusedSectionVars false
namespace Go.Proofs.YtbgdjcoliiinjaaGreat
section
open Go
section
variable {P : Program} {ρ : Names} {W w : World} {R : Nat → Prop} {st st' : St} {l : Ents} {G : Nat}
/-- An operand whose computed value says what the real one is; G: the globals' blocks. -/
def opndOk (G : Nat) : Operand → Bool
  | .tmp _ => true
  | .const v => selfOk v
  | .global g => Nat.blt g G
  | .func _ => true
def optOk (G : Nat) : Option Operand → Bool
  | some x => opndOk G x
  | none => true
theorem opt_rel {ev ev' : Operand → Value} (h : ∀ x, opndOk G x = true → VR ρ (ev x) (ev' x)) {o : Option Operand} (ho : optOk G o = true) : OR ρ (o.map ev) (o.map ev') := by
  cases o with
  | none => exact .none
  | some x => exact .some (h x ho)
/-- A value that nilCheck lets pass. -/
def passes : Value → Bool
  | .pointer (some _) | .iface .. | .func (.func _) _ _ => true
  | _ => false
theorem VR.passes {v v' : Value} (h : VR ρ v v') (hp : Go.Proofs.YtbgdjcoliiinjaaGreat.passes v = true) : Go.Proofs.YtbgdjcoliiinjaaGreat.passes v' = true := by
  cases h with
  | func fn _ _ _ _ => cases fn <;> first | rfl | cases hp
  | _ => first | rfl | cases hp
def notMap : Value → Bool
  | .map (some _) => false
  | _ => true
/-- A comparison of an address with nil. -/
def nilCmp (P : Program) (op : BinOp) (t : TypeId) (x y : Value) : Option Bool :=
  match P.underlying t with
  | some d => if ((isAdr x && isNilV y) || (isNilV x && isAdr y)) && (Nat.beq (nilKind x) (tyKind d) && Nat.beq (nilKind y) (tyKind d)) then match op with
      | .eql => some false
      | .neq => some true
      | _ => none
    else none
  | none => none
theorem run_nilCmp {op : BinOp} {t t2 ty : TypeId} {x y : Operand} {ev' : Operand → Value} {vx vy : Value} {b : Bool} {dst : Option Tmp} {pos : String} {after : Array Edge} {guard : Option (Nat × Bool)} (hx : VR ρ vx (ev' x)) (hy : VR ρ vy (ev' y)) (h : nilCmp P op t vx vy = some b) (w : World) :
    (execOp ev' ⟨dst, .binOp op t x y t2, ty, pos, after, guard⟩).run P w = .ok (.value (.bool b)) w := by
  have go : ∀ {d : TypeDesc} {p q : Value}, P.underlying t = some d → isAdr p = true → isNilV q = true → nilKind p = tyKind d → nilKind q = tyKind d →
      ((binOp .eql t p q).run P w = .ok (.bool false) w ∧ (binOp .eql t q p).run P w = .ok (.bool false) w ∧ (binOp .neq t p q).run P w = .ok (.bool true) w ∧ (binOp .neq t q p).run P w = .ok (.bool true) w) ∧
      (∀ o : BinOp, (eqGuard o t x y p q).run P w = .ok () w ∧ (eqGuard o t x y q p).run P w = .ok () w) := by
    intro d p q hu hp hq kp kq
    obtain ⟨e1, e2⟩ := eq_nil hu hp hq kp kq w
    refine ⟨?_, fun o => ?_⟩
    · cases p <;> first | (cases hp; done) | skip
      all_goals cases q <;> first | (cases hq; done) | skip
      all_goals refine ⟨?_, ?_, ?_, ?_⟩ <;> simp only [binOp, Sem.run_bind, e1, e2, Result.andThen_ok, Sem.run_pure, Bool.not_false]
    · cases p <;> first | (cases hp; done) | skip
      all_goals cases q <;> first | (cases hq; done) | skip
      all_goals cases o <;> exact ⟨rfl, rfl⟩
  unfold nilCmp at h
  split at h
  · rename_i d hu
    split at h
    · rename_i hb
      rw [Bool.and_eq_true, Bool.and_eq_true] at hb
      have k1 := Nat.eq_of_beq_eq_true hb.2.1
      have k2 := Nat.eq_of_beq_eq_true hb.2.2
      have k1 := (hx.kind (by rw [k1]; exact tyKind_ne d)).trans k1
      have k2 := (hy.kind (by rw [k2]; exact tyKind_ne d)).trans k2
      rcases Bool.or_eq_true_iff.1 hb.1 with h1 | h1
      · rw [Bool.and_eq_true] at h1
        have hny := hy.nil_ h1.2
        have h2 : isNilV (ev' y) = true := by rw [hny]; exact h1.2
        obtain ⟨⟨g1, _, g3, _⟩, g5⟩ := go hu (hx.adr h1.1) h2 k1 k2
        split at h
        · cases h
          simp only [execOp, Sem.run_bind, (g5 _).1, Result.andThen_ok, g1, Sem.run_pure]
        · cases h
          simp only [execOp, Sem.run_bind, (g5 _).1, Result.andThen_ok, g3, Sem.run_pure]
        · cases h
      · rw [Bool.and_eq_true] at h1
        have hnx := hx.nil_ h1.1
        have h2 : isNilV (ev' x) = true := by rw [hnx]; exact h1.1
        obtain ⟨⟨_, g2, _, g4⟩, g5⟩ := go hu (hy.adr h1.2) h2 k2 k1
        split at h
        · cases h
          simp only [execOp, Sem.run_bind, (g5 _).2, Result.andThen_ok, g2, Sem.run_pure]
        · cases h
          simp only [execOp, Sem.run_bind, (g5 _).2, Result.andThen_ok, g4, Sem.run_pure]
        · cases h
    · cases h
  · cases h
end
end
section
open Go
/-- What is known of a world for reading. -/
structure Rk (W : World) (R : Nat → Prop) (w : World) (ρ : Names) (H : Nat → AObj) (l : Ents) : Prop where
  kn : Kn [] W w l
  rel : ∀ k, ORel R ρ l k (H k)
  res : ∀ k, R k → ρ k = none
  base : ρ.s.1 = W
  sn : ∀ g o, ρ.z g = some o → (g < W.heap.size ∧ W.heap[g]? = some o) ∨ Has l g (· = o)
/-- What the making of a block answers, with what comes behind. -/
def newOf {α : Type} (o : Obj) (r : Option α) : Option (Array Value × TypeId × α) :=
  match o with
  | .cells c e (0, 0) => match r with
    | some a => some (c, e, a)
    | none => none
  | _ => none
section
variable {P : Program} {ρ : Names} {W w : World} {R : Nat → Prop} {st st' : St} {l : Ents} {G : Nat}
noncomputable def fnd (st : St) (k : Nat) : AObj := findO k st.H
theorem Sim.rd (hs : Sim W R w ρ st l) : Rk W R w ρ (fnd st) l := ⟨hs.kn, hs.rel, hs.res, hs.base, hs.sn⟩
theorem Rk.less {H H' : Nat → AObj} (h : Rk W R w ρ H l) (hH : ∀ k, H' k = .gone ∨ H' k = H k) : Rk W R w ρ H' l :=
  ⟨h.kn, fun k => by
    rcases hH k with e | e
    · rw [e]; trivial
    · rw [e]; exact h.rel k, h.res, h.base, h.sn⟩
theorem Rk.drewN {H : Nat → AObj} (h : Rk W R w ρ H l) (n : Nat) : Rk W R (w.drewN n) ρ H l := ⟨h.kn.drewN n, h.rel, h.res, h.base, h.sn⟩
/-- A cell of a block that is not written any more. -/
theorem Rk.zcell {H : Nat → AObj} (hs : Rk W R w ρ H l) {g o : Nat} {v : Value} (h : zc ρ.z g o = some v) : w.cell? ⟨g, o, none⟩ = some v := by
  unfold zc at h
  split at h
  · rename_i c T fr hg
    rcases hs.sn _ _ hg with ⟨hlt, hw⟩ | hh
    · rw [hs.kn.old hlt (by simp)]
      unfold World.cell?
      rw [hw]
      simpa using h
    · obtain ⟨ob, hob, rfl⟩ := hs.kn.own _ _ hh
      unfold World.cell?
      rw [hob]
      simpa using h
  · cases h
theorem Rk.cells {H : Nat → AObj} (hs : Rk W R w ρ H l) {k g : Nat} {c : Option Nat} (hk : ρ k = some (g, c)) {cs : List Value} {T : TypeId} (hf : H k = .cells cs T) :
    ∃ cs' : Array Value, LR ρ cs cs'.toList ∧ c = none ∧ Has l g (At cs' T) := by
  have h := hs.rel k
  rw [hf] at h
  rcases h with h | ⟨g', cs', hk', hc, hh⟩
  · rw [hs.res k h] at hk; cases hk
  · rw [hk] at hk'; cases hk'; exact ⟨cs', hc, rfl, hh⟩
theorem Rk.grown {H : Nat → AObj} (hs : Rk W R w ρ H l) {k g : Nat} {c : Option Nat} (hk : ρ k = some (g, c)) {cs : List Value} {T : TypeId} {sz n : Nat} (hf : H k = .grown cs T sz n) :
    ∃ (L : List (List Value)) (cap : Nat), LR ρ cs L.flatten ∧ c = some cap ∧ L.length = n ∧ (∀ c ∈ L, c.length = sz) ∧ n ≤ cap ∧ cap ≤ maxLen ∧ Has l g (CapAt T sz cap L) := by
  have h := hs.rel k
  rw [hf] at h
  rcases h with h | ⟨g', cap, L, hk', a, b, c', d, e, hh⟩
  · rw [hs.res k h] at hk; cases hk
  · rw [hk] at hk'; cases hk'; exact ⟨L, cap, a, rfl, b, c', d, e, hh⟩
theorem Rk.cell {H : Nat → AObj} (hs : Rk W R w ρ H l) {k g o : Nat} {c : Option Nat} (hk : ρ k = some (g, c)) {v : Value} (hc : cellO o (H k) = some v) : ∃ v', w.cell? ⟨g, o, none⟩ = some v' ∧ VR ρ v v' := by
  cases ho : H k with
  | gone => rw [ho] at hc; cases hc
  | mp es c => rw [ho] at hc; cases hc
  | cells cs T =>
    rw [ho] at hc
    obtain ⟨cs', hl, _, m⟩ := hs.cells hk ho
    obtain ⟨v', hv', hr⟩ := hl.get hc
    exact ⟨v', hs.kn.cell m (by simpa using hv'), hr⟩
  | grown cs T sz n =>
    rw [ho] at hc
    obtain ⟨L, cap, hl, _, hn, hsz, _, _, m⟩ := hs.grown hk ho
    obtain ⟨v', hv', hr⟩ := hl.get hc
    obtain ⟨ob, hob, cur, rfl, _, ht⟩ := hs.kn.own _ _ m
    refine ⟨v', ?_, hr⟩
    rw [← ht] at hv'
    have hlt := (List.getElem?_eq_some_iff.1 hv').1
    rw [List.length_take] at hlt
    rw [List.getElem?_take, if_pos (by omega)] at hv'
    unfold World.cell?
    rw [hob]
    simpa using hv'
theorem prun_arun {α : Type} {s : Sem α} : ∀ {a : α}, prun P s = some a → ∀ st, arun P s st = some (a, st) := by
  induction s with
  | pure b => intro a h st; cases h; rfl
  | program k ih => intro a h st; exact ih P h st
  | mark m k ih => intro a h st; exact ih h st
  | _ => intro a h; cases h
theorem prun_sound {α β : Type} {R0 : Names → α → β → Prop} {s : Sem α} {s' : Sem β} (h : SR P R0 ρ s s') : ∀ {a : α}, prun P s = some a → ∃ b, (∀ w, s'.run P w = .ok b w) ∧ R0 ρ a b := by
  induction h with
  | pure h => intro a hr; cases hr; exact ⟨_, fun _ => rfl, h⟩
  | load => intro a hr; cases hr
  | store => intro a hr; cases hr
  | new => intro a hr; cases hr
  | program h ih => intro a hr; exact ih hr
  | mark h ih => intro a hr; exact ih hr
  | @dead ρ s s' h =>
    intro a hr
    have := prun_arun hr ⟨noHeap, 0⟩
    rw [h] at this
    cases this
/-- Steps that only read. -/
noncomputable def lrun {α : Type} (P : Program) (s : Sem α) (H : Nat → AObj) : Option α :=
  Sem.rec (motive := fun _ => Option α)
    (fun a => some a)
    (fun _ ad _ ih => match ad.spot with
      | some _ => none
      | none => match cellO ad.off (H ad.block) with
        | some v => ih v
        | none => none)
    (fun _ _ _ _ _ => none) (fun _ _ _ => none) (fun _ _ _ => none) (fun _ _ _ _ => none) (fun _ _ _ => none) (fun _ _ _ => none) (fun _ _ _ _ => none) (fun _ _ _ => none) (fun _ _ _ => none)
    (fun _ ih => ih P) (fun _ _ ih => ih) (fun _ => none) s
theorem lrun_arun {α : Type} {s : Sem α} : ∀ {st : St} {a : α}, lrun P s (fnd st) = some a → arun P s st = some (a, st) := by
  induction s with
  | pure b => intro st a h; have : b = a := Option.some.inj h; subst this; rfl
  | load m ad k ih =>
    intro st a h
    have h' : (match ad.spot with | some _ => none | none => match cellO ad.off (findO ad.block st.H) with | some v => lrun P (k v) (fnd st) | none => none) = some a := h
    show (match ad.spot with | some _ => none | none => match cellO ad.off (findO ad.block st.H) with | some v => arun P (k v) st | none => none) = some (a, st)
    cases hsp : ad.spot with
    | some x => rw [hsp] at h'; cases h'
    | none =>
      rw [hsp] at h'
      dsimp only at h' ⊢
      cases hc : cellO ad.off (findO ad.block st.H) with
      | none => rw [hc] at h'; cases h'
      | some v => rw [hc] at h'; exact ih v h'
  | program k ih => intro st a h; exact ih P h
  | mark m k ih => intro st a h; exact ih h
  | _ => intro st a h; cases h
theorem lrun_sound {α β : Type} {R0 : Names → α → β → Prop} {s : Sem α} {s' : Sem β} (h : SR P R0 ρ s s') : ∀ {st : St} {a : α} {l : Ents} {w : World}, lrun P s (fnd st) = some a → Rk W R w ρ (fnd st) l → ∃ b, s'.run P w = .ok b w ∧ R0 ρ a b := by
  induction h with
  | @pure ρ a b h =>
    intro st a' l w hr hs
    have : a = a' := Option.some.inj hr
    subst this
    exact ⟨b, rfl, h⟩
  | @load ρ m m' k o g c f f' hk h ih =>
    intro st a l w hr hs
    have hr' : (match cellO o (fnd st k) with | some v => lrun P (f v) (fnd st) | none => none) = some a := hr
    cases hc : cellO o (fnd st k) with
    | none => rw [hc] at hr'; cases hr'
    | some v =>
      rw [hc] at hr'
      obtain ⟨v', hv', hvr⟩ := hs.cell hk hc
      obtain ⟨b, h1, h2⟩ := ih ρ v v' (NLe.refl _) hvr hr' hs
      exact ⟨b, by simp only [Sem.run, hv']; exact h1, h2⟩
  | store => intro st a l w hr hs; cases hr
  | new => intro st a l w hr hs; cases hr
  | program h ih => intro st a l w hr hs; exact ih hr hs
  | mark h ih => intro st a l w hr hs; exact ih hr hs
  | dead h => intro st a l w hr hs; have := lrun_arun hr; rw [h] at this; cases this
/-- Steps that make one block, under the name n, and touch no other. -/
noncomputable def nrun {α : Type} (P : Program) (s : Sem α) (n : Nat) : Option (Array Value × TypeId × α) :=
  Sem.rec (motive := fun _ => Option (Array Value × TypeId × α) × Option α)
    (fun a => (none, some a)) (fun _ _ _ _ => (none, none)) (fun _ _ _ _ _ => (none, none))
    (fun o _ ih => (newOf o (ih n).2, none))
    (fun _ _ _ => (none, none)) (fun _ _ _ _ => (none, none)) (fun _ _ _ => (none, none)) (fun _ _ _ => (none, none)) (fun _ _ _ _ => (none, none)) (fun _ _ _ => (none, none)) (fun _ _ _ => (none, none))
    (fun _ ih => ih P) (fun _ _ ih => ih) (fun _ => (none, none)) s |>.1
theorem nrun_snd {α : Type} (s : Sem α) (n : Nat) : (Sem.rec (motive := fun _ => Option (Array Value × TypeId × α) × Option α)
    (fun a => (none, some a)) (fun _ _ _ _ => (none, none)) (fun _ _ _ _ _ => (none, none))
    (fun o _ ih => (newOf o (ih n).2, none))
    (fun _ _ _ => (none, none)) (fun _ _ _ _ => (none, none)) (fun _ _ _ => (none, none)) (fun _ _ _ => (none, none)) (fun _ _ _ _ => (none, none)) (fun _ _ _ => (none, none)) (fun _ _ _ => (none, none))
    (fun _ ih => ih P) (fun _ _ ih => ih) (fun _ => (none, none)) s).2 = prun P s := by
  induction s with
  | pure a => rfl
  | program k ih => exact ih P
  | mark m k ih => exact ih
  | _ => rfl
theorem nrun_new {α : Type} (o : Obj) (f : Nat → Sem α) (n : Nat) : nrun P (.new o f) n = newOf o (prun P (f n)) := by
  rw [← nrun_snd (P := P) (f n) n]
  rfl
theorem nrun_arun {α : Type} {s : Sem α} {n : Nat} {x : Array Value × TypeId × α} (h : nrun P s n = some x) (hn : n < 32768) : (arun P s ⟨noHeap, n⟩).isSome = true := by
  induction s with
  | new o k ih =>
    rw [nrun_new] at h
    cases hp : prun P (k n) with
    | none => rw [hp] at h; unfold newOf at h; split at h <;> cases h
    | some a =>
      rw [hp] at h
      unfold newOf at h
      split at h
      · show (if Nat.blt n 32768 then arun P (k n) ⟨setO n (.cells _ _) noHeap, n + 1⟩ else none).isSome = true
        rw [if_pos (show Nat.blt n 32768 = true from Nat.ble_eq_true_of_le hn), prun_arun hp]
        rfl
      · cases h
  | program k ih => exact ih P h
  | mark m k ih => exact ih h
  | _ => cases h
theorem nrun_sound {α β : Type} {R0 : Names → α → β → Prop} {s : Sem α} {s' : Sem β} (h : SR P R0 ρ s s') : ∀ {n : Nat} {c : Array Value} {e : TypeId} {a : α}, n < 32768 → nrun P s n = some (c, e, a) →
    ∃ c', AR ρ c c' ∧ ∀ w ρ', NLe ρ ρ' → ρ' n = some (w.heap.size, none) → ∃ b, s'.run P w = .ok b (w.alloc (.cells c' e)) ∧ R0 ρ' a b := by
  induction h with
  | pure h => intro n c e a _ hr; cases hr
  | load => intro n c e a _ hr; cases hr
  | store => intro n c e a _ hr; cases hr
  | @new ρ c c' e f f' hc h ih =>
    intro n c2 e2 a _ hr
    rw [nrun_new] at hr
    cases ha : prun P (f n) with
    | none => rw [ha] at hr; cases hr
    | some a2 =>
      rw [ha] at hr
      cases hr
      refine ⟨c', hc, fun w ρ' hle hk => ?_⟩
      obtain ⟨b, hb, hR⟩ := prun_sound (h ρ' n w.heap.size hle hk) ha
      exact ⟨b, hb _, hR⟩
  | program h ih => intro n c e a hn hr; exact ih hn hr
  | mark h ih => intro n c e a hn hr; exact ih hn hr
  | @dead ρ s s' h =>
    intro n c e a hn hr
    have := nrun_arun hr hn
    rw [h] at this
    cases this
end
end
section
open Go
abbrev Sl (D : Nat) : Type := Nd X D
abbrev Fns := FuncId → List X → St → (X → St → Bool) → Bool
abbrev PureC (D : Nat) := Sl D → (X → Bool) → Bool
abbrev ReadC (D : Nat) := Sl D → St → (X → Bool) → Bool
abbrev NewC (D : Nat) := Sl D → Nat → (X → O2 → Bool) → Bool
abbrev LoudC (D : Nat) := Fns → Sl D → St → (X → St → Bool) → Bool
/-- An operand's value, from the slots. -/
noncomputable def evC (D : Nat) : Operand → Box (Sl D → X)
  | .tmp t => getB t D
  | .const v => ⟨fun _ => X.ofV v⟩
  | .global g => ⟨fun _ => .sc (.ptr g 0)⟩
  | .func f => ⟨fun _ => .sc (.oth (.func (.func f) #[] #[]))⟩
noncomputable def evX {D : Nat} (T : Sl D) (x : Operand) : X := (evC D x).f T
def Glob (G : Nat) (ρ : Names) : Prop := ∀ g, g < G → ρ g = some (g, none)
theorem Glob.mono {G : Nat} {ρ ρ' : Names} (h : Glob G ρ) (hle : NLe ρ ρ') : Glob G ρ' := fun g hg => hle.b _ _ (h g hg)
/-- The slots say this of the operation's operands. -/
def OpR (ρ : Names) {D : Nat} (T : Sl D) (a : Act) (o : Oper) : Prop := ∀ x ∈ o.op.operands, VR ρ (evX T x).toV (a.eval x)
theorem OpR.mono {ρ ρ' : Names} {D : Nat} {T : Sl D} {a : Act} {o : Oper} (h : OpR ρ T a o) (hle : NLe ρ ρ') : OpR ρ' T a o := fun x hx => (h x hx).mono hle
def tmpsOf (o : Oper) : List Nat := o.op.operands.toList.filterMap fun | .tmp t => some t | _ => none
noncomputable def evL {D : Nat} (ts : List Nat) (T : Sl D) : Operand → Value
  | .tmp t => cond (ts.contains t) (get T t).toV undef
  | .const v => v
  | .global g => .pointer (some ⟨g, 0, none⟩)
  | .func f => .func (.func f) #[] #[]
def evR (ts : List Nat) (a : Act) : Operand → Value
  | .tmp t => cond (ts.contains t) (a.eval (.tmp t)) undef
  | x => a.eval x
def notSelect (o : Oper) : Bool := match o.op with | .select .. => false | _ => true
section
variable {P : Program} {ρ : Names} {W w : World} {R : Nat → Prop} {st st' : St} {l : Ents} {G D : Nat} {T : Sl D} {a : Act} {o : Oper}
theorem evL_rel (h : OpR ρ T a o) (hG : Glob G ρ) (x : Operand) (hx : opndOk G x = true) : VR ρ (evL (tmpsOf o) T x) (evR (tmpsOf o) a x) := by
  cases x with
  | tmp t =>
    show VR ρ (cond _ _ _) (cond _ _ _)
    cases hc : (tmpsOf o).contains t with
    | false => exact .undef ρ
    | true =>
      have hm : t ∈ tmpsOf o := by simpa using hc
      unfold tmpsOf at hm
      obtain ⟨y, hy, he⟩ := List.mem_filterMap.1 hm
      cases y <;> first | (cases he; done) | skip
      cases he
      exact h _ (by simpa using hy)
  | const v => exact .of_self ρ hx
  | global g => exact .ptr (hG g (Nat.le_of_ble_eq_true hx))
  | func f => exact .of_plain ρ rfl
theorem exec_evR (hs : notSelect o = true) : execOp (evR (tmpsOf o) a) o = execOp a.eval o := by
  refine execOp_congr o (fun cs b he => by unfold notSelect at hs; rw [he] at hs; cases hs) fun x hx => ?_
  cases x with
  | tmp t =>
    have : (tmpsOf o).contains t = true := by
      unfold tmpsOf
      simp only [List.contains_iff_mem, List.mem_filterMap]
      exact ⟨.tmp t, by simpa using hx, rfl⟩
    show cond _ _ _ = _
    rw [this]; rfl
  | _ => rfl
/-- What an operation answers that touches no memory. -/
noncomputable def purS (P : Program) (G : Nat) (ev : Operand → Value) (o : Oper) : Option Value :=
  match o.op with
  | .slice t x lo hi none => cond (opndOk G x && (optOk G lo && optOk G hi)) (match P.underlying t with
      | some (.slice e) => match P.info? e with
        | some i => aslice i.size (ev x) (lo.map ev) (hi.map ev)
        | none => none
      | _ => none) none
  | .binOp op t x y _ => cond (opndOk G x && opndOk G y) (match nilCmp P op t (ev x) (ev y) with
      | some b => some (.bool b)
      | none => none) none
  | .nilCheck x => cond (opndOk G x && passes (ev x)) (some (ev x)) none
  | .call ⟨.builtin .len, ⟨[x]⟩, ⟨[_]⟩⟩ => cond (opndOk G x && notMap (ev x)) (match prun P (execOp ev o) with
      | some (.value v) => some v
      | _ => none) none
  | _ => none
noncomputable def purV (P : Program) (G : Nat) (ev : Operand → Value) (o : Oper) : Option Value :=
  match memOps P o.op with
  | some ops => cond (ops.all (opndOk G)) (match prun P (execOp ev o) with
      | some (.value v) => some v
      | _ => none) none
  | none => match pureOps o.op with
    | some ops => cond (ops.all (opndOk G) && ops.all (fun x => selfOk (ev x))) (match prun P (execOp ev o) with
        | some (.value v) => cond (selfOk v) (some v) none
        | _ => none) (purS P G ev o)
    | none => purS P G ev o
theorem purS_sound {ev ev' : Operand → Value} (h : ∀ x, opndOk G x = true → VR ρ (ev x) (ev' x)) {v : Value} (he : purS P G ev o = some v) : ∃ v', VR ρ v v' ∧ ∀ w, (execOp ev' o).run P w = .ok (.value v') w := by
  obtain ⟨dst, op, ty, pos, after, guard⟩ := o
  unfold purS at he
  split at he
  · rename_i t x lo hi hop
    subst hop
    cases hb : (opndOk G x && (optOk G lo && optOk G hi)) with
    | false => rw [hb] at he; cases he
    | true =>
      rw [hb] at he
      dsimp only [cond_true] at he
      rw [Bool.and_eq_true, Bool.and_eq_true] at hb
      split at he
      · rename_i e hu
        split at he
        · rename_i i hi_
          obtain ⟨v', hr, hvr⟩ := aslice_sound hu hi_ (h x hb.1) (opt_rel h hb.2.1) (opt_rel h hb.2.2) he
          refine ⟨v', hvr, fun w => ?_⟩
          simp only [execOp, Option.map_none, Sem.run_bind, hr, Result.andThen_ok, Sem.run_pure]
        · cases he
      · cases he
  · rename_i b t x y t2 hop
    subst hop
    cases hb : (opndOk G x && opndOk G y) with
    | false => rw [hb] at he; cases he
    | true =>
      rw [hb] at he
      dsimp only [cond_true] at he
      rw [Bool.and_eq_true] at hb
      split at he
      · rename_i q hq
        cases he
        exact ⟨.bool q, .bool q, fun w => run_nilCmp (h x hb.1) (h y hb.2) hq w⟩
      · cases he
  · rename_i x hop
    subst hop
    cases hb : (opndOk G x && passes (ev x)) with
    | false => rw [hb] at he; cases he
    | true =>
      rw [hb] at he
      dsimp only [cond_true] at he
      rw [Bool.and_eq_true] at hb
      cases he
      have hx := h x hb.1
      have hp := hx.passes hb.2
      refine ⟨ev' x, hx, fun w => ?_⟩
      simp only [execOp]
      generalize ev' x = y at hp ⊢
      cases y with
      | pointer a => cases a with
        | none => cases hp
        | some a => rfl
      | iface t v => rfl
      | func f a b => cases f <;> first | rfl | cases hp
      | _ => cases hp
  · rename_i x t hop
    subst hop
    cases hb : (opndOk G x && notMap (ev x)) with
    | false => rw [hb] at he; cases he
    | true =>
      rw [hb] at he
      dsimp only [cond_true] at he
      rw [Bool.and_eq_true] at hb
      have hx := h x hb.1
      have hsr : SR P NxR ρ (execOp ev ⟨dst, .call ⟨.builtin .len, ⟨[x]⟩, ⟨[t]⟩⟩, ty, pos, after, guard⟩) (execOp ev' ⟨dst, .call ⟨.builtin .len, ⟨[x]⟩, ⟨[t]⟩⟩, ty, pos, after, guard⟩) := by
        have hm : ∀ r, ¬ ev x = .map (some r) := fun r hr => by
          have h2 := hb.2
          rw [hr] at h2
          cases h2
        have e : ∀ ev : Operand → Value, execOp ev ⟨dst, .call ⟨.builtin .len, ⟨[x]⟩, ⟨[t]⟩⟩, ty, pos, after, guard⟩ = (Builtin.len_ #[t] ty #[ev x]).bind fun v => .pure (.value v) := fun ev => by
          simp only [execOp, resolve, invoke, builtin, List.map_toArray, List.map_cons, List.map_nil]
          rfl
        rw [e, e]
        exact sr_v (sr_len ty t hx hm)
      split at he
      · rename_i v2 hv
        cases he
        obtain ⟨nx, hr, hn⟩ := prun_sound hsr hv
        cases nx <;> first | (cases hn; done) | skip
        exact ⟨_, hn, hr⟩
      · cases he
  · cases he
theorem purV_sound {ev ev' : Operand → Value} (h : ∀ x, opndOk G x = true → VR ρ (ev x) (ev' x)) {v : Value} (he : purV P G ev o = some v) : ∃ v', VR ρ v v' ∧ ∀ w, (execOp ev' o).run P w = .ok (.value v') w := by
  unfold purV at he
  split at he
  · rename_i ops hm
    cases hb : ops.all (opndOk G) with
    | false => rw [hb] at he; cases he
    | true =>
      rw [hb] at he
      dsimp only [cond_true] at he
      have hb := List.all_eq_true.1 hb
      split at he
      · rename_i v2 hv
        cases he
        obtain ⟨nx, hr, hn⟩ := prun_sound (sr_exec hm fun x hx => h x (hb x hx)) hv
        cases nx <;> first | (cases hn; done) | skip
        exact ⟨_, hn, hr⟩
      · cases he
  · split at he
    · rename_i ops hp
      cases hb : (ops.all (opndOk G) && ops.all (fun x => selfOk (ev x))) with
      | false => rw [hb] at he; exact purS_sound h he
      | true =>
        rw [hb] at he
        dsimp only [cond_true] at he
        rw [Bool.and_eq_true] at hb
        have h1 := List.all_eq_true.1 hb.1
        have h2 := List.all_eq_true.1 hb.2
        split at he
        · rename_i v2 hv
          cases hv2 : selfOk v2 with
          | false => rw [hv2] at he; cases he
          | true =>
            rw [hv2] at he
            cases he
            exact ⟨_, .of_self ρ hv2, fun w => pure_sound hp (fun x hx => h x (h1 x hx)) (fun x hx => h2 x hx) hv w⟩
        · cases he
    · exact purS_sound h he

/-! ### The classes -/
def PureOk (P : Program) (G : Nat) (D : Nat) (o : Oper) (f : PureC D) : Prop :=
  ∀ T k, f T k = true → ∃ x, k x = true ∧ ∀ ρ a, OpR ρ T a o → Glob G ρ → ∃ v', VR ρ x.toV v' ∧ ∀ w, (execOp a.eval o).run P w = .ok (.value v') w
def ReadOk (P : Program) (G : Nat) (D : Nat) (o : Oper) (f : ReadC D) : Prop :=
  ∀ T st k, f T st k = true → ∃ x, k x = true ∧ ∀ W R ρ a w l, OpR ρ T a o → Glob G ρ → Rk W R w ρ (fnd st) l → ∃ v', VR ρ x.toV v' ∧ (execOp a.eval o).run P w = .ok (.value v') w
def NewOk (P : Program) (G : Nat) (D : Nat) (o : Oper) (f : NewC D) : Prop :=
  ∀ T n k, n < 32768 → f T n k = true → ∃ x o2 cs Ty, k x o2 = true ∧ o2.toO = .cells cs Ty ∧ ∀ ρ a, OpR ρ T a o → Glob G ρ → ∃ cs' : Array Value, LR ρ cs cs'.toList ∧ ∀ w ρ', NLe ρ ρ' → ρ' n = some (w.heap.size, none) → ∃ v', (execOp a.eval o).run P w = .ok (.value v') (w.alloc (.cells cs' Ty)) ∧ VR ρ' x.toV v'
def FnsOk (P : Program) (G : Nat) (F : Fns) : Prop :=
  ∀ f args st k, F f args st k = true → ∃ x st', k x st' = true ∧ ∀ W R ρ (args' : Array Value) w l, LR ρ (args.map X.toV) args'.toList → Glob G ρ → Sim W R w ρ st l →
    Calls P f args' w fun e w' => ∃ ρ' v' l', e = .returned v' ∧ NLe ρ ρ' ∧ VR ρ' x.toV v' ∧ Sim W R w' ρ' st' l'
def LoudOk (P : Program) (G : Nat) (D : Nat) (o : Oper) (f : LoudC D) : Prop :=
  ∀ F T st k, FnsOk P G F → f F T st k = true → ∃ x st', k x st' = true ∧ ∀ W R ρ a w l, OpR ρ T a o → Glob G ρ → Sim W R w ρ st l → ∀ (K : Act → World → Prop) (Q : Exit → Act → World → Prop),
    (∀ ρ' v' w' l', NLe ρ ρ' → VR ρ' x.toV v' → Sim W R w' ρ' st' l' → K (a.put o.dst v') w') → o.wp P a w K Q
/-! ### As the model runs them -/
noncomputable def genPure (P : Program) (G D : Nat) (o : Oper) : PureC D := fun T k => match purV P G (evL (tmpsOf o) T) o with
  | some v => k (X.ofV v)
  | none => false
theorem genPure_ok (hs : notSelect o = true) : PureOk P G D o (genPure P G D o) := by
  intro T k h
  unfold genPure at h
  split at h
  · rename_i v hv
    refine ⟨_, h, fun ρ a hO hG => ?_⟩
    obtain ⟨v', h1, h2⟩ := purV_sound (evL_rel hO hG) hv
    exact ⟨v', by rw [X.toV_ofV]; exact h1, fun w => by rw [← exec_evR (a := a) hs]; exact h2 w⟩
  · cases h
noncomputable def genRead (P : Program) (G D : Nat) (o : Oper) : ReadC D := match memOps P o.op with
  | some ops => cond (ops.all (opndOk G)) (fun T st k => match lrun P (execOp (evL (tmpsOf o) T) o) (fnd st) with
    | some (.value v) => k (X.ofV v)
    | _ => false) (fun _ _ _ => false)
  | none => fun _ _ _ => false
theorem genRead_ok (hs : notSelect o = true) : ReadOk P G D o (genRead P G D o) := by
  intro T st k h
  unfold genRead at h
  cases hm : memOps P o.op with
  | none => rw [hm] at h; cases h
  | some ops =>
    rw [hm] at h
    dsimp only at h
    cases hb : ops.all (opndOk G) with
    | false => rw [hb] at h; cases h
    | true =>
      rw [hb] at h
      dsimp only [cond_true] at h
      have hb := List.all_eq_true.1 hb
      split at h
      · rename_i v hv
        refine ⟨_, h, fun W R ρ a w l hO hG hrk => ?_⟩
        obtain ⟨nx, hr, hn⟩ := lrun_sound (sr_exec hm fun x hx => evL_rel hO hG x (hb x hx)) hv hrk
        cases nx <;> first | (cases hn; done) | skip
        exact ⟨_, by rw [X.toV_ofV]; exact hn, by rw [← exec_evR (a := a) hs]; exact hr⟩
      · cases h
noncomputable def genNew (P : Program) (G D : Nat) (o : Oper) : NewC D := match memOps P o.op with
  | some ops => cond (ops.all (opndOk G)) (fun T n k => match nrun P (execOp (evL (tmpsOf o) T) o) n with
    | some (c, e, .value v) => k (X.ofV v) (cellsOf c.toList e)
    | _ => false) (fun _ _ _ => false)
  | none => fun _ _ _ => false
theorem genNew_ok (hs : notSelect o = true) : NewOk P G D o (genNew P G D o) := by
  intro T n k hn h
  unfold genNew at h
  cases hm : memOps P o.op with
  | none => rw [hm] at h; cases h
  | some ops =>
    rw [hm] at h
    dsimp only at h
    cases hb : ops.all (opndOk G) with
    | false => rw [hb] at h; cases h
    | true =>
      rw [hb] at h
      dsimp only [cond_true] at h
      have hb := List.all_eq_true.1 hb
      split at h
      · rename_i c e v hv
        refine ⟨_, _, c.toList, e, h, O2.toO_ofO (.cells c.toList e), fun ρ a hO hG => ?_⟩
        obtain ⟨c', hc, hr⟩ := nrun_sound (sr_exec hm fun x hx => evL_rel hO hG x (hb x hx)) hn hv
        refine ⟨c', hc.list, fun w ρ' hle hk => ?_⟩
        obtain ⟨nx, hr, hn⟩ := hr w ρ' hle hk
        cases nx <;> first | (cases hn; done) | skip
        exact ⟨_, by rw [← exec_evR (a := a) hs]; exact hr, by rw [X.toV_ofV]; exact hn⟩
      · cases h
/-- append, by the model's values. -/
def isAppend : Op → Option (Operand × Operand × TypeId × TypeId)
  | .call ⟨.builtin .append, ⟨[s, x]⟩, ⟨[t, tx]⟩⟩ => some (s, x, t, tx)
  | _ => none
theorem isAppend_eq {op : Op} {s x : Operand} {t tx : TypeId} (h : isAppend op = some (s, x, t, tx)) : op = .call ⟨.builtin .append, ⟨[s, x]⟩, ⟨[t, tx]⟩⟩ := by
  unfold isAppend at h
  split at h
  · cases h; rfl
  · cases h
noncomputable def genAppend (P : Program) (G D : Nat) (o : Oper) : LoudC D := match isAppend o.op with
  | some (s, x, t, tx) => cond (opndOk G s && opndOk G x) (fun _ T st k => match aapp P t tx (evL (tmpsOf o) T s) (evL (tmpsOf o) T x) st with
    | some (v, st') => k (X.ofV v) st'
    | none => false) (fun _ _ _ _ => false)
  | none => fun _ _ _ _ => false
theorem genAppend_ok (hs : notSelect o = true) : LoudOk P G D o (genAppend P G D o) := by
  intro F T st k _ h
  unfold genAppend at h
  cases hop : isAppend o.op with
  | none => rw [hop] at h; cases h
  | some q =>
    obtain ⟨s, x, t, tx⟩ := q
    rw [hop] at h
    dsimp only at h
    have hop := isAppend_eq hop
    cases hb : (opndOk G s && opndOk G x) with
    | false => rw [hb] at h; cases h
    | true =>
      rw [hb] at h
      dsimp only [cond_true] at h
      rw [Bool.and_eq_true] at hb
      split at h
      · rename_i v st' hv
        refine ⟨_, _, h, fun W R ρ a w l hO hG hsim K Q hK => ?_⟩
        obtain ⟨ρ', v', l', w', hr, hle, hvr, hs'⟩ := aapp_sound hsim t tx o.type (evL_rel hO hG s hb.1) (evL_rel hO hG x hb.2) hv
        unfold Oper.wp
        rw [← exec_evR (a := a) hs]
        have e : (execOp (evR (tmpsOf o) a) o).run P w = .ok (.value v') w' := by
          generalize tmpsOf o = ts at hr ⊢
          obtain ⟨dst, op, ty, pos, after, guard⟩ := o
          dsimp only at hop
          subst hop
          simp only [execOp, resolve, invoke, builtin, Sem.run_bind, Sem.run_pure, Result.andThen_ok, List.map_toArray, List.map_cons, List.map_nil, hr]
        rw [e]
        exact hK ρ' v' w' l' hle (by rw [X.toV_ofV]; exact hvr) hs'
      · cases h
end
end
section
open Go
/-- No function of the program counts goroutines. -/
def NoNum (P : Program) : Prop := ∀ (f : FuncId) (fn : Func), P.funcs[f]? = some fn → (fn.name == "runtime.NumGoroutine") = false
def isCall : Op → Option (Operand × List Operand)
  | .call ⟨.value g, args, _⟩ => some (g, args.toList)
  | _ => none
theorem isCall_eq {op : Op} {g : Operand} {xs : List Operand} (h : isCall op = some (g, xs)) : ∃ ty, op = .call ⟨.value g, xs.toArray, ty⟩ := by
  unfold isCall at h
  split at h
  · rename_i args ty
    cases h
    exact ⟨ty, by simp⟩
  · cases h
noncomputable def argsC (D : Nat) (xs : List Operand) : Box (Sl D → List X) :=
  List.rec (motive := fun _ => Box (Sl D → List X)) ⟨fun _ => []⟩ (fun x _ ih => Box.rec (motive := fun _ => Box (Sl D → List X)) (fun e => Box.rec (motive := fun _ => Box (Sl D → List X)) (fun es => ⟨fun T => e T :: es T⟩) ih) (evC D x)) xs
theorem argsC_f {D : Nat} (T : Sl D) : ∀ xs : List Operand, (argsC D xs).f T = xs.map (evX T)
  | [] => rfl
  | x :: xs => by
    have ih := argsC_f T xs
    show (Box.rec (motive := fun _ => Box (Sl D → List X)) (fun e => Box.rec (motive := fun _ => Box (Sl D → List X)) (fun es => ⟨fun T => e T :: es T⟩) (argsC D xs)) (evC D x)).f T = evX T x :: xs.map (evX T)
    rw [← ih]
    unfold evX
    cases evC D x
    cases argsC D xs
    rfl
def hasBody (P : Program) (f : FuncId) : Bool := match P.funcs[f]? with
  | some fn => fn.body.isSome
  | none => false
noncomputable def dynCall (P : Program) (v : Value) (args : List X) (F : Fns) (st : St) (k : X → St → Bool) : Bool := match v with
  | .func (.func f) first cap => cond (hasBody P f) (F f (first.toList.map X.ofV ++ (args ++ cap.toList.map X.ofV)) st k) false
  | _ => false
noncomputable def genCall (P : Program) (D : Nat) (o : Oper) : Box (LoudC D) := match isCall o.op with
  | some (g, xs) => Box.rec (motive := fun _ => Box (LoudC D)) (fun es => match g with
    | .func f => cond (hasBody P f) ⟨fun F T st k => F f (es T) st k⟩ ⟨fun _ _ _ _ => false⟩
    | g => Box.rec (motive := fun _ => Box (LoudC D)) (fun e => ⟨fun F T st k => dynCall P (e T).toV (es T) F st k⟩) (evC D g)) (argsC D xs)
  | none => ⟨fun _ _ _ _ => false⟩
theorem map_to_of (l : List Value) : (l.map X.ofV).map X.toV = l := by
  rw [List.map_map]
  conv => rhs; rw [← List.map_id l]
  exact List.map_congr_left fun v _ => X.toV_ofV v
section
variable {P : Program} {ρ : Names} {W w : World} {R : Nat → Prop} {st st' : St} {l : Ents} {G D : Nat} {T : Sl D} {a : Act} {o : Oper}
theorem LR.map_ev {xs : List Operand} (h : ∀ x ∈ xs, VR ρ (evX T x).toV (a.eval x)) : LR ρ ((xs.map (evX T)).map X.toV) (xs.map a.eval) := by
  refine ⟨by simp, fun i x x' hx hx' => ?_⟩
  rw [List.getElem?_map, List.getElem?_map] at hx
  rw [List.getElem?_map] at hx'
  cases hi : xs[i]? with
  | none => rw [hi] at hx; cases hx
  | some y =>
    rw [hi] at hx hx'
    cases hx; cases hx'
    exact h y (List.mem_of_getElem? hi)
theorem run_call (hN : NoNum P) {g : Operand} {xs : List Operand} {ty : Array TypeId} (hop : o.op = .call ⟨.value g, xs.toArray, ty⟩) {f : FuncId} {first cap : Array Value} (hg : a.eval g = .func (.func f) first cap) (hb : hasBody P f = true) (w : World) :
    (execOp a.eval o).run P w = .ok (.enter f ((first ++ (xs.map a.eval).toArray) ++ cap)) w := by
  obtain ⟨dst, op, tt, pos, after, guard⟩ := o
  dsimp only at hop
  subst hop
  unfold hasBody at hb
  split at hb
  · rename_i fn hfn
    have hbn : fn.body.isNone = false := by cases hq : fn.body <;> simp_all
    simp only [execOp, resolve, hg, Deferred.ofValue, Sem.run_bind, Sem.run_pure, Result.andThen_ok, invoke, callFunc, run_program, hfn, hN f fn hfn, hbn, Bool.false_eq_true, if_false, List.map_toArray]
  · cases hb
theorem genCall_ok (hN : NoNum P) : LoudOk P G D o (genCall P D o).f := by
  intro F T st k hF h
  unfold genCall at h
  cases hc : isCall o.op with
  | none => rw [hc] at h; cases h
  | some q =>
    obtain ⟨g, xs⟩ := q
    rw [hc] at h
    dsimp only at h
    obtain ⟨ty, hop⟩ := isCall_eq hc
    have hargs := argsC_f T xs
    generalize argsC D xs = b at h hargs
    obtain ⟨es⟩ := b
    dsimp only at h hargs
    have hmem : ∀ x, x = g ∨ x ∈ xs → x ∈ o.op.operands := fun x hx => by
      rw [hop]
      show x ∈ Call.operands _
      rcases hx with rfl | hx <;> simp [Call.operands, *]
    have go : ∀ (f : FuncId) (first cap : Array Value), hasBody P f = true → F f (first.toList.map X.ofV ++ (es T ++ cap.toList.map X.ofV)) st k = true → (∀ ρ a, OpR ρ T a o → Glob G ρ → ∃ first' cap', AR ρ first first' ∧ AR ρ cap cap' ∧ a.eval g = .func (.func f) first' cap') →
        ∃ x st', k x st' = true ∧ ∀ W R ρ a w l, OpR ρ T a o → Glob G ρ → Sim W R w ρ st l → ∀ (K : Act → World → Prop) (Q : Exit → Act → World → Prop), (∀ ρ' v' w' l', NLe ρ ρ' → VR ρ' x.toV v' → Sim W R w' ρ' st' l' → K (a.put o.dst v') w') → o.wp P a w K Q := by
      intro f first cap hb hf hg
      obtain ⟨x, st', hk, hcall⟩ := hF _ _ _ _ hf
      refine ⟨x, st', hk, fun W R ρ a w l hO hG hs K Q hK => ?_⟩
      obtain ⟨first', cap', h1, h2, he⟩ := hg ρ a hO hG
      unfold Oper.wp
      rw [run_call hN hop he hb w, Oper.upon_enter]
      have hl : LR ρ (List.map X.toV (first.toList.map X.ofV ++ (es T ++ cap.toList.map X.ofV))) ((first' ++ (xs.map a.eval).toArray) ++ cap').toList := by
        rw [List.map_append, List.map_append, map_to_of, map_to_of, hargs, Array.toList_append, Array.toList_append, List.append_assoc]
        exact h1.list.append ((LR.map_ev fun x hx => hO x (hmem x (.inr hx))).append h2.list)
      refine Calls.mono (hcall W R ρ _ w l hl hG hs) fun e w' hh => ?_
      obtain ⟨ρ', v', l', rfl, hle, hv, hs1⟩ := hh
      exact hK ρ' v' w' l' hle hv hs1
    have dyn : ∀ e : Sl D → X, e T = evX T g → dynCall P (e T).toV (es T) F st k = true → ∃ x st', k x st' = true ∧ ∀ W R ρ a w l, OpR ρ T a o → Glob G ρ → Sim W R w ρ st l → ∀ (K : Act → World → Prop) (Q : Exit → Act → World → Prop), (∀ ρ' v' w' l', NLe ρ ρ' → VR ρ' x.toV v' → Sim W R w' ρ' st' l' → K (a.put o.dst v') w') → o.wp P a w K Q := by
      intro e he hd
      unfold dynCall at hd
      split at hd
      · rename_i f first cap hv
        cases hb : hasBody P f with
        | false => rw [hb] at hd; cases hd
        | true =>
          rw [hb] at hd
          refine go f first cap hb hd fun ρ a hO hG => ?_
          have hx := hO g (hmem g (.inl rfl))
          rw [← he, hv] at hx
          generalize hy : a.eval g = y at hx
          cases hx with
          | @func _ _ a' _ b' h1 h2 h3 h4 => exact ⟨a', b', ⟨h1, h2⟩, ⟨h3, h4⟩, rfl⟩
      · cases hd
    cases g with
    | func f =>
      dsimp only at h
      cases hb : hasBody P f with
      | false => rw [hb] at h; cases h
      | true =>
        rw [hb] at h
        exact go f #[] #[] hb (by simpa using h) fun ρ a _ _ => ⟨#[], #[], .nil ρ, .nil ρ, rfl⟩
    | tmp t =>
      dsimp only at h
      refine dyn (evC D (.tmp t)).f rfl ?_
      generalize evC D (.tmp t) = b at h ⊢
      cases b; exact h
    | const v =>
      dsimp only at h
      refine dyn (evC D (.const v)).f rfl ?_
      generalize evC D (.const v) = b at h ⊢
      cases b; exact h
    | global g =>
      dsimp only at h
      refine dyn (evC D (.global g)).f rfl ?_
      generalize evC D (.global g) = b at h ⊢
      cases b; exact h
end
end
section
open Go
/-- 0: touches no memory; 1: reads; 2: makes one block; 3: any other. -/
def kindOf : Op → Nat
  | .load .. | .slice .. | .lookup .. => 1
  | .alloc _ | .box .. | .buildSlice .. | .makeSlice .. => 2
  | .store .. => 3
  | .makeMap .. | .mapUpdate .. => 3
  | .call ⟨.builtin .append, _, _⟩ | .call ⟨.builtin .copy, _, _⟩ | .call ⟨.builtin .clear, _, _⟩ => 3
  | .call ⟨.value _, _, _⟩ => 3
  | _ => 0
noncomputable def bx {α β : Type} (b : Box α) (k : α → Box β) : Box β := Box.rec (motive := fun _ => Box β) k b
theorem bx_f {α β : Type} (b : Box α) (k : α → Box β) : bx b k = k b.f := by cases b; rfl
/-- The closures of the four classes. -/
structure Cls (P : Program) (G D : Nat) where
  pure_ : Oper → Box (PureC D)
  read_ : Oper → Box (ReadC D)
  new_ : Oper → Box (NewC D)
  loud_ : Oper → Box (LoudC D)
  pureOk : ∀ o, notSelect o = true → PureOk P G D o (pure_ o).f
  readOk : ∀ o, notSelect o = true → ReadOk P G D o (read_ o).f
  newOk : ∀ o, notSelect o = true → NewOk P G D o (new_ o).f
  loudOk : ∀ o, notSelect o = true → LoudOk P G D o (loud_ o).f
/-- Any operation, as the loudest. -/
noncomputable def ofPure {D : Nat} (f : PureC D) : LoudC D := fun _ T st k => f T fun x => k x st
noncomputable def ofRead {D : Nat} (f : ReadC D) : LoudC D := fun _ T st k => f T st fun x => k x st
noncomputable def ofNew {D : Nat} (f : NewC D) : LoudC D := fun _ T st k => cond (Nat.blt st.n 32768) (f T st.n fun x o2 => k x ⟨set st.n o2 st.H, Nat.add st.n 1⟩) false
theorem ofPure_ok {P : Program} {G D : Nat} {o : Oper} {f : PureC D} (h : PureOk P G D o f) : LoudOk P G D o (ofPure f) := by
  intro F T st k _ hf
  obtain ⟨x, hk, hx⟩ := h T _ hf
  refine ⟨x, st, hk, fun W R ρ a w l hO hG hs K Q hK => ?_⟩
  obtain ⟨v', hv, hr⟩ := hx ρ a hO hG
  unfold Oper.wp
  rw [hr w]
  exact hK ρ v' w l (.refl _) hv hs
theorem ofRead_ok {P : Program} {G D : Nat} {o : Oper} {f : ReadC D} (h : ReadOk P G D o f) : LoudOk P G D o (ofRead f) := by
  intro F T st k _ hf
  obtain ⟨x, hk, hx⟩ := h T st _ hf
  refine ⟨x, st, hk, fun W R ρ a w l hO hG hs K Q hK => ?_⟩
  obtain ⟨v', hv, hr⟩ := hx W R ρ a w l hO hG hs.rd
  unfold Oper.wp
  rw [hr]
  exact hK ρ v' w l (.refl _) hv hs
theorem Sim.newO2 {W w : World} {R : Nat → Prop} {ρ : Names} {st : St} {l : Ents} (hs : Sim W R w ρ st l) (hn : st.n < 32768) {o2 : O2} {cs : List Value} {cs' : Array Value} {T : TypeId} (ho : o2.toO = .cells cs T) (hc : LR ρ cs cs'.toList) :
    Sim W R (w.alloc (.cells cs' T)) (ρ.add st.n (w.heap.size, none)) ⟨set st.n o2 st.H, Nat.add st.n 1⟩ ((w.heap.size, At cs' T) :: l) :=
  (hs.newCells hn hc).congr (fun k => by
    show findO k (set st.n o2 st.H) = findO k (setO st.n (.cells cs T) st.H)
    rw [find_set2 hn, find_set hn, ho]) rfl
theorem ofNew_ok {P : Program} {G D : Nat} {o : Oper} {f : NewC D} (h : NewOk P G D o f) : LoudOk P G D o (ofNew f) := by
  intro F T st k _ hf
  unfold ofNew at hf
  cases hb : Nat.blt st.n 32768 with
  | false => rw [hb] at hf; cases hf
  | true =>
    rw [hb] at hf
    have hn : st.n < 32768 := Nat.le_of_ble_eq_true hb
    obtain ⟨x, o2, cs, Ty, hk, ho, hx⟩ := h T st.n _ hn hf
    refine ⟨x, _, hk, fun W R ρ a w l hO hG hs K Q hK => ?_⟩
    obtain ⟨cs', hc, hr⟩ := hx ρ a hO hG
    have hle := NLe.add (hs.top _ (Nat.le_refl _)) (w.heap.size, none)
    obtain ⟨v', hr, hv⟩ := hr w _ hle (ρ.add_self _ _)
    unfold Oper.wp
    rw [hr]
    exact hK _ v' _ _ hle hv (hs.newO2 hn ho hc)
noncomputable def opC {P : Program} {G D : Nat} (c : Cls P G D) (o : Oper) : Box (LoudC D) :=
  match kindOf o.op with
  | 0 => bx (c.pure_ o) fun f => ⟨fun _ T st k => f T fun x => k x st⟩
  | 1 => bx (c.read_ o) fun f => ⟨fun _ T st k => f T st fun x => k x st⟩
  | 2 => bx (c.new_ o) fun f => ⟨ofNew f⟩
  | _ => c.loud_ o
theorem opC_ok {P : Program} {G D : Nat} (c : Cls P G D) {o : Oper} (hs : notSelect o = true) : LoudOk P G D o (opC c o).f := by
  unfold opC
  split
  · rw [bx_f]; exact ofPure_ok (c.pureOk o hs)
  · rw [bx_f]; exact ofRead_ok (c.readOk o hs)
  · rw [bx_f]; exact ofNew_ok (c.newOk o hs)
  · exact c.loudOk o hs

/-! ### Slots -/
structure SlR (N : Nat) (ρ : Names) {D : Nat} (T : Sl D) (ts : Array Value) : Prop where
  size : ts.size = N
  rel : ∀ i, i < N → VR ρ (get T i).toV (ts.getD i undef)
theorem SlR.mono {N : Nat} {ρ ρ' : Names} {D : Nat} {T : Sl D} {ts : Array Value} (h : SlR N ρ T ts) (hle : NLe ρ ρ') : SlR N ρ' T ts := ⟨h.size, fun i hi => (h.rel i hi).mono hle⟩
def opOk (N G : Nat) : Operand → Bool
  | .tmp t => Nat.blt t N
  | .const v => selfOk v
  | .global g => Nat.blt g G
  | .func _ => true
theorem evX_rel {N G D : Nat} {ρ : Names} {T : Sl D} {a : Act} (h : SlR N ρ T a.tmps) (hG : Glob G ρ) {x : Operand} (hx : opOk N G x = true) : VR ρ (evX T x).toV (a.eval x) := by
  cases x with
  | tmp t => exact h.rel t (Nat.le_of_ble_eq_true hx)
  | const v =>
    show VR ρ (X.ofV v).toV v
    rw [X.toV_ofV]; exact .of_self ρ hx
  | global g => exact .ptr (hG g (Nat.le_of_ble_eq_true hx))
  | func f => exact .of_plain ρ rfl
def dstOk (N : Nat) (o : Oper) : Bool := match o.dst with
  | none => true
  | some d => Nat.blt d N
noncomputable def putC (D : Nat) : Option Nat → Box (X → Sl D → Sl D)
  | none => ⟨fun _ T => T⟩
  | some d => setB d D
theorem getD_set_same {ts : Array Value} {d : Nat} {v : Value} (h : d < ts.size) : (ts.setIfInBounds d v).getD d undef = v := by
  simp [Array.getD_eq_getD_getElem?, Array.getElem?_setIfInBounds, h]
theorem getD_set_other {ts : Array Value} {d i : Nat} {v : Value} (h : d ≠ i) : (ts.setIfInBounds d v).getD i undef = ts.getD i undef := by
  simp [Array.getD_eq_getD_getElem?, Array.getElem?_setIfInBounds, h]
theorem put_slr {N D : Nat} {ρ : Names} {T : Sl D} {a : Act} (hND : N ≤ 8 ^ D) (h : SlR N ρ T a.tmps) {o : Oper} (hd : dstOk N o = true) {x : X} {v : Value} (hx : VR ρ x.toV v) : SlR N ρ ((putC D o.dst).f x T) (a.put o.dst v).tmps ∧ (a.put o.dst v).defers = a.defers := by
  unfold dstOk at hd
  cases ho : o.dst with
  | none => exact ⟨h, rfl⟩
  | some d =>
    rw [ho] at hd
    have hd : d < N := Nat.le_of_ble_eq_true hd
    refine ⟨⟨by show (a.tmps.setIfInBounds d v).size = N; rw [Array.size_setIfInBounds]; exact h.size, fun i hi => ?_⟩, rfl⟩
    show VR ρ (get (set d x T) i).toV ((a.tmps.setIfInBounds d v).getD i undef)
    by_cases e : d = i
    · subst e
      rw [get_set_same, getD_set_same (by rw [h.size]; exact hd)]
      exact hx
    · rw [get_set_other x e D T (Nat.lt_of_lt_of_le hd hND) (Nat.lt_of_lt_of_le hi hND), getD_set_other e]
      exact h.rel i hi
/-! ### Guards -/
noncomputable def gtest (want : Bool) (x : X) (kt kf : Bool) : Bool := X.rec (motive := fun _ => Bool) (fun v => V.rec (motive := fun _ => Bool) (fun b => cond b (cond want kt kf) (cond want kf kt)) (fun _ _ => false) (fun _ _ => false) (fun _ _ => false) (fun _ _ _ _ => false) (fun _ => false) v) (fun _ => false) (fun _ _ _ => false) kf (fun _ _ _ _ => false) (fun _ => false) x
noncomputable def guardC (N D : Nat) (ops : Array Oper) (o : Oper) : Box (Sl D → Bool → Bool → Bool) := match o.guard with
  | none => ⟨fun _ kt _ => kt⟩
  | some (j, want) => match (ops[j]?).bind (·.dst) with
    | none => ⟨fun _ _ kf => kf⟩
    | some d => cond (Nat.blt d N) (bx (getB d D) fun g => ⟨fun T kt kf => gtest want (g T) kt kf⟩) ⟨fun _ _ _ => false⟩
/-- The slot of the guard. -/
def guardSlot (ops : Array Oper) (o : Oper) : Option Nat := match o.guard with
  | none => none
  | some (j, _) => (ops[j]?).bind (·.dst)
def boolOf : Value → Option Bool
  | .bool b => some b
  | _ => none
theorem gtest_sound {want : Bool} {x : X} {kt kf : Bool} (h : gtest want x kt kf = true) : (kt = true ∧ ∀ ρ v, VR ρ x.toV v → boolOf v = some want) ∨ (kf = true ∧ ∀ ρ v, VR ρ x.toV v → boolOf v ≠ some want) := by
  cases x with
  | sc v =>
    cases v with
    | bool b =>
      have h : cond b (cond want kt kf) (cond want kf kt) = true := h
      have e : ∀ ρ v, VR ρ (X.sc (.bool b)).toV v → boolOf v = some b := fun ρ v hx => by
        have hx : VR ρ (.bool b) v := hx
        cases hx; rfl
      cases b <;> cases want
      · exact .inl ⟨h, e⟩
      · exact .inr ⟨h, fun ρ v hx => by rw [e ρ v hx]; simp⟩
      · exact .inr ⟨h, fun ρ v hx => by rw [e ρ v hx]; simp⟩
      · exact .inl ⟨h, e⟩
    | _ => cases h
  | nil =>
    refine .inr ⟨h, fun ρ v hx => ?_⟩
    have hx : VR ρ (.tuple #[]) v := hx
    cases hx
    simp [boolOf]
  | _ => cases h
theorem guardC_sound {N D : Nat} {ops : Array Oper} {o : Oper} {T : Sl D} {kt kf : Bool} (h : (guardC N D ops o).f T kt kf = true) :
    (kt = true ∧ ∀ ρ (a : Act), (∀ d, guardSlot ops o = some d → d < N → VR ρ (get T d).toV (a.tmps.getD d undef)) → Region.wanted o (yielded ops a.tmps) = true) ∨
    (kf = true ∧ ∀ ρ (a : Act), (∀ d, guardSlot ops o = some d → d < N → VR ρ (get T d).toV (a.tmps.getD d undef)) → Region.wanted o (yielded ops a.tmps) = false) := by
  unfold guardC at h
  unfold guardSlot Region.wanted
  cases hg : o.guard with
  | none =>
    rw [hg] at h
    exact .inl ⟨h, fun _ _ _ => rfl⟩
  | some q =>
    obtain ⟨j, want⟩ := q
    rw [hg] at h
    dsimp only at h ⊢
    have hy : ∀ ts : Array Value, yielded ops ts j = match (ops[j]?).bind (·.dst) with
        | none => none
        | some d => (match ts[d]? with | some (.bool b) => some b | _ => none) := fun ts => by
      unfold yielded
      cases (ops[j]?).bind (·.dst) <;> rfl
    cases hd : (ops[j]?).bind (·.dst) with
    | none =>
      rw [hd] at h
      refine .inr ⟨h, fun ρ a _ => ?_⟩
      rw [hy, hd]
      cases want <;> rfl
    | some d =>
      rw [hd] at h
      dsimp only at h
      cases hb : Nat.blt d N with
      | false => rw [hb] at h; cases h
      | true =>
        rw [hb, cond_true, bx_f] at h
        have hdN : d < N := Nat.le_of_ble_eq_true hb
        have tr : ∀ ts : Array Value, yielded ops ts j = boolOf (ts.getD d undef) := fun ts => by
          rw [hy, hd]
          dsimp only
          rw [Array.getD_eq_getD_getElem?]
          cases ts[d]? with
          | none => rfl
          | some v => cases v <;> rfl
        rcases gtest_sound h with ⟨hk, hv⟩ | ⟨hk, hv⟩
        · refine .inl ⟨hk, fun ρ a hr => ?_⟩
          rw [tr, hv ρ _ (hr d rfl hdN)]
          cases want <;> rfl
        · refine .inr ⟨hk, fun ρ a hr => ?_⟩
          rw [tr]
          have := hv ρ _ (hr d rfl hdN)
          cases hq : boolOf (a.tmps.getD d undef) with
          | none => cases want <;> rfl
          | some b =>
            rw [hq] at this
            cases b <;> cases want <;> first | rfl | exact absurd rfl this

/-! ### A list of operations -/
/-- May the operation be computed so? -/
def operOk (N G : Nat) (o : Oper) : Bool := notSelect o && (o.op.operands.toList.all (opOk N G) && dstOk N o)
theorem operOk_opr {N G D : Nat} {o : Oper} (h : operOk N G o = true) {ρ : Names} {T : Sl D} {a : Act} (hs : SlR N ρ T a.tmps) (hG : Glob G ρ) : OpR ρ T a o := by
  unfold operOk at h
  rw [Bool.and_eq_true, Bool.and_eq_true] at h
  exact fun x hx => evX_rel hs hG (List.all_eq_true.1 h.2.1 x (by simpa using hx))
abbrev ListC (D : Nat) := Fns → Sl D → St → (Sl D → St → Bool) → Bool
noncomputable def consC {D : Nat} (gd : Sl D → Bool → Bool → Bool) (f : LoudC D) (s : X → Sl D → Sl D) (rest : ListC D) : ListC D :=
  fun F T st k => gd T (f F T st fun x st' => rest F (s x T) st' k) (rest F (s .nil T) st k)
noncomputable def listC {P : Program} {G D : Nat} (N : Nat) (c : Cls P G D) (ops : Array Oper) (rest : List Oper) : Box (ListC D) :=
  List.rec (motive := fun _ => Box (ListC D)) ⟨fun _ T st k => k T st⟩
    (fun o _ ih => cond (operOk N G o) (bx ih fun r => bx (opC c o) fun f => bx (putC D o.dst) fun s => match o.guard with
      | none => ⟨fun F T st k => f F T st fun x st' => r F (s x T) st' k⟩
      | some _ => bx (guardC N D ops o) fun gd => ⟨fun F T st k => gd T (f F T st fun x st' => r F (s x T) st' k) (r F (s .nil T) st k)⟩) ⟨fun _ _ _ _ => false⟩) rest
def ListOk (P : Program) (G N D : Nat) (ops : Array Oper) (rest : List Oper) (g : ListC D) : Prop :=
  ∀ F T st k, FnsOk P G F → g F T st k = true → ∃ T' st', k T' st' = true ∧ ∀ W R ρ a w l, SlR N ρ T a.tmps → Glob G ρ → Sim W R w ρ st l → ∀ (Q : Exit → Act → World → Prop),
    (∀ ρ' a' w' l', NLe ρ ρ' → SlR N ρ' T' a'.tmps → a'.defers = a.defers → Sim W R w' ρ' st' l' → Q .normal a' w') → wpList P ops Q rest a w
theorem consC_ok {P : Program} {G N D : Nat} {ops : Array Oper} (hND : N ≤ 8 ^ D) {o : Oper} {rest : List Oper} (ho : operOk N G o = true) {f : LoudC D} (hf : LoudOk P G D o f) {r : ListC D} (hr : ListOk P G N D ops rest r) :
    ListOk P G N D ops (o :: rest) (consC (guardC N D ops o).f f (putC D o.dst).f r) := by
  intro F T st k hF h
  have hd : dstOk N o = true := by unfold operOk at ho; rw [Bool.and_eq_true, Bool.and_eq_true] at ho; exact ho.2.2
  unfold consC at h
  rcases guardC_sound h with ⟨h, hw⟩ | ⟨h, hw⟩
  · obtain ⟨x, st', h, hx⟩ := hf F T st _ hF h
    obtain ⟨T2, st2, hk, h2⟩ := hr F _ _ _ hF h
    refine ⟨T2, st2, hk, fun W R ρ a w l hs hG hsim Q hQ => ?_⟩
    refine Go.BigFrame.wpList_want (hw ρ a fun d _ hdN => hs.rel d hdN) fun K hK => ?_
    refine hx W R ρ a w l (operOk_opr ho hs hG) hG hsim K Q fun ρ' v' w' l' hle hv hs' => hK _ _ ?_
    obtain ⟨p1, p2⟩ := put_slr hND (hs.mono hle) hd hv
    exact h2 W R ρ' _ w' l' p1 (hG.mono hle) hs' Q fun ρ3 a3 w3 l3 hle3 hs3 hd3 hsim3 => hQ ρ3 a3 w3 l3 (hle.trans hle3) hs3 (hd3.trans p2) hsim3
  · obtain ⟨T2, st2, hk, h2⟩ := hr F _ _ _ hF h
    refine ⟨T2, st2, hk, fun W R ρ a w l hs hG hsim Q hQ => ?_⟩
    refine wpList_skip (hw ρ a fun d _ hdN => hs.rel d hdN) ?_
    obtain ⟨p1, p2⟩ := put_slr hND hs hd (x := .nil) (v := undef) (.undef ρ)
    exact h2 W R ρ _ w l p1 hG hsim Q fun ρ3 a3 w3 l3 hle3 hs3 hd3 hsim3 => hQ ρ3 a3 w3 l3 hle3 hs3 (hd3.trans p2) hsim3
theorem listC_ok {P : Program} {G N D : Nat} (c : Cls P G D) (hND : N ≤ 8 ^ D) (ops : Array Oper) : ∀ rest : List Oper, ListOk P G N D ops rest (listC N c ops rest).f
  | [] => fun F T st k _ h => ⟨T, st, h, fun W R ρ a w l hs hG hsim Q hQ => hQ ρ a w l (.refl _) hs rfl hsim⟩
  | o :: rest => by
    have ih := listC_ok c hND ops rest
    have e : listC N c ops (o :: rest) = cond (operOk N G o) (bx (listC N c ops rest) fun r => bx (opC c o) fun f => bx (putC D o.dst) fun s => match o.guard with
      | none => ⟨fun F T st k => f F T st fun x st' => r F (s x T) st' k⟩
      | some _ => bx (guardC N D ops o) fun gd => ⟨fun F T st k => gd T (f F T st fun x st' => r F (s x T) st' k) (r F (s .nil T) st k)⟩) ⟨fun _ _ _ _ => false⟩ := rfl
    rw [e]
    cases ho : operOk N G o with
    | false => intro F T st k _ h; cases h
    | true =>
      rw [cond_true, bx_f, bx_f, bx_f]
      have ns : notSelect o = true := by unfold operOk at ho; rw [Bool.and_eq_true] at ho; exact ho.1
      have main := consC_ok (ops := ops) hND ho (opC_ok c ns) ih
      cases hg : o.guard with
      | none =>
        have : (guardC N D ops o).f = fun _ kt _ => kt := by unfold guardC; rw [hg]
        rw [this] at main
        exact main
      | some q =>
        dsimp only
        rw [bx_f]
        exact main
end
section
open Go
theorem least {p : Nat → Prop} : ∀ n, p n → ∃ m, p m ∧ m ≤ n ∧ ∀ k, p k → m ≤ k := by
  intro n
  induction n using Nat.strongRecOn with
  | _ n ih =>
    intro h
    by_cases hq : ∃ k, k < n ∧ p k
    · obtain ⟨k, hk, hp⟩ := hq
      obtain ⟨m, h1, h2, h3⟩ := ih k hk hp
      exact ⟨m, h1, by omega, h3⟩
    · exact ⟨n, h, Nat.le_refl _, fun k hk => Nat.le_of_not_lt fun hlt => hq ⟨k, hlt, hk⟩⟩
/-- A loop with a number of rounds. -/
theorem wp_loop_n {P : Program} {c : Code} {Q : Exit → Act → World → Prop} {a : Act} {w : World} (I : Nat → Act → World → Prop) {n : Nat} (h0 : I n a w)
    (round : ∀ n a w, I n a w → c.wp P (Exit.then (fun a' w' => ∃ m, m < n ∧ I m a' w') Q) a w) : (Code.loop c).wp P Q a w := by
  classical
  have ex : ∀ a w, (∃ n, I n a w) → ∃ m, I m a w ∧ ∀ k, I k a w → m ≤ k := fun a w ⟨n, h⟩ =>
    let ⟨m, h1, _, h3⟩ := least (p := fun n => I n a w) n h
    ⟨m, h1, h3⟩
  refine wp_loop (fun a w => ∃ n, I n a w) (fun a w => if h : ∃ n, I n a w then Classical.choose (ex a w h) else 0) ⟨n, h0⟩ fun a w hI => ?_
  have hc := Classical.choose_spec (ex a w hI)
  refine wp_mono (round _ a w hc.1) fun e a' w' hq => ?_
  cases e with
  | normal =>
    obtain ⟨m, hm, hIm⟩ := hq
    refine ⟨⟨m, hIm⟩, ?_⟩
    show (if h : ∃ n, I n a' w' then Classical.choose (ex a' w' h) else 0) < (if h : ∃ n, I n a w then Classical.choose (ex a w h) else 0)
    rw [dif_pos ⟨m, hIm⟩, dif_pos hI]
    exact Nat.lt_of_le_of_lt ((Classical.choose_spec (ex a' w' ⟨m, hIm⟩)).2 m hIm) hm
  | _ => exact hq
/-- A region that draws its order. -/
def DrawOk (P : Program) (G N D : Nat) (ops : Array Oper) (g : ListC D) : Prop :=
  ∀ F T st k, FnsOk P G F → g F T st k = true → ∃ T' st', k T' st' = true ∧ ∀ W R ρ a w l, SlR N ρ T a.tmps → Glob G ρ → Sim W R w ρ st l → ∀ (id : Nat) (Q : Exit → Act → World → Prop),
    (∀ ρ' a' w' l', NLe ρ ρ' → SlR N ρ' T' a'.tmps → a'.defers = a.defers → Sim W R w' ρ' st' l' → Q .normal a' w') → (Code.region id ops true).wp P Q a w
abbrev CodeC (D : Nat) := Fns → Sl D → St → (Sl D → St → Bool) → (Nat → Sl D → St → Bool) → (Sl D → St → Bool) → Bool
noncomputable def ctest (x : X) (a b : Bool) : Bool := X.rec (motive := fun _ => Bool) (fun v => V.rec (motive := fun _ => Bool) (fun c => cond c a b) (fun _ _ => false) (fun _ _ => false) (fun _ _ => false) (fun _ _ _ _ => false) (fun _ => false) v) (fun _ => false) (fun _ _ _ => false) false (fun _ _ _ _ => false) (fun _ => false) x
theorem ctest_ways {x : X} {a b : Bool} (h : ctest x a b = true) : ∃ c, x = .sc (.bool c) ∧ cond c a b = true := by
  cases x with
  | sc v => cases v with
    | bool c => exact ⟨c, rfl, h⟩
    | _ => cases h
  | _ => cases h
noncomputable def seqC {D : Nat} (f g : CodeC D) : CodeC D := fun F T st kn kx kr => f F T st (fun T' st' => g F T' st' kn kx kr) kx kr
noncomputable def condC {D : Nat} (e : Sl D → X) (f g : CodeC D) : CodeC D := fun F T st kn kx kr => ctest (e T) (f F T st kn kx kr) (g F T st kn kx kr)
noncomputable def blockC {D : Nat} (id : Nat) (f : CodeC D) : CodeC D := fun F T st kn kx kr => f F T st kn (fun j T' st' => cond (Nat.beq j id) (kn T' st') (kx j T' st')) kr
noncomputable def loopC {D : Nat} (n : Nat) (f : CodeC D) : CodeC D := fun F T st _ kx kr => Nat.rec (motive := fun _ => Sl D → St → Bool) (fun _ _ => false) (fun _ ih T st => f F T st ih kx kr) n T st
noncomputable def codeC {P : Program} {G D : Nat} (N K : Nat) (c : Cls P G D) (dr : Array Oper → Box (ListC D)) (cd : Code) : Box (CodeC D) :=
  Code.rec (motive := fun _ => Box (CodeC D)) ⟨fun _ T st kn _ _ => kn T st⟩
    (fun _ ops draw => cond draw ⟨fun F T st kn _ _ => (dr ops).f F T st kn⟩ ⟨fun F T st kn _ _ => (listC N c ops ops.toList).f F T st kn⟩)
    (fun _ _ ix iy => ⟨fun F T st kn kx kr => ix.f F T st (fun T' st' => iy.f F T' st' kn kx kr) kx kr⟩)
    (fun o _ _ ix iy => cond (opOk N G o) (bx (evC D o) fun e => ⟨fun F T st kn kx kr => ctest (e T) (ix.f F T st kn kx kr) (iy.f F T st kn kx kr)⟩) ⟨fun _ _ _ _ _ _ => false⟩)
    (fun id _ ih => ⟨fun F T st kn kx kr => ih.f F T st kn (fun j T' st' => cond (Nat.beq j id) (kn T' st') (kx j T' st')) kr⟩)
    (fun _ ih => ⟨fun F T st kn kx kr => loopC K ih.f F T st kn kx kr⟩)
    (fun _ _ _ _ _ _ => ⟨fun _ _ _ _ _ _ => false⟩)
    (fun id => ⟨fun _ T st _ kx _ => kx id T st⟩)
    (fun _ ih => ⟨fun F T st kn kx kr => ih.f F T st kn kx kr⟩)
    (fun _ => ⟨fun _ T st kn _ _ => kn T st⟩)
    (fun _ => ⟨fun _ _ _ _ _ _ => false⟩)
    ⟨fun _ T st _ _ kr => kr T st⟩
    (fun _ => ⟨fun _ _ _ _ _ _ => false⟩) cd
/-- Where a code ends. -/
def endK {D : Nat} (kn : Sl D → St → Bool) (kx : Nat → Sl D → St → Bool) (kr : Sl D → St → Bool) (T : Sl D) (st : St) : Exit → Bool
  | .normal => kn T st
  | .exit j => kx j T st
  | .ret => kr T st
  | _ => false
def CodeOk (P : Program) (G N D : Nat) (cd : Code) (f : CodeC D) : Prop :=
  ∀ F T st kn kx kr, FnsOk P G F → f F T st kn kx kr = true → ∃ e T' st', endK kn kx kr T' st' e = true ∧ ∀ W R ρ a w l, SlR N ρ T a.tmps → Glob G ρ → Sim W R w ρ st l → ∀ (Q : Exit → Act → World → Prop),
    (∀ ρ' a' w' l', NLe ρ ρ' → SlR N ρ' T' a'.tmps → a'.defers = a.defers → Sim W R w' ρ' st' l' → Q e a' w') → cd.wp P Q a w
section
variable {P : Program} {G N D K : Nat}
theorem bad_ok {cd : Code} {f : CodeC D} (h : ∀ F T st kn kx kr, f F T st kn kx kr = false) : CodeOk P G N D cd f := fun F T st kn kx kr _ hf => by rw [h] at hf; cases hf
theorem codeC_ok (c : Cls P G D) (hND : N ≤ 8 ^ D) {dr : Array Oper → Box (ListC D)} (hdr : ∀ ops, DrawOk P G N D ops (dr ops).f) : ∀ cd : Code, CodeOk P G N D cd (codeC N K c dr cd).f := by
  intro cd
  induction cd with
  | skip => exact fun F T st kn kx kr _ h => ⟨.normal, T, st, h, fun W R ρ a w l hs hG hsim Q hQ => wp_skip (hQ ρ a w l (.refl _) hs rfl hsim)⟩
  | region id ops draw =>
    intro F T st kn kx kr hF h
    cases draw with
    | false =>
      have h : (listC N c ops ops.toList).f F T st kn = true := h
      obtain ⟨T', st', hk, hx⟩ := listC_ok c hND ops ops.toList F T st kn hF h
      exact ⟨.normal, T', st', hk, fun W R ρ a w l hs hG hsim Q hQ => wp_region_list (hx W R ρ a w l hs hG hsim Q hQ)⟩
    | true =>
      have h : (dr ops).f F T st kn = true := h
      obtain ⟨T', st', hk, hx⟩ := hdr ops F T st kn hF h
      exact ⟨.normal, T', st', hk, fun W R ρ a w l hs hG hsim Q hQ => hx W R ρ a w l hs hG hsim id Q hQ⟩
  | seq x y ihx ihy =>
    intro F T st kn kx kr hF h
    have h : seqC (codeC N K c dr x).f (codeC N K c dr y).f F T st kn kx kr = true := h
    obtain ⟨e, T', st', hk, hx⟩ := ihx F T st _ _ _ hF h
    cases e with
    | normal =>
      obtain ⟨e2, T2, st2, hk2, hy⟩ := ihy F T' st' _ _ _ hF hk
      exact ⟨e2, T2, st2, hk2, fun W R ρ a w l hs hG hsim Q hQ => wp_seq (hx W R ρ a w l hs hG hsim _ fun ρ' a' w' l' hle hs' hd hsim' =>
        hy W R ρ' a' w' l' hs' (hG.mono hle) hsim' Q fun ρ3 a3 w3 l3 hle3 hs3 hd3 hsim3 => hQ ρ3 a3 w3 l3 (hle.trans hle3) hs3 (hd3.trans hd) hsim3)⟩
    | exit j => exact ⟨.exit j, T', st', hk, fun W R ρ a w l hs hG hsim Q hQ => wp_seq (hx W R ρ a w l hs hG hsim _ fun ρ' a' w' l' hle hs' hd hsim' => hQ ρ' a' w' l' hle hs' hd hsim')⟩
    | ret => exact ⟨.ret, T', st', hk, fun W R ρ a w l hs hG hsim Q hQ => wp_seq (hx W R ρ a w l hs hG hsim _ fun ρ' a' w' l' hle hs' hd hsim' => hQ ρ' a' w' l' hle hs' hd hsim')⟩
    | _ => cases hk
  | cond o x y ihx ihy =>
    intro F T st kn kx kr hF h
    have h : (cond (opOk N G o) (bx (evC D o) fun e => (⟨condC e (codeC N K c dr x).f (codeC N K c dr y).f⟩ : Box (CodeC D))) ⟨fun _ _ _ _ _ _ => false⟩).f F T st kn kx kr = true := h
    cases ho : opOk N G o with
    | false => rw [ho] at h; cases h
    | true =>
      rw [ho, cond_true, bx_f] at h
      have h : ctest ((evC D o).f T) ((codeC N K c dr x).f F T st kn kx kr) ((codeC N K c dr y).f F T st kn kx kr) = true := h
      obtain ⟨b, hb, h⟩ := ctest_ways h
      · have ev : ∀ {ρ : Names} {a : Act}, SlR N ρ T a.tmps → Glob G ρ → a.eval o = .bool b := fun {ρ a} hs hG => by
          have hx := evX_rel hs hG ho
          have hx : VR ρ (evX T o).toV (a.eval o) := hx
          rw [show evX T o = .sc (.bool b) from hb] at hx
          have hx : VR ρ (.bool b) (a.eval o) := hx
          generalize a.eval o = v at hx
          cases hx; rfl
        cases b with
        | true =>
          obtain ⟨e, T', st', hk, hx⟩ := ihx F T st _ _ _ hF h
          exact ⟨e, T', st', hk, fun W R ρ a w l hs hG hsim Q hQ => wp_cond_true (ev hs hG) (hx W R ρ a w l hs hG hsim Q hQ)⟩
        | false =>
          obtain ⟨e, T', st', hk, hx⟩ := ihy F T st _ _ _ hF h
          exact ⟨e, T', st', hk, fun W R ρ a w l hs hG hsim Q hQ => wp_cond_false (ev hs hG) (hx W R ρ a w l hs hG hsim Q hQ)⟩
  | block id x ih =>
    intro F T st kn kx kr hF h
    have h : blockC id (codeC N K c dr x).f F T st kn kx kr = true := h
    obtain ⟨e, T', st', hk, hx⟩ := ih F T st _ _ _ hF h
    cases e with
    | exit j =>
      have hk : cond (Nat.beq j id) (kn T' st') (kx j T' st') = true := hk
      cases hj : Nat.beq j id with
      | true =>
        rw [hj] at hk
        refine ⟨.normal, T', st', hk, fun W R ρ a w l hs hG hsim Q hQ => wp_block (hx W R ρ a w l hs hG hsim _ fun ρ' a' w' l' hle hs' hd hsim' => ?_)⟩
        show (if j = id then Q .normal a' w' else Q (.exit j) a' w')
        rw [if_pos (Nat.eq_of_beq_eq_true hj)]
        exact hQ ρ' a' w' l' hle hs' hd hsim'
      | false =>
        rw [hj] at hk
        refine ⟨.exit j, T', st', hk, fun W R ρ a w l hs hG hsim Q hQ => wp_block (hx W R ρ a w l hs hG hsim _ fun ρ' a' w' l' hle hs' hd hsim' => ?_)⟩
        show (if j = id then Q .normal a' w' else Q (.exit j) a' w')
        rw [if_neg fun q => by rw [q, Nat.beq_refl] at hj; cases hj]
        exact hQ ρ' a' w' l' hle hs' hd hsim'
    | normal => exact ⟨.normal, T', st', hk, fun W R ρ a w l hs hG hsim Q hQ => wp_block (hx W R ρ a w l hs hG hsim _ fun ρ' a' w' l' hle hs' hd hsim' => hQ ρ' a' w' l' hle hs' hd hsim')⟩
    | ret => exact ⟨.ret, T', st', hk, fun W R ρ a w l hs hG hsim Q hQ => wp_block (hx W R ρ a w l hs hG hsim _ fun ρ' a' w' l' hle hs' hd hsim' => hQ ρ' a' w' l' hle hs' hd hsim')⟩
    | _ => cases hk
  | loop x ih =>
    intro F T st kn kx kr hF h
    have h : loopC K (codeC N K c dr x).f F T st kn kx kr = true := h
    generalize (codeC N K c dr x).f = f at h ih
    unfold loopC at h
    have key : ∀ n T st, Nat.rec (motive := fun _ => Sl D → St → Bool) (fun _ _ => false) (fun _ ih T st => f F T st ih kx kr) n T st = true →
        ∃ e T' st', e ≠ .normal ∧ endK kn kx kr T' st' e = true ∧ ∀ W R ρ a w l, SlR N ρ T a.tmps → Glob G ρ → Sim W R w ρ st l → ∀ (Q : Exit → Act → World → Prop),
          (∀ ρ' a' w' l', NLe ρ ρ' → SlR N ρ' T' a'.tmps → a'.defers = a.defers → Sim W R w' ρ' st' l' → Q e a' w') →
          ∃ I : Nat → Act → World → Prop, I n a w ∧ ∀ n a w, I n a w → x.wp P (Exit.then (fun a' w' => ∃ m, m < n ∧ I m a' w') Q) a w := by
      intro n
      induction n with
      | zero => intro T st h; cases h
      | succ n ihn =>
        intro T st h
        obtain ⟨e, T', st', hk, hx⟩ := ih F T st _ _ _ hF h
        by_cases hne : e = .normal
        · subst hne
          obtain ⟨e2, T2, st2, hn2, hk2, hy⟩ := ihn T' st' hk
          refine ⟨e2, T2, st2, hn2, hk2, fun W R ρ a w l hs hG hsim Q hQ => ?_⟩
          -- the rounds behind the first one
          refine ⟨fun m a2 w2 => (m = n + 1 ∧ a2 = a ∧ w2 = w) ∨ (m ≤ n ∧ ∃ I : Nat → Act → World → Prop, I m a2 w2 ∧ ∀ n a w, I n a w → x.wp P (Exit.then (fun a' w' => ∃ m, m < n ∧ I m a' w') Q) a w), .inl ⟨rfl, rfl, rfl⟩, fun m a2 w2 hI => ?_⟩
          rcases hI with ⟨rfl, rfl, rfl⟩ | ⟨hm, I, hI, hround⟩
          · refine hx W R ρ a2 w2 l hs hG hsim _ fun ρ' a' w' l' hle hs' hd hsim' => ?_
            obtain ⟨I, hI, hround⟩ := hy W R ρ' a' w' l' hs' (hG.mono hle) hsim' Q fun ρ3 a3 w3 l3 hle3 hs3 hd3 hsim3 => hQ ρ3 a3 w3 l3 (hle.trans hle3) hs3 (hd3.trans hd) hsim3
            exact ⟨n, Nat.lt_succ_self _, .inr ⟨Nat.le_refl _, I, hI, hround⟩⟩
          · refine wp_mono (hround m a2 w2 hI) fun e a' w' hq => ?_
            cases e with
            | normal =>
              obtain ⟨m', hm', hI'⟩ := hq
              exact ⟨m', hm', .inr ⟨by omega, I, hI', hround⟩⟩
            | _ => exact hq
        · refine ⟨e, T', st', hne, ?_, fun W R ρ a w l hs hG hsim Q hQ => ⟨fun m a2 w2 => a2 = a ∧ w2 = w, ⟨rfl, rfl⟩, fun m a2 w2 hI => ?_⟩⟩
          · cases e <;> first | exact absurd rfl hne | exact hk
          · obtain ⟨rfl, rfl⟩ := hI
            refine hx W R ρ a2 w2 l hs hG hsim _ fun ρ' a' w' l' hle hs' hd hsim' => ?_
            have hq := hQ ρ' a' w' l' hle hs' hd hsim'
            cases e <;> first | exact absurd rfl hne | exact hq
    obtain ⟨e, T', st', _, hk, hx⟩ := key K T st h
    refine ⟨e, T', st', hk, fun W R ρ a w l hs hG hsim Q hQ => ?_⟩
    obtain ⟨I, h0, hround⟩ := hx W R ρ a w l hs hG hsim Q hQ
    exact wp_loop_n I h0 hround
  | exit id => exact fun F T st kn kx kr _ h => ⟨.exit id, T, st, h, fun W R ρ a w l hs hG hsim Q hQ => wp_exit (hQ ρ a w l (.refl _) hs rfl hsim)⟩
  | scope x ih =>
    intro F T st kn kx kr hF h
    obtain ⟨e, T', st', hk, hx⟩ := ih F T st kn kx kr hF h
    refine ⟨e, T', st', hk, fun W R ρ a w l hs hG hsim Q hQ => wp_scope_straight (hx W R ρ a w l hs hG hsim _ fun ρ' a' w' l' hle hs' hd hsim' => ?_)⟩
    have hq := hQ ρ' a' w' l' hle hs' hd hsim'
    cases e <;> first | exact hq | cases hk
  | label id => exact fun F T st kn kx kr _ h => ⟨.normal, T, st, h, fun W R ρ a w l hs hG hsim Q hQ => wp_label (hQ ρ a w l (.refl _) hs rfl hsim)⟩
  | ret => exact fun F T st kn kx kr _ h => ⟨.ret, T, st, h, fun W R ρ a w l hs hG hsim Q hQ => wp_ret (hQ ρ a w l (.refl _) hs rfl hsim)⟩
  | _ => exact bad_ok fun _ _ _ _ _ _ => rfl
end
end
section
open Go
/-- The operation that loads a result's cell. -/
def resLoad (t : Nat) (ty : TypeId) : Oper := ⟨none, .load ty (.tmp t), ty, "", #[], none⟩
abbrev ResC (D : Nat) := Sl D → St → (List X → Bool) → Bool
noncomputable def resL {P : Program} {G D : Nat} (N : Nat) (c : Cls P G D) (rs : List ResultVar) : Box (ResC D) :=
  List.rec (motive := fun _ => Box (ResC D)) ⟨fun _ _ k => k []⟩
    (fun r _ ih => match r with
      | .tmp t => cond (Nat.blt t N) (bx ih fun g => bx (getB t D) fun e => ⟨fun T st k => g T st fun l => k (e T :: l)⟩) ⟨fun _ _ _ => false⟩
      | .cell t ty => cond (Nat.blt t N) (bx ih fun g => bx (c.read_ (resLoad t ty)) fun f => ⟨fun T st k => f T st fun x => g T st fun l => k (x :: l)⟩) ⟨fun _ _ _ => false⟩) rs
def oneRes (t : Array Value) (r : ResultVar) : Sem Value :=
  match r with
  | .tmp x => pure (t.getD x undef)
  | .cell a ty => do loadVar ty (← asAddr (t.getD a undef))
noncomputable def tupX : List X → X
  | [] => .nil
  | [x] => x
  | x :: y :: l => .cons x (tupL (y :: l))
  where tupL : List X → X
  | [] => .nil
  | x :: l => .cons x (tupL l)
theorem tupL_both : ∀ l : List X, (tupX.tupL l).both.2 = l.map X.toV
  | [] => rfl
  | x :: l => by
    show x.toV :: (tupX.tupL l).both.2 = x.toV :: l.map X.toV
    rw [tupL_both l]
section
variable {P : Program} {G N D K : Nat}
theorem run_res_cell {a : Act} {t : Nat} {ty : TypeId} {w : World} {v : Value} (h : (execOp a.eval (resLoad t ty)).run P w = .ok (.value v) w) : (oneRes a.tmps (.cell t ty)).run P w = .ok v w := by
  have h : (Sem.bind (Instr.loadAt ty (a.tmps.getD t undef)) fun x => Sem.pure (Next.value x)).run P w = .ok (.value v) w := h
  show (asAddr (a.tmps.getD t undef) >>= fun ad => loadVar ty ad).run P w = _
  generalize a.tmps.getD t undef = p at h ⊢
  rw [show (Sem.bind (Instr.loadAt ty p) fun x => Sem.pure (Next.value x)) = (Instr.loadAt ty p >>= fun x => Sem.pure (Next.value x)) from rfl, Sem.run_bind] at h
  cases hr : (Instr.loadAt ty p).run P w with
  | halt x w' => rw [hr] at h; cases h
  | ok v' w' =>
    rw [hr] at h
    cases h
    cases p with
    | pointer q => cases q with
      | none => cases hr
      | some ad => exact hr
    | _ => cases hr
theorem resL_ok (c : Cls P G D) : ∀ (rs : List ResultVar) (T : Sl D) (st : St) (k : List X → Bool), (resL N c rs).f T st k = true → ∃ xs, k xs = true ∧ ∀ W R ρ (a : Act) w l, SlR N ρ T a.tmps → Glob G ρ → Sim W R w ρ st l → ∃ vs : List Value, (rs.mapM (oneRes a.tmps)).run P w = .ok vs w ∧ LR ρ (xs.map X.toV) vs
  | [], T, st, k, h => ⟨[], h, fun W R ρ a w l _ _ _ => ⟨[], rfl, .nil ρ⟩⟩
  | r :: rs, T, st, k, h => by
    have ih := resL_ok c rs
    have go : ∀ (x : X) (xs : List X) W R ρ (a : Act) w l, (∃ v, (oneRes a.tmps r).run P w = .ok v w ∧ VR ρ x.toV v) → (∃ vs : List Value, (rs.mapM (oneRes a.tmps)).run P w = .ok vs w ∧ LR ρ (xs.map X.toV) vs) → Sim W R w ρ st l → ∃ vs : List Value, ((r :: rs).mapM (oneRes a.tmps)).run P w = .ok vs w ∧ LR ρ ((x :: xs).map X.toV) vs := by
      intro x xs W R ρ a w l ⟨v, hv, hxv⟩ ⟨vs, hvs, hl⟩ _
      refine ⟨v :: vs, ?_, by simp [hl.1], fun i y y' hy hy' => ?_⟩
      · rw [List.mapM_cons]
        simp only [Sem.run_bind, hv, hvs, Result.andThen_ok]
        rfl
      · cases i with
        | zero => cases hy; cases hy'; exact hxv
        | succ i => exact hl.2 i y y' hy hy'
    cases r with
    | tmp t =>
      have h : (cond (Nat.blt t N) (bx (resL N c rs) fun g => bx (getB t D) fun e => (⟨fun T st k => g T st fun l => k (e T :: l)⟩ : Box (ResC D))) ⟨fun _ _ _ => false⟩).f T st k = true := h
      cases hb : Nat.blt t N with
      | false => rw [hb] at h; cases h
      | true =>
        rw [hb, cond_true, bx_f, bx_f] at h
        obtain ⟨xs, hk, hx⟩ := ih T st _ h
        exact ⟨_, hk, fun W R ρ a w l hs hG hsim => go _ xs W R ρ a w l ⟨_, rfl, hs.rel t (Nat.le_of_ble_eq_true hb)⟩ (hx W R ρ a w l hs hG hsim) hsim⟩
    | cell t ty =>
      have h : (cond (Nat.blt t N) (bx (resL N c rs) fun g => bx (c.read_ (resLoad t ty)) fun f => (⟨fun T st k => f T st fun x => g T st fun l => k (x :: l)⟩ : Box (ResC D))) ⟨fun _ _ _ => false⟩).f T st k = true := h
      cases hb : Nat.blt t N with
      | false => rw [hb] at h; cases h
      | true =>
        rw [hb, cond_true, bx_f, bx_f] at h
        obtain ⟨x, h, hr⟩ := c.readOk (resLoad t ty) rfl T st _ h
        obtain ⟨xs, hk, hx⟩ := ih T st _ h
        refine ⟨_, hk, fun W R ρ a w l hs hG hsim => go _ xs W R ρ a w l ?_ (hx W R ρ a w l hs hG hsim) hsim⟩
        obtain ⟨v, hv, hrun⟩ := hr W R ρ a w l (fun y hy => by
          have : y = .tmp t := by simpa [resLoad, Op.operands] using hy
          subst this
          exact hs.rel t (Nat.le_of_ble_eq_true hb)) hG hsim.rd
        exact ⟨v, run_res_cell hrun, hv⟩
theorem results_run {fn : Func} {ts : Array Value} {vs : List Value} {w : World} (h : (fn.results.toList.mapM (oneRes ts)).run P w = .ok vs w) : (results fn ts).run P w = .ok (if h1 : vs.length = 1 then vs[0] else .tuple vs.toArray) w := by
  have e : (fn.results.mapM (oneRes ts)).run P w = .ok vs.toArray w := by
    rw [Array.mapM_eq_mapM_toList, map_eq_pure_bind]
    simp only [Sem.run_bind, h, Result.andThen_ok]
    rfl
  show (fn.results.mapM (oneRes ts) >>= fun vs => pure (if h : vs.size = 1 then vs[0] else .tuple vs)).run P w = _
  rw [Sem.run_bind, e, Result.andThen_ok]
  by_cases h1 : vs.length = 1
  · rw [dif_pos h1]
    simp only [List.size_toArray, h1, dite_true]
    rfl
  · rw [dif_neg h1]
    simp only [List.size_toArray, h1, dite_false]
    rfl
theorem tup_rel {ρ : Names} : ∀ {xs : List X} {vs : List Value}, LR ρ (xs.map X.toV) vs → VR ρ (tupX xs).toV (if h1 : vs.length = 1 then vs[0] else .tuple vs.toArray)
  | [], vs, h => by
    have : vs = [] := List.length_eq_zero_iff.1 (by have := h.1; simpa using this.symm)
    subst this
    exact .undef ρ
  | [x], vs, h => by
    have hl : vs.length = 1 := by have := h.1; simpa using this.symm
    rw [dif_pos hl]
    exact h.2 0 _ _ rfl (List.getElem?_eq_getElem (by omega))
  | x :: y :: l, vs, h => by
    have hl : vs.length = l.length + 2 := by have := h.1; simpa using this.symm
    rw [dif_neg (by omega)]
    show VR ρ (.tuple (x.toV :: (tupX.tupL (y :: l)).both.2).toArray) _
    rw [tupL_both]
    have := h.array
    exact .tuple this.1 this.2
/-! ### Functions -/
noncomputable def slots0 {D : Nat} (args : List X) : Nat → Sl D → Sl D := List.rec (motive := fun _ => Nat → Sl D → Sl D) (fun _ T => T) (fun x _ ih i T => ih (Nat.add i 1) (set i x T)) args
theorem get_slots0 {D : Nat} : ∀ (args : List X) (i : Nat) (T : Sl D) (j : Nat), i + args.length ≤ 8 ^ D → j < 8 ^ D → get (slots0 args i T) j = if i ≤ j ∧ j < i + args.length then args.getD (j - i) .nil else get T j
  | [], i, T, j, _, _ => by
    rw [if_neg (by simp)]
    rfl
  | v :: l, i, t, j, h, hj => by
    have e : slots0 (v :: l) i t = slots0 l (i + 1) (set i v t) := rfl
    rw [e, get_slots0 l (i + 1) (set i v t) j (by simp at h; omega) hj]
    simp only [List.length_cons] at h ⊢
    by_cases h1 : i + 1 ≤ j ∧ j < i + 1 + l.length
    · rw [if_pos h1, if_pos (by omega)]
      rw [show j - i = (j - (i + 1)) + 1 from by omega, List.getD_cons_succ]
    · rw [if_neg h1]
      by_cases h2 : j = i
      · subst h2
        rw [get_set_same, if_pos (by omega), Nat.sub_self, List.getD_cons_zero]
      · rw [get_set_other v (fun q => h2 q.symm) D t (by omega) hj, if_neg (by omega)]
theorem slots0_rel {D : Nat} {ρ : Names} (hND : N ≤ 8 ^ D) {args : List X} {args' : Array Value} (hl : LR ρ (args.map X.toV) args'.toList) (hN : args.length ≤ N) : SlR N ρ (slots0 args 0 (leafs .nil D)) (args' ++ Array.replicate (N - args'.size) undef) := by
  have hs : args.length = args'.size := by have := hl.1; simpa using this
  refine ⟨by rw [Array.size_append, Array.size_replicate]; omega, fun j hj => ?_⟩
  rw [get_slots0 args 0 _ j (by rw [Nat.zero_add]; exact Nat.le_trans hN hND) (Nat.lt_of_lt_of_le hj hND), Array.getD_eq_getD_getElem?, Array.getElem?_append]
  by_cases h : j < args.length
  · rw [if_pos (by omega), if_pos (by omega), Nat.sub_zero]
    refine hl.2 j _ _ ?_ ?_
    · rw [List.getElem?_map, List.getD_eq_getElem?_getD, List.getElem?_eq_getElem h]; rfl
    · rw [Array.getElem?_toList, Array.getElem?_eq_getElem (by omega)]; rfl
  · rw [if_neg (by omega), if_neg (by omega), get_leafs, Array.getElem?_replicate, if_pos (by omega)]
    exact .undef ρ
/-- A function of the program, made ready once. -/
abbrev FnC := Fns → List X → St → (X → St → Bool) → Bool
/-- How deep the tree of the slots is. -/
def depS (n : Nat) : Nat := cond (Nat.ble n 8) 1 (cond (Nat.ble n 64) 2 3)
theorem depS_le {n : Nat} (h : n ≤ 512) : n ≤ 8 ^ depS n := by
  unfold depS
  cases h1 : Nat.ble n 8 with
  | true => have := Nat.le_of_ble_eq_true h1; simpa using this
  | false =>
    cases h2 : Nat.ble n 64 with
    | true => have := Nat.le_of_ble_eq_true h2; simpa using this
    | false => simpa using h
noncomputable def bodyC {D : Nat} (N : Nat) (g : CodeC D) (r : ResC D) (T0 : Sl D) : FnC := fun F args st k =>
  cond (Nat.ble args.length N) (g F (slots0 args 0 T0) st (fun T st' => r T st' fun xs => k (tupX xs) st') (fun _ _ _ => false) (fun T st' => r T st' fun xs => k (tupX xs) st')) false
noncomputable def fnC (P : Program) (G K : Nat) (cls : (D : Nat) → Cls P G D) (dr : (N D : Nat) → Cls P G D → Array Oper → Box (ListC D)) (f : FuncId) : Box FnC := match P.funcs[f]? with
  | some fn => match fn.body with
    | some cd => cond (Nat.ble fn.ntmps 512) (bx (codeC fn.ntmps K (cls (depS fn.ntmps)) (dr fn.ntmps (depS fn.ntmps) (cls (depS fn.ntmps))) cd) fun g => bx (resL fn.ntmps (cls (depS fn.ntmps)) fn.results.toList) fun r => ⟨bodyC fn.ntmps g r (leafs .nil (depS fn.ntmps))⟩) ⟨fun _ _ _ _ => false⟩
    | none => ⟨fun _ _ _ _ => false⟩
  | none => ⟨fun _ _ _ _ => false⟩
/-- What stands in for a function; else the function itself. The number: the deepest call. -/
noncomputable def evalFun (P : Program) (G K : Nat) (cls : (D : Nat) → Cls P G D) (dr : (N D : Nat) → Cls P G D → Array Oper → Box (ListC D)) (hook : FuncId → Option FnC) (n : Nat) : Fns :=
  Nat.rec (motive := fun _ => Fns) (fun _ _ _ _ => false) (fun _ ih f args st k => match hook f with
    | some h => h ih args st k
    | none => (fnC P G K cls dr f).f ih args st k) n
def FnOk (P : Program) (G : Nat) (f : FuncId) (h : FnC) : Prop :=
  ∀ F args st k, FnsOk P G F → h F args st k = true → ∃ x st', k x st' = true ∧ ∀ W R ρ (args' : Array Value) w l, LR ρ (args.map X.toV) args'.toList → Glob G ρ → Sim W R w ρ st l →
    Calls P f args' w fun e w' => ∃ ρ' v' l', e = .returned v' ∧ NLe ρ ρ' ∧ VR ρ' x.toV v' ∧ Sim W R w' ρ' st' l'
theorem fnC_ok (cls : (D : Nat) → Cls P G D) {dr : (N D : Nat) → Cls P G D → Array Oper → Box (ListC D)} (hdr : ∀ N D, N ≤ 8 ^ D → ∀ c ops, DrawOk P G N D ops (dr N D c ops).f) (f : FuncId) : FnOk P G f (fnC P G K cls dr f).f := by
  intro F args st k hF h
  unfold fnC at h
  cases hfn : P.funcs[f]? with
  | none => rw [hfn] at h; cases h
  | some fn =>
    rw [hfn] at h
    dsimp only at h
    cases hc : fn.body with
    | none => rw [hc] at h; cases h
    | some cd =>
      rw [hc] at h
      dsimp only at h
      cases hb : Nat.ble fn.ntmps 512 with
      | false => rw [hb] at h; cases h
      | true =>
        rw [hb, cond_true, bx_f, bx_f] at h
        have hND := depS_le (Nat.le_of_ble_eq_true hb)
        generalize depS fn.ntmps = D at h hND
        have h : cond (Nat.ble args.length fn.ntmps) ((codeC fn.ntmps K (cls D) (dr fn.ntmps D (cls D)) cd).f F (slots0 args 0 (leafs .nil D)) st _ _ _) false = true := h
        cases hb2 : Nat.ble args.length fn.ntmps with
        | false => rw [hb2] at h; cases h
        | true =>
          rw [hb2, cond_true] at h
          obtain ⟨e, T', st', hk, hx⟩ := codeC_ok (cls D) hND (hdr _ D hND (cls D)) cd F _ st _ _ _ hF h
          have fin : (resL fn.ntmps (cls D) fn.results.toList).f T' st' (fun xs => k (tupX xs) st') = true → e = .normal ∨ e = .ret → ∃ x st', k x st' = true ∧ ∀ W R ρ (args' : Array Value) w l, LR ρ (args.map X.toV) args'.toList → Glob G ρ → Sim W R w ρ st l →
              Calls P f args' w fun e w' => ∃ ρ' v' l', e = .returned v' ∧ NLe ρ ρ' ∧ VR ρ' x.toV v' ∧ Sim W R w' ρ' st' l' := by
            intro hr he
            obtain ⟨xs, hk2, hres⟩ := resL_ok (cls D) fn.results.toList T' st' _ hr
            refine ⟨_, st', hk2, fun W R ρ args' w l hl hG hs => calls_of_wp hfn hc ?_⟩
            refine hx W R ρ ⟨args' ++ Array.replicate (fn.ntmps - args'.size) undef, []⟩ w l (slots0_rel hND hl (Nat.le_of_ble_eq_true hb2)) hG hs _ fun ρ' a' w' l' hle hs' hd hsim' => ?_
            obtain ⟨vs, hrun, hlr⟩ := hres W R ρ' a' w' l' hs' (hG.mono hle) hsim'
            have hrr := results_run hrun
            rcases he with rfl | rfl
            · exact bodyPost_end hrr hd ⟨ρ', _, l', rfl, hle, tup_rel hlr, hsim'⟩
            · exact bodyPost_ret hrr hd ⟨ρ', _, l', rfl, hle, tup_rel hlr, hsim'⟩
          cases e with
          | normal => exact fin hk (.inl rfl)
          | ret => exact fin hk (.inr rfl)
          | exit j => cases hk
          | _ => cases hk
theorem evalFun_ok (cls : (D : Nat) → Cls P G D) {dr : (N D : Nat) → Cls P G D → Array Oper → Box (ListC D)} (hdr : ∀ N D, N ≤ 8 ^ D → ∀ c ops, DrawOk P G N D ops (dr N D c ops).f) {hook : FuncId → Option FnC} (hh : ∀ f h, hook f = some h → FnOk P G f h) : ∀ n, FnsOk P G (evalFun P G K cls dr hook n)
  | 0 => fun f args st k h => by cases h
  | n + 1 => fun f args st k h => by
    have ih := evalFun_ok cls hdr hh n
    have h : (match hook f with | some h => h (evalFun P G K cls dr hook n) args st k | none => (fnC P G K cls dr f).f (evalFun P G K cls dr hook n) args st k) = true := h
    split at h
    · rename_i g hg
      exact hh f g hg _ args st k ih h
    · exact fnC_ok cls hdr f _ args st k ih h
end
end
section
open Go
section
variable {P : Program} {G D : Nat} {o : Oper}
theorem run_fieldAt {t : TypeId} {fields : Array Field} {i : Nat} {f : Field} {inf : TypeInfo} (hu : P.underlying t = some (.struct fields)) (hf : fields[i]? = some f) (hi : P.info? f.type = some inf) (h0 : inf.size ≠ 0) (g o : Nat) (w : World) :
    (Instr.fieldAt t (.pointer (some ⟨g, o, none⟩)) i).run P w = .ok (.pointer (some ⟨g, o + f.offset, none⟩)) w := by
  unfold Instr.fieldAt fieldPlace
  simp only [Sem.run_bind, run_underlying hu w, Result.andThen_ok, hf, Instr.sureAddr, Sem.run_pure, sizeOf, typeInfo, run_program, hi, if_neg h0, add_plain]
theorem run_indexSlice {t e : TypeId} {inf : TypeInfo} (hu : P.underlying t = some (.slice e)) (hi : P.info? e = some inf) {g o n c : Nat} {k : IntKind} {i : Nat} (hin : i < n) (w : World) :
    (Instr.indexAt t (.slice (some ⟨g, o, none⟩) n c) (.int k (i : Int))).run P w = .ok (.pointer (some ⟨g, o + i * inf.size, none⟩)) w := by
  unfold Instr.indexAt
  have hb : (0 : Int) ≤ (i : Int) ∧ (i : Int) < (n : Int) := ⟨by omega, by omega⟩
  simp only [asIntOf, Sem.run_bind, Sem.run_pure, Result.andThen_ok, run_underlying hu w, if_pos hb, sizeOf, typeInfo, run_program, hi, add_plain, Int.toNat_natCast]
theorem run_indexArray {t e : TypeId} {inf : TypeInfo} {n : Nat} (hu : P.underlying t = some (.array n e)) (hi : P.info? e = some inf) {g o : Nat} {k : IntKind} {i : Nat} (hin : i < n) (w : World) :
    (Instr.indexAt t (.pointer (some ⟨g, o, none⟩)) (.int k (i : Int))).run P w = .ok (.pointer (some ⟨g, o + i * inf.size, none⟩)) w := by
  unfold Instr.indexAt
  have hb : (0 : Int) ≤ (i : Int) ∧ (i : Int) < (n : Int) := ⟨by omega, by omega⟩
  simp only [asIntOf, Sem.run_bind, Sem.run_pure, Result.andThen_ok, run_underlying hu w, Instr.sureAddr, if_pos hb, sizeOf, typeInfo, run_program, hi, add_plain, Int.toNat_natCast]
theorem exec_v {s : Sem Value} {v : Value} {w : World} (h : s.run P w = .ok v w) : (s >>= fun x => (pure (Next.value x) : Sem Next)).run P w = .ok (.value v) w := by
  rw [Sem.run_bind, h]; rfl
/-- The first natural that a kind does not hold. -/
def kcap : IntKind → Nat
  | .i8 => 128
  | .i16 => 32768
  | .i32 => 2147483648
  | .i64 => 9223372036854775808
  | .u8 => 256
  | .u16 => 65536
  | .u32 => 4294967296
  | .u64 => 18446744073709551616
theorem wrap_nat {k : IntKind} {n : Nat} (h : n < kcap k) : k.wrap (n : Int) = n := by
  cases k <;> simp only [kcap] at h <;> simp only [IntKind.wrap, IntKind.bits, IntKind.signed] <;> simp <;> omega
def beqKind : IntKind → IntKind → Bool
  | .i8, .i8 | .i16, .i16 | .i32, .i32 | .i64, .i64 | .u8, .u8 | .u16, .u16 | .u32, .u32 | .u64, .u64 => true
  | _, _ => false
theorem beqKind_eq {j k : IntKind} (h : beqKind j k = true) : j = k := by cases j <;> cases k <;> first | rfl | cases h
/-- Two naturals of one kind; else d. -/
noncomputable def int2 (x y : X) (kn : IntKind → Nat → Nat → Bool) (d : Bool) : Bool := X.rec (motive := fun _ => Bool) (fun v => V.rec (motive := fun _ => Bool) (fun _ => d) (fun k a => X.rec (motive := fun _ => Bool) (fun u => V.rec (motive := fun _ => Bool) (fun _ => d) (fun k' b => cond (beqKind k k') (kn k a b) d) (fun _ _ => d) (fun _ _ => d) (fun _ _ _ _ => d) (fun _ => d) u) (fun _ => d) (fun _ _ _ => d) d (fun _ _ _ _ => d) (fun _ => d) y) (fun _ _ => d) (fun _ _ => d) (fun _ _ _ _ => d) (fun _ => d) v) (fun _ => d) (fun _ _ _ => d) d (fun _ _ _ _ => d) (fun _ => d) x
/-- What a comparison or sum of two naturals answers. -/
inductive Bin
  | lss | leq | gtr | geq | eql | neq | add | sub | mul | other
def binOf : BinOp → Bin
  | .lss => .lss
  | .leq => .leq
  | .gtr => .gtr
  | .geq => .geq
  | .eql => .eql
  | .neq => .neq
  | .add => .add
  | .sub => .sub
  | .mul => .mul
  | _ => .other
noncomputable def binC {D : Nat} (b : Bin) (ex ey : Sl D → X) (gen : PureC D) : Box (PureC D) := match b with
  | .lss => ⟨fun T k => int2 (ex T) (ey T) (fun _ a b => k (.sc (.bool (Nat.blt a b)))) (gen T k)⟩
  | .leq => ⟨fun T k => int2 (ex T) (ey T) (fun _ a b => k (.sc (.bool (Nat.ble a b)))) (gen T k)⟩
  | .gtr => ⟨fun T k => int2 (ex T) (ey T) (fun _ a b => k (.sc (.bool (Nat.blt b a)))) (gen T k)⟩
  | .geq => ⟨fun T k => int2 (ex T) (ey T) (fun _ a b => k (.sc (.bool (Nat.ble b a)))) (gen T k)⟩
  | .eql => ⟨fun T k => int2 (ex T) (ey T) (fun _ a b => k (.sc (.bool (Nat.beq a b)))) (gen T k)⟩
  | .neq => ⟨fun T k => int2 (ex T) (ey T) (fun _ a b => k (.sc (.bool (cond (Nat.beq a b) false true)))) (gen T k)⟩
  | .add => ⟨fun T k => int2 (ex T) (ey T) (fun kd a b => cond (Nat.blt (Nat.add a b) (kcap kd)) (k (.sc (.int kd (Nat.add a b)))) (gen T k)) (gen T k)⟩
  | .sub => ⟨fun T k => int2 (ex T) (ey T) (fun kd a b => cond (Nat.ble b a && Nat.blt (Nat.sub a b) (kcap kd)) (k (.sc (.int kd (Nat.sub a b)))) (gen T k)) (gen T k)⟩
  | .mul => ⟨fun T k => int2 (ex T) (ey T) (fun kd a b => cond (Nat.blt (Nat.mul a b) (kcap kd)) (k (.sc (.int kd (Nat.mul a b)))) (gen T k)) (gen T k)⟩
  | .other => ⟨gen⟩
/-- A step of the short way: the value's run at any real operands. -/
def Ans (P : Program) (G D : Nat) (o : Oper) (T : Sl D) (x : X) : Prop := ∀ ρ a, OpR ρ T a o → Glob G ρ → ∃ v', VR ρ x.toV v' ∧ ∀ w, (execOp a.eval o).run P w = .ok (.value v') w
theorem int2_ways {x y : X} {kn : IntKind → Nat → Nat → Bool} {d : Bool} (h : int2 x y kn d = true) : (∃ k a b, x = .sc (.int k a) ∧ y = .sc (.int k b) ∧ kn k a b = true) ∨ d = true := by
  cases x with
  | sc v =>
    cases v with
    | int k a =>
      cases y with
      | sc u =>
        cases u with
        | int k' b =>
          have h2 : cond (beqKind k k') (kn k a b) d = true := h
          clear h
          cases hb : beqKind k k' with
          | false => rw [hb] at h2; exact .inr h2
          | true =>
            rw [hb] at h2
            have := beqKind_eq hb
            subst this
            exact .inl ⟨_, _, _, rfl, rfl, h2⟩
        | _ => exact .inr h
      | _ => exact .inr h
    | _ => exact .inr h
  | _ => exact .inr h
theorem run_bin {op : BinOp} {t t2 : TypeId} {x y : Operand} (hop : o.op = .binOp op t x y t2) {a : Act} {k k' : IntKind} {m n : Nat} (hx : a.eval x = .int k (m : Int)) (hy : a.eval y = .int k' (n : Int)) {v : Value} (h : ∀ w, (binOp op t (.int k (m : Int)) (.int k' (n : Int))).run P w = .ok v w) (w : World) : (execOp a.eval o).run P w = .ok (.value v) w := by
  unfold execOp
  simp only [hop, hx, hy]
  rw [Sem.run_bind, Sem.run_bind]
  have e : (eqGuard op t x y (.int k (m : Int)) (.int k' (n : Int))).run P w = .ok () w := by
    unfold eqGuard
    cases op <;> rfl
  rw [e, Result.andThen_ok, h w]
  rfl
theorem ans_bin {op : BinOp} {t t2 : TypeId} {x y : Operand} (hop : o.op = .binOp op t x y t2) {T : Sl D} {k : IntKind} {m n : Nat} (hx : evX T x = .sc (.int k m)) (hy : evX T y = .sc (.int k n)) {u : V} {v : Value} (hv : u.toV = v) (hs : selfOk v = true) (h : ∀ w, (binOp op t (.int k (m : Int)) (.int k (n : Int))).run P w = .ok v w) : Ans P G D o T (.sc u) := by
  intro ρ a hO hG
  have h1 := hO x (by rw [hop]; simp [Op.operands])
  have h2 := hO y (by rw [hop]; simp [Op.operands])
  rw [hx] at h1
  rw [hy] at h2
  have e1 : a.eval x = .int k (m : Int) := (h1.self_eq rfl)
  have e2 : a.eval y = .int k (n : Int) := (h2.self_eq rfl)
  exact ⟨v, by show VR ρ u.toV v; rw [hv]; exact .of_self ρ hs, run_bin hop e1 e2 h⟩
theorem run_int2 (op : BinOp) (t : TypeId) (k : IntKind) (m n : Int) (h1 : op ≠ .shl) (h2 : op ≠ .shr) : binOp op t (.int k m) (.int k n) = (match op with
    | .add | .sub | .mul => Op.intArith op k m n
    | .quo | .rem => Op.intDiv op k m n
    | .and | .or | .xor | .andNot => Op.intBits op k m n
    | _ => Op.intCmp op m n) := by
  unfold binOp
  cases op <;> first | exact absurd rfl h1 | exact absurd rfl h2 | simp only [ne_eq, not_true_eq_false, if_false]
theorem blt_int (a b : Nat) : decide ((a : Int) < (b : Int)) = Nat.blt a b := by
  cases h : Nat.blt a b with
  | true => have : a < b := Nat.le_of_ble_eq_true h; exact decide_eq_true (by omega)
  | false => exact decide_eq_false fun q => by rw [show Nat.blt a b = true from Nat.ble_eq_true_of_le (by omega)] at h; cases h
theorem ble_int (a b : Nat) : decide ((a : Int) ≤ (b : Int)) = Nat.ble a b := by
  cases h : Nat.ble a b with
  | true => have : a ≤ b := Nat.le_of_ble_eq_true h; exact decide_eq_true (by omega)
  | false => exact decide_eq_false fun q => by rw [Nat.ble_eq_true_of_le (show a ≤ b by omega)] at h; cases h
theorem beq_int (a b : Nat) : ((a : Int) == (b : Int)) = Nat.beq a b := by
  cases h : Nat.beq a b with
  | true => have := Nat.eq_of_beq_eq_true h; subst this; simp
  | false =>
    have : a ≠ b := Nat.ne_of_beq_eq_false h
    simp only [beq_eq_false_iff_ne, ne_eq]
    omega
theorem bne_int (a b : Nat) : ((a : Int) != (b : Int)) = cond (Nat.beq a b) false true := by
  show (!((a : Int) == (b : Int))) = _
  rw [beq_int]
  cases Nat.beq a b <;> rfl
theorem binC_ok {op : BinOp} {t t2 : TypeId} {x y : Operand} (hop : o.op = .binOp op t x y t2) {gen : PureC D} (hgen : PureOk P G D o gen) : PureOk P G D o (binC (binOf op) (evC D x).f (evC D y).f gen).f := by
  intro T k h
  have use : ∀ {kn : IntKind → Nat → Nat → Bool}, int2 (evX T x) (evX T y) kn (gen T k) = true → (∀ kd a b, evX T x = .sc (.int kd a) → evX T y = .sc (.int kd b) → kn kd a b = true → ∃ x, k x = true ∧ Ans P G D o T x) → ∃ x, k x = true ∧ Ans P G D o T x := by
    intro kn h hk
    rcases int2_ways h with ⟨kd, a, b, e1, e2, h⟩ | h
    · exact hk kd a b e1 e2 h
    · exact hgen T k h
  cases op with
  | lss => exact use h fun kd a b e1 e2 h => ⟨_, h, ans_bin hop e1 e2 rfl rfl fun w => by rw [run_int2 _ _ _ _ _ (by intro q; cases q) (by intro q; cases q)]; exact congrArg (fun q => Result.ok (Value.bool q) w) (blt_int a b)⟩
  | leq => exact use h fun kd a b e1 e2 h => ⟨_, h, ans_bin hop e1 e2 rfl rfl fun w => by rw [run_int2 _ _ _ _ _ (by intro q; cases q) (by intro q; cases q)]; exact congrArg (fun q => Result.ok (Value.bool q) w) (ble_int a b)⟩
  | gtr => exact use h fun kd a b e1 e2 h => ⟨_, h, ans_bin hop e1 e2 rfl rfl fun w => by rw [run_int2 _ _ _ _ _ (by intro q; cases q) (by intro q; cases q)]; exact congrArg (fun q => Result.ok (Value.bool q) w) (blt_int b a)⟩
  | geq => exact use h fun kd a b e1 e2 h => ⟨_, h, ans_bin hop e1 e2 rfl rfl fun w => by rw [run_int2 _ _ _ _ _ (by intro q; cases q) (by intro q; cases q)]; exact congrArg (fun q => Result.ok (Value.bool q) w) (ble_int b a)⟩
  | eql => exact use h fun kd a b e1 e2 h => ⟨_, h, ans_bin hop e1 e2 rfl rfl fun w => by rw [run_int2 _ _ _ _ _ (by intro q; cases q) (by intro q; cases q)]; exact congrArg (fun q => Result.ok (Value.bool q) w) (beq_int a b)⟩
  | neq => exact use h fun kd a b e1 e2 h => ⟨_, h, ans_bin hop e1 e2 rfl rfl fun w => by rw [run_int2 _ _ _ _ _ (by intro q; cases q) (by intro q; cases q)]; exact congrArg (fun q => Result.ok (Value.bool q) w) (bne_int a b)⟩
  | add =>
    refine use h fun kd a b e1 e2 h => ?_
    cases hb : Nat.blt (Nat.add a b) (kcap kd) with
    | false => rw [hb] at h; exact hgen T k h
    | true =>
      rw [hb] at h
      refine ⟨_, h, ans_bin hop e1 e2 rfl rfl fun w => ?_⟩
      rw [run_int2 _ _ _ _ _ (by intro q; cases q) (by intro q; cases q)]
      have : kd.wrap ((a : Int) + (b : Int)) = ((a + b : Nat) : Int) := by rw [← Int.natCast_add]; exact wrap_nat (Nat.le_of_ble_eq_true hb)
      exact congrArg (fun q => Result.ok (Value.int kd q) w) this
  | sub =>
    refine use h fun kd a b e1 e2 h => ?_
    cases hb : (Nat.ble b a && Nat.blt (Nat.sub a b) (kcap kd)) with
    | false => rw [hb] at h; exact hgen T k h
    | true =>
      rw [hb] at h
      rw [Bool.and_eq_true] at hb
      refine ⟨_, h, ans_bin hop e1 e2 rfl rfl fun w => ?_⟩
      rw [run_int2 _ _ _ _ _ (by intro q; cases q) (by intro q; cases q)]
      have hle := Nat.le_of_ble_eq_true hb.1
      have : kd.wrap ((a : Int) - (b : Int)) = ((a - b : Nat) : Int) := by
        rw [show (a : Int) - (b : Int) = ((a - b : Nat) : Int) from by omega]
        exact wrap_nat (Nat.le_of_ble_eq_true hb.2)
      exact congrArg (fun q => Result.ok (Value.int kd q) w) this
  | mul =>
    refine use h fun kd a b e1 e2 h => ?_
    cases hb : Nat.blt (Nat.mul a b) (kcap kd) with
    | false => rw [hb] at h; exact hgen T k h
    | true =>
      rw [hb] at h
      refine ⟨_, h, ans_bin hop e1 e2 rfl rfl fun w => ?_⟩
      rw [run_int2 _ _ _ _ _ (by intro q; cases q) (by intro q; cases q)]
      have : kd.wrap ((a : Int) * (b : Int)) = ((a * b : Nat) : Int) := by rw [← Int.natCast_mul]; exact wrap_nat (Nat.le_of_ble_eq_true hb)
      exact congrArg (fun q => Result.ok (Value.int kd q) w) this
  | _ => exact hgen T k h
end
end
section
open Go
section
variable {P : Program} {G D : Nat} {o : Oper}
noncomputable def onPtr (x : X) (kn : Nat → Nat → Bool) (d : Bool) : Bool := X.rec (motive := fun _ => Bool) (fun v => V.rec (motive := fun _ => Bool) (fun _ => d) (fun _ _ => d) (fun _ _ => d) (kn) (fun _ _ _ _ => d) (fun _ => d) v) (fun _ => d) (fun _ _ _ => d) d (fun _ _ _ _ => d) (fun _ => d) x
noncomputable def onSlice (x : X) (kn : Nat → Nat → Nat → Nat → Bool) (d : Bool) : Bool := X.rec (motive := fun _ => Bool) (fun v => V.rec (motive := fun _ => Bool) (fun _ => d) (fun _ _ => d) (fun _ _ => d) (fun _ _ => d) (kn) (fun _ => d) v) (fun _ => d) (fun _ _ _ => d) d (fun _ _ _ _ => d) (fun _ => d) x
noncomputable def onInt (x : X) (kn : Nat → Bool) (d : Bool) : Bool := X.rec (motive := fun _ => Bool) (fun v => V.rec (motive := fun _ => Bool) (fun _ => d) (fun _ n => kn n) (fun _ _ => d) (fun _ _ => d) (fun _ _ _ _ => d) (fun _ => d) v) (fun _ => d) (fun _ _ _ => d) d (fun _ _ _ _ => d) (fun _ => d) x
theorem onPtr_ways {x : X} {kn : Nat → Nat → Bool} {d : Bool} (h : onPtr x kn d = true) : (∃ b q, x = .sc (.ptr b q) ∧ kn b q = true) ∨ d = true := by
  cases x with
  | sc v => cases v with
    | ptr b q => exact .inl ⟨_, _, rfl, h⟩
    | _ => exact .inr h
  | _ => exact .inr h
theorem onSlice_ways {x : X} {kn : Nat → Nat → Nat → Nat → Bool} {d : Bool} (h : onSlice x kn d = true) : (∃ b q n c, x = .sc (.slice b q n c) ∧ kn b q n c = true) ∨ d = true := by
  cases x with
  | sc v => cases v with
    | slice b q n c => exact .inl ⟨_, _, _, _, rfl, h⟩
    | _ => exact .inr h
  | _ => exact .inr h
theorem onInt_ways {x : X} {kn : Nat → Bool} {d : Bool} (h : onInt x kn d = true) : (∃ k n, x = .sc (.int k n) ∧ kn n = true) ∨ d = true := by
  cases x with
  | sc v => cases v with
    | int k n => exact .inl ⟨_, _, rfl, h⟩
    | _ => exact .inr h
  | _ => exact .inr h
/-- The field's place: its offset, if it has a size. -/
def fieldOff (P : Program) (t : TypeId) (i : Nat) : Option Nat := match P.underlying t with
  | some (.struct fields) => match fields[i]? with
    | some f => match P.info? f.type with
      | some inf => cond (Nat.beq inf.size 0) none (some f.offset)
      | none => none
    | none => none
  | _ => none
/-- The elements of what is indexed: their size, and how many an array has. -/
def elemSz (P : Program) (t : TypeId) : Option (Nat × Option Nat) := match P.underlying t with
  | some (.slice e) => match P.info? e with
    | some inf => some (inf.size, none)
    | none => none
  | some (.array n e) => match P.info? e with
    | some inf => some (inf.size, some n)
    | none => none
  | _ => none
def isSl (P : Program) (t : TypeId) : Bool := match P.underlying t with
  | some (.slice _) => true
  | _ => false
noncomputable def pureC (P : Program) (G D : Nat) (o : Oper) : Box (PureC D) := match o.op with
  | .move x => bx (evC D x) fun e => ⟨fun T k => k (e T)⟩
  | .assign x => bx (evC D x) fun e => ⟨fun T k => k (e T)⟩
  | .binOp op _ x y _ => bx (evC D x) fun e => bx (evC D y) fun e2 => binC (binOf op) e e2 (genPure P G D o)
  | .fieldAddr t x i => match fieldOff P t i with
    | some off => bx (evC D x) fun e => ⟨fun T k => onPtr (e T) (fun b q => k (.sc (.ptr b (Nat.add q off)))) (genPure P G D o T k)⟩
    | none => ⟨genPure P G D o⟩
  | .indexAddr t x y => match elemSz P t with
    | some (sz, none) => bx (evC D x) fun e => bx (evC D y) fun e2 => ⟨fun T k => onSlice (e T) (fun b q n _ => onInt (e2 T) (fun i => cond (Nat.blt i n) (k (.sc (.ptr b (Nat.add q (Nat.mul i sz))))) false) false) (genPure P G D o T k)⟩
    | some (sz, some n) => bx (evC D x) fun e => bx (evC D y) fun e2 => ⟨fun T k => onPtr (e T) (fun b q => onInt (e2 T) (fun i => cond (Nat.blt i n) (k (.sc (.ptr b (Nat.add q (Nat.mul i sz))))) false) false) (genPure P G D o T k)⟩
    | none => ⟨genPure P G D o⟩
  | .nilCheck x => bx (evC D x) fun e => ⟨fun T k => onPtr (e T) (fun b q => k (.sc (.ptr b q))) (genPure P G D o T k)⟩
  | .call ⟨.builtin .len, ⟨[x]⟩, ⟨[t]⟩⟩ => cond (isSl P t) (bx (evC D x) fun e => ⟨fun T k => onSlice (e T) (fun _ _ n _ => k (.sc (.int .i64 n))) (genPure P G D o T k)⟩) ⟨genPure P G D o⟩
  | _ => ⟨genPure P G D o⟩
theorem Ans.of1 {T : Sl D} {x : Operand} {u : X} (hx : x ∈ o.op.operands) (h : ∀ ρ (a : Act), VR ρ (evX T x).toV (a.eval x) → ∃ v', VR ρ u.toV v' ∧ ∀ w, (execOp a.eval o).run P w = .ok (.value v') w) : Ans P G D o T u := fun ρ a hO _ => h ρ a (hO x hx)
theorem ptr_real {ρ : Names} {b q : Nat} {v : Value} (h : VR ρ (X.sc (.ptr b q)).toV v) : ∃ g c, ρ b = some (g, c) ∧ v = .pointer (some ⟨g, q, none⟩) := by
  have h : VR ρ (.pointer (some ⟨b, q, none⟩)) v := h
  cases h with
  | ptr hk => exact ⟨_, _, hk, rfl⟩
theorem slice_real {ρ : Names} {b q n c : Nat} {v : Value} (h : VR ρ (X.sc (.slice b q n c)).toV v) : ∃ g q' c' d, ρ b = some (g, d) ∧ v = .slice (some ⟨g, q', none⟩) n c' ∧ (0 < n → q' = q) := by
  have h : VR ρ (.slice (some ⟨b, q, none⟩) n c) v := h
  cases h with
  | slice hk hoff _ _ _ _ => exact ⟨_, _, _, _, hk, rfl, fun h => hoff (.inl h)⟩
theorem int_real {ρ : Names} {k : IntKind} {n : Nat} {v : Value} (h : VR ρ (X.sc (.int k n)).toV v) : v = .int k (n : Int) := by
  have h : VR ρ (.int k (n : Int)) v := h
  cases h; rfl
theorem pureC_ok (hs : notSelect o = true) : PureOk P G D o (pureC P G D o).f := by
  have gen : ∀ {T k}, genPure P G D o T k = true → ∃ x, k x = true ∧ Ans P G D o T x := fun {T k} h => genPure_ok hs T k h
  unfold pureC
  split
  · rename_i x hop
    rw [bx_f]
    exact fun T k h => ⟨_, h, Ans.of1 (x := x) (by rw [hop]; simp [Op.operands]) fun ρ a hx => ⟨_, hx, fun w => by simp only [execOp, hop]; rfl⟩⟩
  · rename_i x hop
    rw [bx_f]
    exact fun T k h => ⟨_, h, Ans.of1 (x := x) (by rw [hop]; simp [Op.operands]) fun ρ a hx => ⟨_, hx, fun w => by simp only [execOp, hop]; rfl⟩⟩
  · rename_i op t x y t2 hop
    rw [bx_f, bx_f]
    exact binC_ok hop (genPure_ok hs)
  · rename_i t x i hop
    split
    · rename_i off hoff
      rw [bx_f]
      intro T k h
      rcases onPtr_ways h with ⟨b, q, e, h⟩ | h
      · refine ⟨_, h, Ans.of1 (x := x) (by rw [hop]; simp [Op.operands]) fun ρ a hx => ?_⟩
        rw [show evX T x = _ from e] at hx
        obtain ⟨g, c, hk, hv⟩ := ptr_real hx
        unfold fieldOff at hoff
        split at hoff
        · rename_i fields hu
          split at hoff
          · rename_i f hf
            split at hoff
            · rename_i inf hi
              cases hb : Nat.beq inf.size 0 with
              | true => rw [hb] at hoff; cases hoff
              | false =>
                rw [hb] at hoff
                cases hoff
                refine ⟨.pointer (some ⟨g, q + f.offset, none⟩), .ptr hk, fun w => ?_⟩
                simp only [execOp, hop, hv]
                exact exec_v (run_fieldAt hu hf hi (Nat.ne_of_beq_eq_false hb) g q w)
            · cases hoff
          · cases hoff
        · cases hoff
      · exact gen h
    · exact genPure_ok hs
  · rename_i t x y hop
    split
    · rename_i sz hsz
      rw [bx_f, bx_f]
      intro T k h
      rcases onSlice_ways h with ⟨b, q, n, c, e, h⟩ | h
      · rcases onInt_ways h with ⟨kd, i, e2, h⟩ | h
        · cases hb : Nat.blt i n with
          | false => rw [hb] at h; cases h
          | true =>
            rw [hb] at h
            refine ⟨_, h, fun ρ a hO _ => ?_⟩
            have hx := hO x (by rw [hop]; simp [Op.operands])
            have hy := hO y (by rw [hop]; simp [Op.operands])
            rw [show evX T x = _ from e] at hx
            rw [show evX T y = _ from e2] at hy
            have hin : i < n := Nat.le_of_ble_eq_true hb
            obtain ⟨g, q', c', d, hk, hv, hq⟩ := slice_real hx
            have hq := hq (by omega)
            subst hq
            have hi := int_real hy
            unfold elemSz at hsz
            split at hsz
            · rename_i el hu
              split at hsz
              · rename_i inf hinf
                cases hsz
                refine ⟨.pointer (some ⟨g, q' + i * inf.size, none⟩), .ptr hk, fun w => ?_⟩
                simp only [execOp, hop, hv, hi]
                exact exec_v (run_indexSlice hu hinf hin w)
              · cases hsz
            · split at hsz <;> cases hsz
            · cases hsz
        · cases h
      · exact gen h
    · rename_i sz n hsz
      rw [bx_f, bx_f]
      intro T k h
      rcases onPtr_ways h with ⟨b, q, e, h⟩ | h
      · rcases onInt_ways h with ⟨kd, i, e2, h⟩ | h
        · cases hb : Nat.blt i n with
          | false => rw [hb] at h; cases h
          | true =>
            rw [hb] at h
            refine ⟨_, h, fun ρ a hO _ => ?_⟩
            have hx := hO x (by rw [hop]; simp [Op.operands])
            have hy := hO y (by rw [hop]; simp [Op.operands])
            rw [show evX T x = _ from e] at hx
            rw [show evX T y = _ from e2] at hy
            have hin : i < n := Nat.le_of_ble_eq_true hb
            obtain ⟨g, c, hk, hv⟩ := ptr_real hx
            have hi := int_real hy
            unfold elemSz at hsz
            split at hsz
            · split at hsz <;> cases hsz
            · rename_i m el hu
              split at hsz
              · rename_i inf hinf
                cases hsz
                refine ⟨.pointer (some ⟨g, q + i * inf.size, none⟩), .ptr hk, fun w => ?_⟩
                simp only [execOp, hop, hv, hi]
                exact exec_v (run_indexArray hu hinf hin w)
              · cases hsz
            · cases hsz
        · cases h
      · exact gen h
    · exact genPure_ok hs
  · rename_i x hop
    rw [bx_f]
    intro T k h
    rcases onPtr_ways h with ⟨b, q, e, h⟩ | h
    · refine ⟨_, h, Ans.of1 (x := x) (by rw [hop]; simp [Op.operands]) fun ρ a hx => ?_⟩
      rw [show evX T x = _ from e] at hx
      obtain ⟨g, c, hk, hv⟩ := ptr_real hx
      refine ⟨_, .ptr hk, fun w => ?_⟩
      simp only [execOp, hop, hv]
      rfl
    · exact gen h
  · rename_i x t hop
    cases hb : isSl P t with
    | false => exact genPure_ok hs
    | true =>
      rw [cond_true, bx_f]
      intro T k h
      rcases onSlice_ways h with ⟨b, q, n, c, e, h⟩ | h
      · refine ⟨_, h, Ans.of1 (x := x) (by rw [hop]; simp [Op.operands, Call.operands]) fun ρ a hx => ?_⟩
        rw [show evX T x = _ from e] at hx
        obtain ⟨g, q', c', d, hk, hv, hq⟩ := slice_real hx
        refine ⟨.int .i64 (n : Int), .int _ _, fun w => ?_⟩
        unfold isSl at hb
        split at hb
        · rename_i el hu
          simp only [execOp, hop, resolve, invoke, builtin, hv, Builtin.len_, Sem.run_bind, Sem.run_pure, Result.andThen_ok, List.map_toArray, List.map_cons, List.map_nil]
          simp [run_underlying hu w]
          rfl
        · cases hb
      · exact gen h
  · exact genPure_ok hs
end
end
section
open Go
section
variable {P : Program} {G D : Nat} {o : Oper}
/-- The block b of the computed memory: its cells; what has grown; else d. -/
noncomputable def onBlk (H : Heap) (b : Nat) (kc : (d : Nat) → Nat → Nd V d → TypeId → Bool) (kg : (d : Nat) → Nd V d → TypeId → Nat → Nat → Bool) (dflt : Bool) : Bool :=
  cond (Nat.blt b 32768) (O2.rec (motive := fun _ => Bool) dflt kc kg (fun _ => dflt) (get H b)) dflt
theorem onBlk_ways {H : Heap} {b : Nat} {kc : (d : Nat) → Nat → Nd V d → TypeId → Bool} {kg : (d : Nat) → Nd V d → TypeId → Nat → Nat → Bool} {dflt : Bool} (h : onBlk H b kc kg dflt = true) :
    (∃ d n t T, b < 32768 ∧ get H b = .cells d n t T ∧ findO b H = .cells (lst t n) T ∧ kc d n t T = true) ∨ (∃ d t T sz n, b < 32768 ∧ get H b = .grown d t T sz n ∧ findO b H = .grown (lst t (n * sz)) T sz n ∧ kg d t T sz n = true) ∨ dflt = true := by
  unfold onBlk at h
  cases hb : Nat.blt b 32768 with
  | false => rw [hb] at h; exact .inr (.inr h)
  | true =>
    rw [hb, cond_true] at h
    have hlt : b < 32768 := Nat.le_of_ble_eq_true hb
    have hf : findO b H = (get H b).toO := by unfold findO; rw [hb]; rfl
    cases hg : get H b with
    | gone => rw [hg] at h; exact .inr (.inr h)
    | cells d n t T => rw [hg] at h hf; exact .inl ⟨d, n, t, T, hlt, rfl, hf, h⟩
    | grown d t T sz n => rw [hg] at h hf; exact .inr (.inl ⟨d, t, T, sz, n, hlt, rfl, hf, h⟩)
    | raw ob => rw [hg] at h; exact .inr (.inr h)
/-- The cells q, q + 1, .. of a tree. -/
noncomputable def rng {d : Nat} (t : Nd V d) (n : Nat) : Nat → List V := Nat.rec (motive := fun _ => Nat → List V) (fun _ => []) (fun _ ih q => get t q :: ih (Nat.add q 1)) n
theorem rng_succ {d : Nat} (t : Nd V d) (n q : Nat) : rng t (n + 1) q = get t q :: rng t n (q + 1) := rfl
theorem rng_length {d : Nat} (t : Nd V d) : ∀ n q, (rng t n q).length = n
  | 0, _ => rfl
  | n + 1, q => by rw [rng_succ, List.length_cons, rng_length t n]
theorem rng_get {d : Nat} (t : Nd V d) : ∀ n q i, i < n → (rng t n q)[i]? = some (get t (q + i))
  | 0, _, _, h => absurd h (Nat.not_lt_zero _)
  | n + 1, q, 0, _ => rfl
  | n + 1, q, i + 1, h => by
    rw [rng_succ, List.getElem?_cons_succ, rng_get t n (q + 1) i (by omega)]
    congr 2
    omega
theorem lst_length {d : Nat} (t : Nd V d) (n : Nat) : (lst t n).length = n := by simp [lst]
theorem lst_get {d : Nat} (t : Nd V d) {n i : Nat} (h : i < n) : (lst t n)[i]? = some (get t i).toV := by
  unfold lst
  rw [List.getElem?_map, List.getElem?_range h]
  rfl
theorem rng_map {d : Nat} (t : Nd V d) {n q m : Nat} (h : q + n ≤ m) : (rng t n q).map V.toV = ((lst t m).drop q).take n := by
  apply List.ext_getElem?
  intro i
  rw [List.getElem?_map, List.getElem?_take]
  by_cases hi : i < n
  · rw [if_pos hi, rng_get t n q i hi, List.getElem?_drop, lst_get t (by omega)]
    rfl
  · rw [if_neg hi, List.getElem?_eq_none (by rw [rng_length]; omega)]
    rfl
theorem run_loadCells {g o : Nat} {w : World} : ∀ (vs : List Value) (i : Nat) (acc : Array Value), (∀ j v, vs[j]? = some v → w.cell? ⟨g, o + (i + j), none⟩ = some v) → (loadCellsFrom ⟨g, o, none⟩ i vs.length acc).run P w = .ok (acc ++ vs.toArray) w
  | [], i, acc, _ => by
    show Result.ok acc w = _
    simp
  | v :: vs, i, acc, h => by
    have e : (load ((⟨g, o, none⟩ : Addr).add i)).run P w = .ok v w := by
      rw [add_plain]
      have := h 0 v rfl
      simp only [load, Sem.run]
      rw [show w.cell? ⟨g, o + i, none⟩ = some v from this]
    show (load ((⟨g, o, none⟩ : Addr).add i) >>= fun v => loadCellsFrom ⟨g, o, none⟩ (i + 1) vs.length (acc.push v)).run P w = _
    rw [Sem.run_bind, e, Result.andThen_ok, run_loadCells vs (i + 1) (acc.push v) fun j u hu => by rw [show i + 1 + j = i + (j + 1) from by omega]; exact h (j + 1) u hu]
    simp
theorem run_loadAgg {t : TypeId} {d : TypeDesc} {inf : TypeInfo} (hu : P.underlying t = some d) (hd : d.isRow = true) (hi : P.info? t = some inf) {g o : Nat} {w : World} {vs : List Value} (hl : vs.length = inf.size) (h : ∀ j v, vs[j]? = some v → w.cell? ⟨g, o + j, none⟩ = some v) :
    (loadVar t ⟨g, o, none⟩).run P w = .ok (.agg vs.toArray) w := by
  have e : (isAgg t).run P w = .ok true w := by
    unfold isAgg
    rw [Sem.run_bind, run_underlying hu w, Result.andThen_ok]
    cases d <;> first | rfl | cases hd
  unfold loadVar
  rw [Sem.run_bind, e, Result.andThen_ok, if_pos rfl]
  simp only [sizeOf, typeInfo, Sem.run_bind, run_program, hi, Sem.run_pure, Result.andThen_ok, loadCells]
  rw [← hl, run_loadCells vs 0 #[] fun j v hv => by rw [Nat.zero_add]; exact h j v hv]
  simp
/-- What a load of the type loads: one cell, or so many. -/
def loadKind (P : Program) (t : TypeId) : Option (Option Nat) := match P.underlying t with
  | some d => match P.info? t with
    | some inf => some (cond d.isRow (some inf.size) none)
    | none => none
  | none => none
theorem loadKind_row {t : TypeId} {n : Nat} (h : loadKind P t = some (some n)) : ∃ d inf, P.underlying t = some d ∧ d.isRow = true ∧ P.info? t = some inf ∧ inf.size = n := by
  unfold loadKind at h
  split at h
  · rename_i d hu
    split at h
    · rename_i inf hi
      cases hd : d.isRow with
      | true => rw [hd] at h; cases h; exact ⟨d, inf, hu, hd, hi, rfl⟩
      | false => rw [hd] at h; cases h
    · cases h
  · cases h
theorem loadKind_one {t : TypeId} (h : loadKind P t = some none) : ∃ d inf, P.underlying t = some d ∧ d.isRow = false ∧ P.info? t = some inf := by
  unfold loadKind at h
  split at h
  · rename_i d hu
    split at h
    · rename_i inf hi
      cases hd : d.isRow with
      | true => rw [hd] at h; cases h
      | false => exact ⟨d, inf, hu, hd, hi⟩
    · cases h
  · cases h
noncomputable def load1 (H : Heap) (b q : Nat) (k : X → Bool) (dflt : Bool) : Bool := onBlk H b (fun _ n t _ => cond (Nat.blt q n) (k (.sc (get t q))) dflt) (fun _ t _ sz n => cond (Nat.blt q (Nat.mul n sz)) (k (.sc (get t q))) dflt) dflt
noncomputable def loadN (H : Heap) (n b q : Nat) (k : X → Bool) (dflt : Bool) : Bool := onBlk H b
  (fun d m t _ => cond (Nat.beq q 0 && Nat.beq n m) (k (.tree d n t)) (cond (Nat.ble (Nat.add q n) m) (k (.agg (rng t n q))) dflt))
  (fun _ t _ sz m => cond (Nat.ble (Nat.add q n) (Nat.mul m sz)) (k (.agg (rng t n q))) dflt) dflt
theorem load1_ways {H : Heap} {b q : Nat} {k : X → Bool} {dflt : Bool} (h : load1 H b q k dflt = true) : (∃ v, k (.sc v) = true ∧ cellO q (findO b H) = some v.toV) ∨ dflt = true := by
  rcases onBlk_ways h with ⟨d, n, t, T, _, _, hf, h⟩ | ⟨d, t, T, sz, n, _, _, hf, h⟩ | h
  · cases hb : Nat.blt q n with
    | false => rw [hb] at h; exact .inr h
    | true => rw [hb] at h; exact .inl ⟨_, h, by rw [hf]; exact lst_get t (Nat.le_of_ble_eq_true hb)⟩
  · cases hb : Nat.blt q (Nat.mul n sz) with
    | false => rw [hb] at h; exact .inr h
    | true => rw [hb] at h; exact .inl ⟨_, h, by rw [hf]; exact lst_get t (Nat.le_of_ble_eq_true hb)⟩
  · exact .inr h
theorem loadN_ways {H : Heap} {n b q : Nat} {k : X → Bool} {dflt : Bool} (h : loadN H n b q k dflt = true) : (∃ x cs, k x = true ∧ contO (findO b H) = some cs ∧ q + n ≤ cs.length ∧ x.toV = .agg ((cs.drop q).take n).toArray) ∨ dflt = true := by
  rcases onBlk_ways h with ⟨d, m, t, T, _, _, hf, h⟩ | ⟨d, t, T, sz, m, _, _, hf, h⟩ | h
  · cases hb : (Nat.beq q 0 && Nat.beq n m) with
    | true =>
      rw [hb] at h
      rw [Bool.and_eq_true] at hb
      have e1 := Nat.eq_of_beq_eq_true hb.1
      have e2 := Nat.eq_of_beq_eq_true hb.2
      subst e1; subst e2
      refine .inl ⟨_, lst t n, h, by rw [hf]; rfl, by rw [lst_length]; omega, ?_⟩
      show Value.agg (lst t n).toArray = _
      rw [List.drop_zero, List.take_of_length_le (by rw [lst_length]; exact Nat.le_refl _)]
    | false =>
      rw [hb, cond_false] at h
      cases hb2 : Nat.ble (Nat.add q n) m with
      | false => rw [hb2] at h; exact .inr h
      | true =>
        rw [hb2] at h
        have hle : q + n ≤ m := Nat.le_of_ble_eq_true hb2
        refine .inl ⟨_, lst t m, h, by rw [hf]; rfl, by rw [lst_length]; exact hle, ?_⟩
        show Value.agg (List.map V.toV (rng t n q)).toArray = _
        rw [rng_map t hle]
  · cases hb2 : Nat.ble (Nat.add q n) (Nat.mul m sz) with
    | false => rw [hb2] at h; exact .inr h
    | true =>
      rw [hb2] at h
      have hle : q + n ≤ m * sz := Nat.le_of_ble_eq_true hb2
      refine .inl ⟨_, lst t (m * sz), h, by rw [hf]; rfl, by rw [lst_length]; exact hle, ?_⟩
      show Value.agg (List.map V.toV (rng t n q)).toArray = _
      rw [rng_map t hle]
  · exact .inr h
theorem Rk.cont {W w : World} {R : Nat → Prop} {ρ : Names} {H : Nat → AObj} {l : Ents} (hs : Rk W R w ρ H l) {k g : Nat} {c : Option Nat} (hk : ρ k = some (g, c)) {cs : List Value} (hc : contO (H k) = some cs) : ∃ ds, LR ρ cs ds ∧ ∀ j u, ds[j]? = some u → w.cell? ⟨g, j, none⟩ = some u := by
  have hlen : ∃ ds : List Value, LR ρ cs ds := by
    cases ho : H k with
    | gone => rw [ho] at hc; cases hc
    | mp es c => rw [ho] at hc; cases hc
    | cells cs' T =>
      rw [ho] at hc; cases hc
      obtain ⟨ds, hl, _⟩ := hs.cells hk ho
      exact ⟨_, hl⟩
    | grown cs' T sz n =>
      rw [ho] at hc; cases hc
      obtain ⟨L, cap, hl, _⟩ := hs.grown hk ho
      exact ⟨_, hl⟩
  obtain ⟨ds, hl⟩ := hlen
  -- the cells themselves
  have cell : ∀ j v, cs[j]? = some v → ∃ v', w.cell? ⟨g, j, none⟩ = some v' ∧ VR ρ v v' := fun j v hv => by
    refine hs.cell hk ?_
    cases ho : H k with
    | gone => rw [ho] at hc; cases hc
    | mp es c => rw [ho] at hc; cases hc
    | cells cs' T => rw [ho] at hc; cases hc; exact hv
    | grown cs' T sz n => rw [ho] at hc; cases hc; exact hv
  refine ⟨(List.range cs.length).map fun j => (w.cell? ⟨g, j, none⟩).getD undef, ⟨by simp, fun i x y hx hy => ?_⟩, fun j u hu => ?_⟩
  · rw [List.getElem?_map, List.getElem?_range (List.getElem?_eq_some_iff.1 hx).1] at hy
    obtain ⟨v', hv', hr⟩ := cell i x hx
    cases hy
    show VR ρ x ((w.cell? ⟨g, i, none⟩).getD undef)
    rw [hv']
    exact hr
  · have hj : j < cs.length := by have := (List.getElem?_eq_some_iff.1 hu).1; simpa using this
    rw [List.getElem?_map, List.getElem?_range hj] at hu
    obtain ⟨v', hv', _⟩ := cell j _ (List.getElem?_eq_getElem hj)
    cases hu
    show w.cell? ⟨g, j, none⟩ = some ((w.cell? ⟨g, j, none⟩).getD undef)
    rw [hv']
    rfl
noncomputable def readC (P : Program) (G D : Nat) (o : Oper) : Box (ReadC D) := match o.op with
  | .load t x => match loadKind P t with
    | some none => bx (evC D x) fun e => ⟨fun T st k => onPtr (e T) (fun b q => load1 st.H b q k (genRead P G D o T st k)) (genRead P G D o T st k)⟩
    | some (some n) => bx (evC D x) fun e => ⟨fun T st k => onPtr (e T) (fun b q => loadN st.H n b q k (genRead P G D o T st k)) (genRead P G D o T st k)⟩
    | none => ⟨genRead P G D o⟩
  | _ => ⟨genRead P G D o⟩
theorem readC_ok (hs : notSelect o = true) : ReadOk P G D o (readC P G D o).f := by
  have gen := genRead_ok (P := P) (G := G) (D := D) (o := o) hs
  unfold readC
  split
  · rename_i t x hop
    split
    · rename_i hk
      obtain ⟨d, inf, hu, hd, hi⟩ := loadKind_one hk
      rw [bx_f]
      intro T st k h
      rcases onPtr_ways h with ⟨b, q, e, h⟩ | h
      · rcases load1_ways h with ⟨v, h, hc⟩ | h
        · refine ⟨_, h, fun W R ρ a w l hO _ hrk => ?_⟩
          have hx := hO x (by rw [hop]; simp [Op.operands])
          rw [show evX T x = _ from e] at hx
          obtain ⟨g, c, hk, hv⟩ := ptr_real hx
          obtain ⟨v', hv', hr⟩ := hrk.cell hk hc
          refine ⟨v', hr, ?_⟩
          simp only [execOp, hop, hv]
          exact exec_v (run_loadVar1 hv' hu hd)
        · exact gen T st k h
      · exact gen T st k h
    · rename_i n hk
      obtain ⟨d, inf, hu, hd, hi, hsz⟩ := loadKind_row hk
      rw [bx_f]
      intro T st k h
      rcases onPtr_ways h with ⟨b, q, e, h⟩ | h
      · rcases loadN_ways h with ⟨xx, cs, h, hc, hle, hxx⟩ | h
        · refine ⟨_, h, fun W R ρ a w l hO _ hrk => ?_⟩
          have hx := hO x (by rw [hop]; simp [Op.operands])
          rw [show evX T x = _ from e] at hx
          obtain ⟨g, c, hk, hv⟩ := ptr_real hx
          obtain ⟨ds, hl, hcell⟩ := hrk.cont hk hc
          have hl2 := (hl.drop q).take n
          refine ⟨.agg ((ds.drop q).take n).toArray, ?_, ?_⟩
          · rw [hxx]
            have := hl2.array
            exact .agg this.1 this.2
          · simp only [execOp, hop, hv]
            refine exec_v (run_loadAgg hu hd hi ?_ fun j v hv => ?_)
            · rw [← hl2.1, List.length_take, List.length_drop, hsz]; omega
            · rw [List.getElem?_take] at hv
              split at hv
              · rw [List.getElem?_drop] at hv; exact hcell _ v hv
              · cases hv
        · exact gen T st k h
      · exact gen T st k h
    · exact gen
  · exact gen
end
end
section
open Go
section
variable {P : Program} {G D : Nat} {o : Oper} {W w : World} {R : Nat → Prop} {ρ : Names} {st st' : St} {l : Ents}
/-- Cells of what has grown are written. -/
theorem set_grown (hs : Sim W R w ρ st l) {k g : Nat} {c : Option Nat} (hk : ρ k = some (g, c)) {cs news news' : List Value} {T : TypeId} {sz n q : Nat} (hf : findO k st.H = .grown cs T sz n) (hq : q + news.length ≤ n * sz) (hln : LR ρ news news') :
    (w.there g q news'.length) ∧ ∃ l', Sim W R (w.setCells g q news') ρ ⟨setO k (.grown (put cs q news) T sz n) st.H, st.n⟩ l' := by
  obtain ⟨L, cap, l2, hl, hqc, hLn, hLs, hnc, hcm, hp, hs2, hout⟩ := take_grown hs hk hf
  have hklt : k < 32768 := find_ge (H := st.H) (by rw [hf]; intro q; cases q)
  have hkn : k < st.n := Nat.lt_of_not_le fun q => by rw [hs.top k q] at hk; cases hk
  have KN := hs.kn.perm hp
  obtain ⟨ob, hob, cur, rfl, hcur, htk⟩ := KN.own _ _ .here
  have hblk : BlkT w g cur T := hob
  rw [hLn] at htk
  have hq' : q + news'.length ≤ n * sz := by rw [← hln.1]; exact hq
  have hle : n * sz ≤ cur.size := by rw [hcur]; exact Nat.mul_le_mul_right _ hnc
  obtain ⟨L', a1, a2, a3, a4⟩ := cap_put (T := T) (cs' := put L.flatten q news') hcur hnc hq' (by rw [put_take _ _ _ _ hq' (by rw [Array.length_toList]; exact hle), htk])
  have hon := only_setCells g news' q w
  have h3 := hs2.back (o := .grown (put cs q news) T sz n) hklt (.refl _) hk (fun j _ => rfl) (Nat.le_refl _) hkn (hs.nR hk) hout (KN.upd hon.os hon.tape hon.output hon.size hon.block .here ⟨_, heap_setCells g T news' q w cur hblk, a4⟩)
      (.inr ⟨g, cap, L', hqc ▸ hk, by rw [a3]; exact hl.put q hln, a1, a2, hnc, hcm, .here⟩) (hs.sd k g c (by rw [hf]; intro q; cases q) hk)
  refine ⟨fun j hj => ⟨?_, blk_free hblk _⟩, _, h3.congr (fun j => ?_) rfl⟩
  · rw [blk_cell hblk, Array.getElem?_eq_getElem (by omega)]; rfl
  · show findO j (setO k _ st.H) = findO j (setO k _ (setO k .gone st.H))
    rw [find_set hklt, find_set hklt, find_set hklt]
    by_cases h : j = k
    · rw [if_pos h, if_pos h]
    · rw [if_neg h, if_neg h, if_neg h]
/-- Cells of a block are written. -/
theorem put_cells (hs : Sim W R w ρ st l) {k g : Nat} {c : Option Nat} (hk : ρ k = some (g, c)) {cs news news' : List Value} {T : TypeId} {q : Nat} (hf : findO k st.H = .cells cs T) (hq : q + news.length ≤ cs.length) (hln : LR ρ news news') :
    (w.there g q news'.length) ∧ ∃ l', Sim W R (w.setCells g q news') ρ ⟨setO k (.cells (put cs q news) T) st.H, st.n⟩ l' := by
  obtain ⟨cs', hl, hh, hset⟩ := set_cells (ds := put cs q news) hs hk hf
  have hsz : cs.length = cs'.size := by have := hl.1; simpa using this
  have hblk := hs.kn.at_ hh
  have hq' : q + news'.length ≤ cs'.size := by rw [← hln.1, ← hsz]; exact hq
  refine ⟨fun j hj => ⟨?_, blk_free hblk _⟩, hset q news' ?_⟩
  · rw [blk_cell hblk, Array.getElem?_eq_getElem (by omega)]; rfl
  · rw [putL_toList _ _ _ hq']
    exact hl.put q hln
theorem lst_fillT {d : Nat} (vs : List V) {q m : Nat} (t : Nd V d) (hq : q + vs.length ≤ m) (hm : m ≤ 8 ^ d) : lst (fillT vs q t) m = put (lst t m) q (vs.map V.toV) := by
  apply List.ext_getElem?
  intro i
  by_cases hi : i < m
  · rw [lst_get _ hi, put_get _ _ _ (by rw [lst_length, List.length_map]; exact hq), List.length_map, get_fillT vs q t i (by omega) (by omega)]
    by_cases h : q ≤ i ∧ i < q + vs.length
    · rw [if_pos h, if_pos h, List.getElem?_map, List.getD_eq_getElem?_getD, List.getElem?_eq_getElem (by omega)]
      rfl
    · rw [if_neg h, if_neg h, lst_get _ hi]
  · rw [List.getElem?_eq_none (by rw [lst_length]; omega), List.getElem?_eq_none (by rw [put_length _ _ _ (by rw [lst_length, List.length_map]; exact hq), lst_length]; omega)]
/-- The cells vs go into the block b from q on. -/
noncomputable def storeL (st : St) (b q : Nat) (vs : List V) (k : X → St → Bool) : Bool := onBlk st.H b
  (fun d m t T => cond (Nat.ble (Nat.add q vs.length) m && Nat.ble m (Nat.pow 8 d)) (k .nil ⟨set b (.cells d m (fillT vs q t) T) st.H, st.n⟩) false)
  (fun d t T sz m => cond (Nat.ble (Nat.add q vs.length) (Nat.mul m sz) && Nat.ble (Nat.mul m sz) (Nat.pow 8 d)) (k .nil ⟨set b (.grown d (fillT vs q t) T sz m) st.H, st.n⟩) false) false
/-- A whole block gets the tree, if it has just as many cells. -/
noncomputable def storeT (st : St) (b q : Nat) (d n : Nat) (t : Nd V d) (k : X → St → Bool) : Bool := onBlk st.H b
  (fun _ m _ T => cond (Nat.beq q 0 && Nat.beq n m) (k .nil ⟨set b (.cells d n t T) st.H, st.n⟩) (storeL st b q (rng t n 0) k))
  (fun _ _ _ _ _ => storeL st b q (rng t n 0) k) false
theorem sim_set2 {b : Nat} {o1 : AObj} {o2 : O2} (hb : b < 32768) (ho : o2.toO = o1) (hs : Sim W R w ρ ⟨setO b o1 st.H, st.n⟩ l) : Sim W R w ρ ⟨set b o2 st.H, st.n⟩ l :=
  hs.congr (fun k => by
    show findO k (set b o2 st.H) = findO k (setO b o1 st.H)
    rw [find_set2 hb, find_set hb, ho]) rfl
theorem storeL_ways {b q : Nat} {vs : List V} {k : X → St → Bool} (h : storeL st b q vs k = true) : ∃ st', k .nil st' = true ∧ ∀ W R ρ w l g c (vs' : List Value), ρ b = some (g, c) → LR ρ (vs.map V.toV) vs' → Sim W R w ρ st l → w.there g q vs'.length ∧ ∃ l', Sim W R (w.setCells g q vs') ρ st' l' := by
  rcases onBlk_ways h with ⟨d, m, t, T, hb, _, hf, h⟩ | ⟨d, t, T, sz, m, hb, _, hf, h⟩ | h
  · cases hc : (Nat.ble (Nat.add q vs.length) m && Nat.ble m (Nat.pow 8 d)) with
    | false => rw [hc] at h; cases h
    | true =>
      rw [hc] at h
      rw [Bool.and_eq_true] at hc
      have h1 : q + vs.length ≤ m := Nat.le_of_ble_eq_true hc.1
      have h2 : m ≤ 8 ^ d := Nat.le_of_ble_eq_true hc.2
      refine ⟨_, h, fun W R ρ w l g c vs' hk hl hs => ?_⟩
      obtain ⟨r1, l', r2⟩ := put_cells hs hk (q := q) hf (by rw [List.length_map, lst_length]; exact h1) hl
      exact ⟨r1, l', sim_set2 hb (by show AObj.cells (lst (fillT vs q t) m) T = _; rw [lst_fillT vs t h1 h2]) r2⟩
  · cases hc : (Nat.ble (Nat.add q vs.length) (Nat.mul m sz) && Nat.ble (Nat.mul m sz) (Nat.pow 8 d)) with
    | false => rw [hc] at h; cases h
    | true =>
      rw [hc] at h
      rw [Bool.and_eq_true] at hc
      have h1 : q + vs.length ≤ m * sz := Nat.le_of_ble_eq_true hc.1
      have h2 : m * sz ≤ 8 ^ d := Nat.le_of_ble_eq_true hc.2
      refine ⟨_, h, fun W R ρ w l g c vs' hk hl hs => ?_⟩
      obtain ⟨r1, l', r2⟩ := set_grown hs hk (q := q) hf (by rw [List.length_map]; exact h1) hl
      exact ⟨r1, l', sim_set2 hb (by show AObj.grown (lst (fillT vs q t) (m * sz)) T sz m = _; rw [lst_fillT vs t h1 h2]) r2⟩
  · cases h
theorem put_all {cs vs : List Value} (h : vs.length = cs.length) : put cs 0 vs = vs := by
  unfold put
  rw [List.take_zero, List.nil_append, Nat.zero_add, h, List.drop_length, List.append_nil]
theorem storeT_ways {b q d n : Nat} {t : Nd V d} {k : X → St → Bool} (h : storeT st b q d n t k = true) : ∃ st', k .nil st' = true ∧ ∀ W R ρ w l g c (vs' : List Value), ρ b = some (g, c) → LR ρ (lst t n) vs' → Sim W R w ρ st l → w.there g q vs'.length ∧ ∃ l', Sim W R (w.setCells g q vs') ρ st' l' := by
  have viaL : storeL st b q (rng t n 0) k = true → ∃ st', k .nil st' = true ∧ ∀ W R ρ w l g c (vs' : List Value), ρ b = some (g, c) → LR ρ (lst t n) vs' → Sim W R w ρ st l → w.there g q vs'.length ∧ ∃ l', Sim W R (w.setCells g q vs') ρ st' l' := fun h => by
    obtain ⟨st', hk, hx⟩ := storeL_ways h
    refine ⟨st', hk, fun W R ρ w l g c vs' hb hl hs => hx W R ρ w l g c vs' hb ?_ hs⟩
    rw [rng_map t (m := n) (by omega), List.drop_zero, List.take_of_length_le (by rw [lst_length]; exact Nat.le_refl _)]
    exact hl
  rcases onBlk_ways h with ⟨d', m, t', T, hb, _, hf, h⟩ | ⟨d', t', T, sz, m, hb, _, hf, h⟩ | h
  · cases hc : (Nat.beq q 0 && Nat.beq n m) with
    | false => rw [hc] at h; exact viaL h
    | true =>
      rw [hc] at h
      rw [Bool.and_eq_true] at hc
      have e1 := Nat.eq_of_beq_eq_true hc.1
      have e2 := Nat.eq_of_beq_eq_true hc.2
      subst e1; subst e2
      refine ⟨_, h, fun W R ρ w l g c vs' hk hl hs => ?_⟩
      obtain ⟨r1, l', r2⟩ := put_cells hs hk (q := 0) (news := lst t n) hf (by rw [lst_length, lst_length]; omega) hl
      rw [put_all (by rw [lst_length, lst_length])] at r2
      exact ⟨r1, l', sim_set2 hb rfl r2⟩
  · exact viaL h
  · cases h
noncomputable def storeX (st : St) (b q sz : Nat) (x : X) (k : X → St → Bool) : Bool := match x with
  | .sc v => cond (Nat.beq sz 1) (storeL st b q [v] k) false
  | .agg vs => cond (Nat.beq vs.length sz) (storeL st b q vs k) false
  | .tree d n t => cond (Nat.beq n sz) (storeT st b q d n t k) false
  | _ => false
theorem one_cells {v : Value} (h : v.oneCell' = true) : v.cells = #[v] := by cases v <;> first | rfl | cases h
theorem all_one (vs : List V) : (vs.map V.toV).all (·.oneCell') = true := by
  rw [List.all_eq_true]
  intro x hx
  obtain ⟨v, _, rfl⟩ := List.mem_map.1 hx
  exact v.one
theorem all_lst {d : Nat} (t : Nd V d) (n : Nat) : (lst t n).all (·.oneCell') = true := by
  rw [List.all_eq_true]
  intro x hx
  unfold lst at hx
  obtain ⟨i, _, rfl⟩ := List.mem_map.1 hx
  exact (get t i).one
theorem storeX_ways {b q sz : Nat} {x : X} {k : X → St → Bool} (h : storeX st b q sz x k = true) : ∃ st', k .nil st' = true ∧ x.toV.cells.size = sz ∧ x.toV.cells.toList.all (·.oneCell') = true ∧
    ∀ W R ρ w l g c (vs' : List Value), ρ b = some (g, c) → LR ρ x.toV.cells.toList vs' → Sim W R w ρ st l → w.there g q vs'.length ∧ ∃ l', Sim W R (w.setCells g q vs') ρ st' l' := by
  unfold storeX at h
  split at h
  · rename_i v
    cases hb : Nat.beq sz 1 with
    | false => rw [hb] at h; cases h
    | true =>
      rw [hb] at h
      have := Nat.eq_of_beq_eq_true hb
      subst this
      obtain ⟨st', hk, hx⟩ := storeL_ways h
      have e : (X.sc v).toV.cells = #[v.toV] := one_cells v.one
      rw [e]
      exact ⟨st', hk, rfl, by simp [v.one], hx⟩
  · rename_i vs
    cases hb : Nat.beq vs.length sz with
    | false => rw [hb] at h; cases h
    | true =>
      rw [hb] at h
      have := Nat.eq_of_beq_eq_true hb
      subst this
      obtain ⟨st', hk, hx⟩ := storeL_ways h
      have e : (X.agg vs).toV.cells = (vs.map V.toV).toArray := rfl
      rw [e]
      exact ⟨st', hk, by simp, all_one vs, hx⟩
  · rename_i d n t
    cases hb : Nat.beq n sz with
    | false => rw [hb] at h; cases h
    | true =>
      rw [hb] at h
      have := Nat.eq_of_beq_eq_true hb
      subst this
      obtain ⟨st', hk, hx⟩ := storeT_ways h
      have e : (X.tree d n t).toV.cells = (lst t n).toArray := rfl
      rw [e]
      exact ⟨st', hk, by simp [lst_length], all_lst t n, hx⟩
  · cases h
noncomputable def storeC (P : Program) (G D : Nat) (o : Oper) : Box (LoudC D) := match o.op with
  | .store t a x => match P.info? t with
    | some inf => bx (evC D a) fun e => bx (evC D x) fun e2 => ⟨fun _ T st k => onPtr (e T) (fun b q => storeX st b q inf.size (e2 T) k) false⟩
    | none => ⟨fun _ _ _ _ => false⟩
  | _ => ⟨fun _ _ _ _ => false⟩
theorem storeC_ok : LoudOk P G D o (storeC P G D o).f := by
  unfold storeC
  split
  · rename_i t ad x hop
    split
    · rename_i inf hinf
      rw [bx_f, bx_f]
      intro F T st k _ h
      rcases onPtr_ways h with ⟨b, q, e, h⟩ | h
      · obtain ⟨st', hk, hsz, h1, hx⟩ := storeX_ways h
        refine ⟨_, st', hk, fun W R ρ a w l hO hG hs K Q hK => ?_⟩
        have hp := hO ad (by rw [hop]; simp [Op.operands])
        have hv := hO x (by rw [hop]; simp [Op.operands])
        rw [show evX T ad = _ from e] at hp
        obtain ⟨g, c, hkb, he⟩ := ptr_real hp
        have hcl := hv.cells
        obtain ⟨r1, l', r2⟩ := hx W R ρ w l g c _ hkb hcl.list hs
        unfold Oper.wp
        have hr := run_storeAt_any (P := P) (w := w) g q t (a.eval x) (by simpa using r1) (by
          rw [hinf]
          show some inf.size = _
          rw [← hcl.1]
          exact congrArg some hsz.symm) (by
          rw [← Array.all_toList]
          exact List.all_eq_true.2 fun u hu => hcl.list.one h1 u hu)
        have e2 : (execOp a.eval o).run P w = .ok .skip (w.setCells g q (a.eval x).cells.toList) := by
          simp only [execOp, hop, he]
          show (Instr.storeAt t _ (a.eval x) >>= fun _ => pure Next.skip).run P w = _
          rw [Sem.run_bind, hr]
          rfl
        rw [e2]
        exact hK ρ undef _ l' (.refl _) (.undef ρ) r2
      · cases h
    · intro F T st k _ h; cases h
  · intro F T st k _ h; cases h
end
end
section
open Go
section
variable {P : Program} {G D : Nat} {o : Oper}
/-- A value's block. -/
noncomputable def boxX (t : TypeId) (x : X) (k : O2 → Bool) (dflt : Bool) : Bool := match x with
  | .sc v => k (.cells 1 1 (set 0 v (leafs nov 1)) t)
  | .agg vs => cond (Nat.ble vs.length 4096) (k (.cells (dep vs.length) vs.length (treeOf (dep vs.length) vs) t)) dflt
  | .tree d n tr => k (.cells d n tr t)
  | _ => dflt
theorem boxX_ways {t : TypeId} {x : X} {k : O2 → Bool} {dflt : Bool} (h : boxX t x k dflt = true) : (∃ o2, k o2 = true ∧ o2.toO = .cells x.toV.cells.toList t) ∨ dflt = true := by
  unfold boxX at h
  split at h
  · rename_i v
    refine .inl ⟨_, h, ?_⟩
    rw [show (X.sc v).toV.cells = #[v.toV] from one_cells v.one]
    have : lst (d := 1) (set 0 v (leafs nov 1)) 1 = [v.toV] := by
      show [(get (d := 1) (set 0 v (leafs nov 1)) 0).toV] = _
      rw [get_set_same]
    show AObj.cells (lst _ 1) t = _
    rw [this]
  · rename_i vs
    cases hb : Nat.ble vs.length 4096 with
    | false => rw [hb] at h; exact .inr h
    | true =>
      rw [hb] at h
      refine .inl ⟨_, h, ?_⟩
      show AObj.cells (lst (treeOf (dep vs.length) vs) vs.length) t = .cells (List.map V.toV vs).toArray.toList t
      rw [lst_treeOf vs (dep_le (Nat.le_of_ble_eq_true hb))]
  · exact .inl ⟨_, h, rfl⟩
  · exact .inr h
theorem run_box (t : TypeId) (v : Value) (w : World) : (Instr.box t v).run P w = .ok (.pointer (some ⟨w.heap.size, 0, none⟩)) (w.alloc (.cells v.cells t)) := rfl
theorem run_allocz {t : TypeId} {inf : TypeInfo} {z : Value} (hi : P.info? t = some inf) (hz : inf.zero = some z) (w : World) : (Instr.alloc t true (.tuple #[])).run P w = .ok (.pointer (some ⟨w.heap.size, 0, none⟩)) (w.alloc (.cells z.cells t)) := by
  have e : (zeroValue t).run P w = .ok z w := by
    unfold zeroValue
    simp only [typeInfo, Sem.run_bind, run_program, hi, Sem.run_pure, Result.andThen_ok, hz]
  unfold Instr.alloc
  rw [Sem.run_bind, e]
  rfl
theorem exec_v2 {s : Sem Value} {v : Value} {w w' : World} (h : s.run P w = .ok v w') : (s >>= fun x => (pure (Next.value x) : Sem Next)).run P w = .ok (.value v) w' := by
  rw [Sem.run_bind, h]; rfl
/-- A slice of one element. -/
noncomputable def newC (P : Program) (G D : Nat) (o : Oper) : Box (NewC D) := match o.op with
  | .box t x => bx (evC D x) fun e => ⟨fun T n k => boxX t (e T) (fun o2 => k (.sc (.ptr n 0)) o2) (genNew P G D o T n k)⟩
  | .alloc t => match P.info? t with
    | some inf => match inf.zero with
      | some z => cond (selfOk z) ⟨fun _ n k => k (.sc (.ptr n 0)) (cellsOf z.cells.toList t)⟩ ⟨genNew P G D o⟩
      | none => ⟨genNew P G D o⟩
    | none => ⟨genNew P G D o⟩
  | _ => ⟨genNew P G D o⟩
theorem newC_ok (hs : notSelect o = true) : NewOk P G D o (newC P G D o).f := by
  have gen := genNew_ok (P := P) (G := G) (D := D) (o := o) hs
  unfold newC
  split
  · rename_i t x hop
    rw [bx_f]
    intro T n k hn h
    rcases boxX_ways h with ⟨o2, h, ho⟩ | h
    · refine ⟨_, o2, _, t, h, ho, fun ρ a hO _ => ?_⟩
      have hv := (hO x (by rw [hop]; simp [Op.operands])).cells
      refine ⟨(a.eval x).cells, hv.list, fun w ρ' hle hk => ⟨_, ?_, .ptr hk⟩⟩
      simp only [execOp, hop]
      exact exec_v2 (run_box t (a.eval x) w)
    · exact gen T n k hn h
  · rename_i t hop
    split
    · rename_i inf hinf
      split
      · rename_i z hz
        cases hb : selfOk z with
        | false => exact gen
        | true =>
          intro T n k hn h
          refine ⟨_, _, z.cells.toList, t, h, O2.toO_ofO (.cells z.cells.toList t), fun ρ a hO _ => ⟨z.cells, (VR.of_self ρ hb).cells.list, fun w ρ' hle hk => ⟨_, ?_, .ptr hk⟩⟩⟩
          simp only [execOp, hop]
          exact exec_v2 (run_allocz hinf hz w)
      · exact gen
    · exact gen
  · exact gen
end
end
end Go.Proofs.YtbgdjcoliiinjaaGreat
