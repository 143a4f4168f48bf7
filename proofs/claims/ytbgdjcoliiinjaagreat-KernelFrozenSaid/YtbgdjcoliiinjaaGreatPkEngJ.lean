/- Merged: KHook, TC, TD, Mk0, Plc, PlcU. -/
import Derived.Test.YtbgdjcoliiinjaaGreatPkEngK
import Derived.Test.YtbgdjcoliiinjaaGreatPkEngI
import Derived.Test.YtbgdjcoliiinjaaGreatPkGenJ
import Derived.Deep.Cut
import Derived.Deep.CutBlock
import Derived.Deep.DeepCutAuto
import Derived.Deep.RegionHeld3
import Derived.Deep.DrawnRows
import Derived.Deep.RegionWith
import Derived.BigQuiet
import Derived.Deep.QuietTactic
set_option linter.unusedVariables false
set_option linter.unusedSimpArgs false
set_option linter.unusedSectionVars false
namespace Go.Proofs.YtbgdjcoliiinjaaGreat
section
open Go
noncomputable def look {α : Type} (l : List (FuncId × α)) : FuncId → Option α := List.rec (motive := fun _ => FuncId → Option α) (fun _ => none) (fun q _ ih f => cond (Nat.beq f q.1) (some q.2) (ih f)) l
theorem look_ok {α : Type} {Q : FuncId → α → Prop} : ∀ {l : List (FuncId × α)}, (∀ q ∈ l, Q q.1 q.2) → ∀ f h, look l f = some h → Q f h
  | [], _, f, h, hh => by cases hh
  | q :: l, hl, f, h, hh => by
    have hh : cond (Nat.beq f q.1) (some q.2) (look l f) = some h := hh
    cases hb : Nat.beq f q.1 with
    | true =>
      rw [hb, cond_true] at hh
      cases hh
      rw [Nat.eq_of_beq_eq_true hb]
      exact hl q (by simp)
    | false =>
      rw [hb, cond_false] at hh
      exact look_ok (fun q hq => hl q (by simp [hq])) f h hh
/-- The same functions where both ways of a test are taken. -/
def liftP (h : FnC) : FnP := fun F _ args st k => h F args st k
theorem liftP_ok {P : Program} {G : Nat} {f : FuncId} {h : FnC} (hh : FnOk P G f h) : FnOkP P G f (liftP h) := hh.p
end
section
open Go Go.RowKit Go.BigFrame
/-! ### A known function stands in -/
theorem Sim.snap {W w w' : World} {R : Nat → Prop} {ρ : Names} {st : St} {l : Ents} (hs : Sim W R w ρ st l) (hb : Below w.heap.size w w') : ∃ ρ' l', NLe ρ ρ' ∧ Sim W R w' ρ' st l' ∧ ρ'.z = zAdd ρ.z w w' := by
  have hz : zOk ρ.z w := fun g o h => by
    rcases hs.sn g o h with ⟨h1, h2⟩ | hh
    · rw [hs.kn.frame g h1 (by simp)]; exact h2
    · obtain ⟨ob, h1, rfl⟩ := hs.kn.own _ _ hh; exact h1
  have hsz := hb.size
  -- the entries of the new blocks
  let es : Ents := (List.range (w'.heap.size - w.heap.size)).map fun i => (w.heap.size + i, fun o => w'.heap[w.heap.size + i]? = some o)
  have hkeys : es.map (·.1) = (List.range (w'.heap.size - w.heap.size)).map (w.heap.size + ·) := by simp [es, List.map_map, Function.comp_def]
  have hhas : ∀ {g : Nat} {Φ : Obj → Prop}, Has es g Φ → w.heap.size ≤ g ∧ g < w'.heap.size ∧ Φ = fun o => w'.heap[g]? = some o := fun {g Φ} h => by
    obtain ⟨i, hi, he⟩ := List.mem_map.1 h.mem
    have hi := List.mem_range.1 hi
    simp only [Prod.mk.injEq] at he
    obtain ⟨rfl, rfl⟩ := he
    exact ⟨by omega, by omega, rfl⟩
  have k2 : Kn [] w w' es := ⟨hb.os, hb.tape, hb.output, hb.size, fun k hk _ => hb.block k hk, fun g Φ h => by
      obtain ⟨h1, h2, rfl⟩ := hhas h
      exact ⟨_, Array.getElem?_eq_getElem h2, Array.getElem?_eq_getElem h2⟩, fun g Φ h => .inr (hhas h).1, by
      rw [hkeys]
      exact List.Pairwise.map _ (fun a b h e => h (by omega)) List.nodup_range⟩
  have hk := hs.kn.call0 k2
  have right : ∀ {g : Nat} {Φ : Obj → Prop}, Has l g Φ → Has (es ++ l) g Φ := fun h => Has.of_mem (List.mem_append_right _ h.mem)
  have left : ∀ {g : Nat} {Φ : Obj → Prop}, Has es g Φ → Has (es ++ l) g Φ := fun h => Has.of_mem (List.mem_append_left _ h.mem)
  have hle : NLe ρ ⟨ρ.b, ρ.s, zAdd ρ.z w w'⟩ := ⟨fun _ _ h => h, rfl, zAdd_mono hz w', fun g o hg h => by
    have hg : g < ρ.s.1.heap.size := hg
    have h : zAdd ρ.z w w' g = some o := h
    unfold zAdd at h
    rw [hs.base] at hg
    have := hs.kn.size
    rw [if_neg (by omega)] at h
    exact h⟩
  refine ⟨⟨ρ.b, ρ.s, zAdd ρ.z w w'⟩, _, hle, ⟨hk, fun k => (hs.rel k).imp id hle fun _ _ _ _ h => right h, hs.inj, hs.res, hs.rlt, hs.top, hs.base, fun g o h => ?_, fun k g c h hkg => ?_⟩, rfl⟩
  · have h : zAdd ρ.z w w' g = some o := h
    unfold zAdd at h
    split at h
    · rename_i hg
      have hlt := (Array.getElem?_eq_some_iff.1 h).1
      refine .inr ?_
      have e : (g, fun o : Obj => w'.heap[g]? = some o) ∈ es := List.mem_map.2 ⟨g - w.heap.size, List.mem_range.2 (by omega), by rw [show w.heap.size + (g - w.heap.size) = g by omega]⟩
      have e2 : (fun o' : Obj => w'.heap[g]? = some o') = (· = o) := by
        funext o'
        rw [h]
        exact propext ⟨fun q => (Option.some.inj q).symm, fun q => by rw [q]⟩
      rw [← e2]
      exact left (Has.of_mem e)
    · exact (hs.sn g o h).imp id right
  · show zAdd ρ.z w w' g = none
    have hn := hs.sd k g c h hkg
    obtain ⟨Φ, hh⟩ := (hs.rel k).has h (hs.nR hkg) hkg
    have hlt := hs.kn.lt hh
    unfold zAdd
    rw [if_neg (by omega)]
    exact hn
/-- A slice of rows: their type, whether so many rows are allowed. -/
def rowTop (t : V) (n : Nat) : Option Nat := match t with
  | .oth (.complex .f32 a b) => cond (Nat.beq (a % 8) 6 && Nat.beq n b || Nat.beq (a % 8) 7 && Nat.ble n b) (some (a / 8)) none
  | _ => none
theorem rowTop_rel {z : Nat → Option Obj} {t : V} {n j : Nat} {v : Value} (h : rowTop t n = some j) (hb : BS z j n v) : VR (dn z) t.toV v := by
  unfold rowTop at h
  split at h
  · rename_i a b
    cases hq : (Nat.beq (a % 8) 6 && Nat.beq n b || Nat.beq (a % 8) 7 && Nat.ble n b) with
    | false => rw [hq] at h; cases h
    | true =>
      rw [hq] at h
      cases h
      show VR (dn z) (.complex .f32 a b) v
      rw [Bool.or_eq_true, Bool.and_eq_true, Bool.and_eq_true] at hq
      rcases hq with ⟨h1, h2⟩ | ⟨h1, h2⟩
      · have h1 := Nat.eq_of_beq_eq_true h1
        have h2 := Nat.eq_of_beq_eq_true h2
        subst h2
        have e : VR (dn z) (.complex .f32 (a / 8 * 8 + 6) n) v := .bsl hb
        rwa [show a / 8 * 8 + 6 = a by omega] at e
      · have h1 := Nat.eq_of_beq_eq_true h1
        have e : VR (dn z) (.complex .f32 (a / 8 * 8 + 7) b) v := .bslU hb (Nat.le_of_ble_eq_true h2)
        rwa [show a / 8 * 8 + 7 = a by omega] at e
  · cases h
theorem BC.ofV {z : Nat → Option Obj} {ct : CT} {v : Value} (h : VR (dn z) ct.toV.toV v) : BC z ct v := by
  cases ct with
  | int k =>
    have h : VR (dn z) (.float .f64 (kidx k)) v := h
    generalize hq : kidx k = i at h
    cases h with
    | @anyI k' n hw => rw [kidx_inj hq]; exact .int hw
  | nat k lo hi =>
    have h : VR (dn z) (.complex .f64 (lo * 8 + kidx k) hi) v := h
    generalize hq : lo * 8 + kidx k = i at h
    cases h with
    | @rng k' a b n h1 h2 hw =>
      have e1 := kidx_lt k
      have e2 := kidx_lt k'
      have e3 : kidx k = kidx k' := by omega
      have e4 : lo = a := by omega
      subst e4
      rw [kidx_inj e3]
      exact .nat h1 h2 hw
  | bool =>
    have h : VR (dn z) (.complex .f32 5 0) v := h
    exact (by
      generalize hq : (5 : Nat) = t at h
      generalize hz : (0 : Nat) = u at h
      cases h with
      | any hs => cases hq
      | anyB b => exact .bool b
      | _ => omega)
  | sl j mx =>
    have h : VR (dn z) (.complex .f32 (j * 8 + 7) mx) v := h
    generalize hq : j * 8 + 7 = t at h
    cases h with
    | any hs => omega
    | @bslU j' _ n _ hh hn =>
      have : j = j' := by omega
      subst this
      exact .sl hn hh
    | _ => omega
/-- The cells of n rows at q in the block k. -/
noncomputable def rowsAt (H : Heap) (k q m : Nat) (kn : List V → Bool) : Bool := onBlk H k (fun _ n t _ => cond (Nat.ble (Nat.add q m) n) (kn (rng t m q)) false) (fun _ t _ sz n => cond (Nat.ble (Nat.add q m) (Nat.mul n sz)) (kn (rng t m q)) false) false
theorem allL_get {α : Type} {f : α → α → Bool} : ∀ {l r : List α}, allL f l r = true → l.length = r.length ∧ ∀ (i : Nat) (a b : α), l[i]? = some a → r[i]? = some b → f a b = true
  | [], [], _ => ⟨rfl, fun i a b h => by simp at h⟩
  | [], _ :: _, h => by cases h
  | _ :: _, [], h => by cases h
  | a :: l, b :: r, h => by
    unfold allL at h
    rw [Bool.and_eq_true] at h
    have ih := allL_get h.2
    refine ⟨by simp [ih.1], fun i x y hx hy => ?_⟩
    cases i with
    | zero => cases hx; cases hy; exact h.1
    | succ i => exact ih.2 i x y hx hy
section
variable {W w : World} {R : Nat → Prop} {ρ : Names} {st : St} {l : Ents}
theorem Sim.rows (hs : Sim W R w ρ st l) {k g q m : Nat} {c : Option Nat} {kn : List V → Bool} (hk : ρ k = some (g, c)) (h : rowsAt st.H k q m kn = true) :
    ∃ (xs : List V) (cur : Array Value) (T : TypeId), kn xs = true ∧ xs.length = m ∧ W.heap.size ≤ g ∧ w.heap[g]? = some (.cells cur T) ∧ ∀ i x, xs[i]? = some x → ∃ v, cur[q + i]? = some v ∧ VR ρ x.toV v := by
  unfold rowsAt at h
  rcases onBlk_ways h with ⟨d, n, t, T, _, _, hf, h⟩ | ⟨d, t, T, sz, n, _, _, hf, h⟩ | h
  · cases hb : Nat.ble (Nat.add q m) n with
    | false => rw [hb] at h; cases h
    | true =>
      rw [hb, cond_true] at h
      have hle : q + m ≤ n := Nat.le_of_ble_eq_true hb
      obtain ⟨cs', hl, _, hh⟩ := find_cells hs hk hf
      have hblk := hs.kn.at_ hh
      refine ⟨_, cs', T, h, rng_length t m q, ?_, hblk, fun i x hx => ?_⟩
      · rcases hs.kn.fresh _ _ hh with q | q
        · simp at q
        · exact q
      · have hi : i < m := by have := (List.getElem?_eq_some_iff.1 hx).1; rwa [rng_length] at this
        rw [rng_get t m q i hi] at hx
        cases hx
        obtain ⟨v, hv, hr⟩ := hl.get (lst_get t (show q + i < n by omega))
        exact ⟨v, by simpa using hv, hr⟩
  · cases hb : Nat.ble (Nat.add q m) (Nat.mul n sz) with
    | false => rw [hb] at h; cases h
    | true =>
      rw [hb, cond_true] at h
      have hle : q + m ≤ n * sz := Nat.le_of_ble_eq_true hb
      obtain ⟨L, cap, hl, _, hn, hsz, _, _, hh⟩ := find_grown hs hk hf
      obtain ⟨ob, hob, cur, rfl, _, ht⟩ := hs.kn.own _ _ hh
      refine ⟨_, cur, T, h, rng_length t m q, ?_, hob, fun i x hx => ?_⟩
      · rcases hs.kn.fresh _ _ hh with q | q
        · simp at q
        · exact q
      · have hi : i < m := by have := (List.getElem?_eq_some_iff.1 hx).1; rwa [rng_length] at this
        rw [rng_get t m q i hi] at hx
        cases hx
        obtain ⟨v, hv, hr⟩ := hl.get (lst_get t (show q + i < n * sz by omega))
        rw [← ht, List.getElem?_take] at hv
        split at hv
        · exact ⟨v, by simpa using hv, hr⟩
        · cases hv
  · cases h
/-- A named block is not written any more: its name is given up. -/
theorem Sim.freeze (hs : Sim W R w ρ st l) {k g : Nat} {c : Option Nat} (hk : ρ k = some (g, c)) (hlive : findO k st.H ≠ .gone) : ∃ ob ρ' l', w.heap[g]? = some ob ∧ NLe ρ ρ' ∧ Sim W R w ρ' ⟨set k .gone st.H, st.n⟩ l' ∧ ρ'.z = fun q => if q = g then some ob else ρ.z q := by
  have hlt := find_ge hlive
  obtain ⟨Φ, hh⟩ := (hs.rel k).has hlive (hs.nR hk) hk
  obtain ⟨ob, hob, _⟩ := hs.kn.own _ _ hh
  obtain ⟨l', rp⟩ := hh.repl (· = ob)
  have hz0 := hs.sd k g c hlive hk
  have hge : W.heap.size ≤ g := by
    rcases hs.kn.fresh _ _ hh with q | q
    · simp at q
    · exact q
  have fs : ∀ j, findO j (set k .gone st.H) = if j = k then .gone else findO j st.H := fun j => find_set2 hlt _ _ j
  have hle : NLe ρ ⟨ρ.b, ρ.s, fun q => if q = g then some ob else ρ.z q⟩ := ⟨fun _ _ h => h, rfl, fun q o hq => by
    show (if q = g then some ob else ρ.z q) = some o
    rw [if_neg (fun e => by rw [e, hz0] at hq; cases hq)]
    exact hq, fun q o hlt hq => by
    have hlt : q < ρ.s.1.heap.size := hlt
    rw [hs.base] at hlt
    have hq : (if q = g then some ob else ρ.z q) = some o := hq
    rw [if_neg (by omega)] at hq
    exact hq⟩
  have other : ∀ j q d, findO j (set k .gone st.H) ≠ .gone → ρ j = some (q, d) → j ≠ k ∧ findO j st.H ≠ .gone ∧ q ≠ g := fun j q d h hj => by
    rw [fs] at h
    by_cases e : j = k
    · rw [if_pos e] at h; exact absurd rfl h
    · rw [if_neg e] at h
      exact ⟨e, h, fun e2 => e (hs.inj j k q d c h hlive hj (e2 ▸ hk))⟩
  refine ⟨ob, ⟨ρ.b, ρ.s, fun q => if q = g then some ob else ρ.z q⟩, l', hob, hle, ⟨hs.kn.upd rfl rfl rfl (Nat.le_refl _) (fun _ _ _ => rfl) rp ⟨ob, hob, rfl⟩, fun j => ?_, fun j j' q d d' h h' hj hj' => ?_, hs.res, hs.rlt, hs.top, hs.base, fun q o hq => ?_, fun j q d h hj => ?_⟩, rfl⟩
  · show ORel R _ l' j (findO j (set k .gone st.H))
    by_cases e : j = k
    · rw [fs, if_pos e]; trivial
    · rw [fs, if_neg e]
      cases ho : findO j st.H with
      | gone => trivial
      | _ =>
        refine ho ▸ (hs.rel j).imp id hle fun q d Ψ hq hhq => rp.keep_ hhq fun e2 => e ?_
        exact hs.inj j k q d c (by rw [ho]; intro q; cases q) hlive hq (e2 ▸ hk)
  · exact hs.inj j j' q d d' (other j q d h hj).2.1 (other j' q d' h' hj').2.1 hj hj'
  · have hq : (if q = g then some ob else ρ.z q) = some o := hq
    by_cases e : q = g
    · rw [if_pos e] at hq
      cases hq
      exact .inr (e ▸ rp.new_)
    · rw [if_neg e] at hq
      exact (hs.sn q o hq).imp id fun hh => rp.keep_ hh e
  · show (if q = g then some ob else ρ.z q) = none
    obtain ⟨h1, h2, h3⟩ := other j q d h hj
    rw [if_neg h3]
    exact hs.sd j q d h2 hj
end
/-- A slice of a block of its own that is not written any more: as rows of type j. -/
noncomputable def frzS (x t : X) (st : St) : Option St := cond (leX x t) (some st) (match x with
  | .sc (.slice b q n _) => (match t with
    | .sc tv => (match rowTop tv n with
      | some j => cond (Nat.blt b 32768 && rowsAt st.H b q (Nat.mul n (RT j).length) fun l => allL leVv l (repsT j n)) (some ⟨set b .gone st.H, st.n⟩) none
      | none => none)
    | _ => none)
  | _ => none)
noncomputable def argsS : List X → List X → St → Option St
  | [], [], st => some st
  | x :: xs, t :: ts, st => (match frzS x t st with
    | some st' => argsS xs ts st'
    | none => none)
  | _, _, _ => none
noncomputable def dcP (xs ys : List X) : FnP := fun _ _ args st k => match argsS args xs st with
  | some st' => ys.all fun y => k y st'
  | none => false
noncomputable def dcU (xs : List X) (y : X) : FnC := fun _ args st k => match argsS args xs st with
  | some st' => k y st'
  | none => false
theorem CT.dat (ct : CT) : dat1 ct.toV.toV = true := by
  cases ct with
  | int k => rfl
  | nat k lo hi => rfl
  | bool => rfl
  | sl j mx =>
    show dat1 (.complex .f32 (j * 8 + 7) mx) = true
    have e1 : Nat.beq ((j * 8 + 7) % 8) 7 = true := by rw [show (j * 8 + 7) % 8 = 7 by omega]; rfl
    simp only [dat1, e1, Bool.true_or, Bool.or_true]
theorem repsT_get {j i : Nat} {ct : CT} (hct : (RT j)[i]? = some ct) : ∀ (n r : Nat), r < n → (repsT j n)[r * (RT j).length + i]? = some ct.toV := by
  have hi := (List.getElem?_eq_some_iff.1 hct).1
  intro n
  induction n with
  | zero => intro r hr; omega
  | succ n ihn =>
    intro r hr
    rw [repsT]
    cases r with
    | zero =>
      rw [Nat.zero_mul, Nat.zero_add, List.getElem?_append_left (by rw [List.length_map]; exact hi), List.getElem?_map, hct]
      rfl
    | succ r =>
      rw [List.getElem?_append_right (by rw [List.length_map, Nat.add_mul, Nat.one_mul]; omega), List.length_map]
      rw [show (r + 1) * (RT j).length + i - (RT j).length = r * (RT j).length + i by rw [Nat.add_mul, Nat.one_mul]; omega]
      exact ihn r (by omega)
theorem frzS_ok {x t : X} {st st' : St} (h : frzS x t st = some st') (hd : datX t = true) {W w : World} {R : Nat → Prop} {ρ : Names} {l : Ents} (hs : Sim W R w ρ st l) {v : Value} (hr : VR ρ x.toV v) : ∃ ρ' l', NLe ρ ρ' ∧ Sim W R w ρ' st' l' ∧ DR ρ'.z t v := by
  unfold frzS at h
  cases hx : leX x t with
  | true =>
    rw [hx] at h
    cases h
    exact ⟨ρ, l, .refl _, hs, ((leX_rel x t hx).1 v hr).toD hd⟩
  | false =>
    rw [hx, cond_false] at h
    split at h
    · rename_i b q n c
      split at h
      · rename_i tv
        split at h
        · rename_i j hj
          cases hb : (Nat.blt b 32768 && rowsAt st.H b q (Nat.mul n (RT j).length) fun l => allL leVv l (repsT j n)) with
          | false => rw [hb] at h; cases h
          | true =>
            rw [hb] at h
            cases h
            rw [Bool.and_eq_true] at hb
            have hr : VR ρ (.slice (some ⟨b, q, none⟩) n c) v := hr
            cases hr with
            | @slice _ _ q' g _ _ c' qq hk hoff hn hm he ho =>
              obtain ⟨xs, cur, T, hall, hlen, hg, hblk, hcell⟩ := hs.rows hk hb.2
              obtain ⟨hl1, hl2⟩ := allL_get hall
              have hlive : findO b st.H ≠ .gone := fun e => by
                have h2 := hb.2
                unfold rowsAt at h2
                rcases onBlk_ways h2 with ⟨_, _, _, _, _, _, hf, _⟩ | ⟨_, _, _, _, _, _, _, hf, _⟩ | h2
                · rw [hf] at e; cases e
                · rw [hf] at e; cases e
                · cases h2
              obtain ⟨ob, ρ', l', hob, hle, hs', hz'⟩ := hs.freeze hk hlive
              refine ⟨ρ', l', hle, hs', ?_⟩
              rw [hblk] at hob
              cases hob
              refine rowTop_rel hj (.mk (fun r i => cur.getD (q + r * (RT j).length + i) undef) hn hm (fun h0 => ⟨g, q', rfl, fun r i hrn hi => ?_⟩) fun r i ct hrn hct => ?_)
              · have hqq := hoff (.inl h0)
                subst hqq
                have hlt : r * (RT j).length + i < n * (RT j).length := by
                  have : (r + 1) * (RT j).length ≤ n * (RT j).length := Nat.mul_le_mul_right _ hrn
                  rw [Nat.add_mul, Nat.one_mul] at this
                  omega
                have hlt2 : r * (RT j).length + i < xs.length := by rw [hlen]; exact hlt
                obtain ⟨u, hu, _⟩ := hcell _ _ (List.getElem?_eq_getElem hlt2)
                rw [← Nat.add_assoc] at hu
                unfold zc
                rw [hz']
                dsimp only
                rw [if_pos rfl]
                show cur[_]? = some (cur.getD _ undef)
                rw [Array.getD_eq_getD_getElem?, hu]
                rfl
              · have hi := (List.getElem?_eq_some_iff.1 hct).1
                have hlt : r * (RT j).length + i < n * (RT j).length := by
                  have : (r + 1) * (RT j).length ≤ n * (RT j).length := Nat.mul_le_mul_right _ hrn
                  rw [Nat.add_mul, Nat.one_mul] at this
                  omega
                have hlt2 : r * (RT j).length + i < xs.length := by rw [hlen]; exact hlt
                obtain ⟨u, hu, hur⟩ := hcell _ _ (List.getElem?_eq_getElem hlt2)
                rw [← Nat.add_assoc] at hu
                have hle2 := hl2 _ _ _ (List.getElem?_eq_getElem hlt2) (repsT_get hct n r hrn)
                show BC ρ'.z ct (cur.getD _ undef)
                rw [Array.getD_eq_getD_getElem?, hu]
                exact BC.ofV (((leVv_rel hle2 hur).mono hle).toD1 ct.dat)
        · cases h
      · cases h
    · cases h
theorem argsS_ok {xs ts : List X} {st st' : St} (h : argsS xs ts st = some st') (hd : ts.all datX = true) {W w : World} {R : Nat → Prop} {ρ : Names} {l : Ents} (hs : Sim W R w ρ st l) {vs : List Value} (hr : LR ρ (xs.map X.toV) vs) : ∃ ρ' l', NLe ρ ρ' ∧ Sim W R w ρ' st' l' ∧ DL ρ'.z ts vs := by
  induction xs generalizing ts st ρ l vs with
  | nil =>
    cases ts with
    | nil => cases h; exact ⟨ρ, l, .refl _, hs, hr.1, fun i x v hx => by simp at hx⟩
    | cons t ts => cases h
  | cons x xs ih =>
    cases ts with
    | nil => cases h
    | cons t ts =>
      rw [List.all_cons, Bool.and_eq_true] at hd
      cases vs with
      | nil => have := hr.1; simp at this
      | cons v vs =>
        have h : (match frzS x t st with
          | some st' => argsS xs ts st'
          | none => none) = some st' := h
        cases hf : frzS x t st with
        | none => rw [hf] at h; cases h
        | some st1 =>
          rw [hf] at h
          obtain ⟨ρ1, l1, hle1, hs1, r1⟩ := frzS_ok hf hd.1 hs (hr.2 0 _ _ rfl rfl)
          have hr1 : LR ρ (xs.map X.toV) vs := ⟨by have := hr.1; simpa using this, fun i a b ha hb => hr.2 (i + 1) a b (by simpa using ha) (by simpa using hb)⟩
          obtain ⟨ρ2, l2, hle2, hs2, r2⟩ := ih h hd.2 hs1 (hr1.mono hle1)
          refine ⟨ρ2, l2, hle1.trans hle2, hs2, by have := r2.1; simpa using this, fun i a b ha hb => ?_⟩
          cases i with
          | zero => cases ha; cases hb; exact VR.ofD (ρ := dn ρ2.z) hle2.z r1
          | succ i => exact r2.2 i a b (by simpa using ha) (by simpa using hb)
theorem Sim.zOk {W w : World} {R : Nat → Prop} {ρ : Names} {st : St} {l : Ents} (hs : Sim W R w ρ st l) : zOk ρ.z w := fun g o h => by
  rcases hs.sn g o h with ⟨h1, h2⟩ | hh
  · rw [hs.kn.frame g h1 (by simp)]; exact h2
  · obtain ⟨ob, h1, rfl⟩ := hs.kn.own _ _ hh; exact h1
section
variable {P : Program} {G : Nat} {f : FuncId} {xs ys : List X}
theorem dcP_ok (h : DC P f xs ys) (hd : xs.all datX = true) : FnOkP P G f (dcP xs ys) := by
  intro F Fp args st k _ _ hf W R ρ args' w l hl hG hs
  unfold dcP at hf
  split at hf
  · rename_i st1 ha
    obtain ⟨ρ1, l1, hle1, hs1, hdl⟩ := argsS_ok ha hd hs hl
    refine Calls.mono (h ρ1.z w args' hs1.zOk hdl) fun e w' hh => ?_
    obtain ⟨v', y, hy, he, hv, hb⟩ := hh
    obtain ⟨ρ', l', hle, hs', hz'⟩ := hs1.snap hb
    exact ⟨y, st1, ρ', v', l', List.all_eq_true.1 hf y hy, he, hle1.trans hle, VR.ofD (fun g o hg => by rw [hz']; exact hg) hv, hs'⟩
  · cases hf
theorem dcU_ok {y : X} (h : DC P f xs [y]) (hd : xs.all datX = true) : FnOk P G f (dcU xs y) := by
  intro F args st k _ hf
  unfold dcU at hf
  split at hf
  · rename_i st1 ha
    refine ⟨y, st1, hf, fun W R ρ args' w l hl hG hs => ?_⟩
    obtain ⟨ρ1, l1, hle1, hs1, hdl⟩ := argsS_ok ha hd hs hl
    refine Calls.mono (h ρ1.z w args' hs1.zOk hdl) fun e w' hh => ?_
    obtain ⟨v', y', hy, he, hv, hb⟩ := hh
    rw [List.mem_singleton] at hy
    subst hy
    obtain ⟨ρ', l', hle, hs', hz'⟩ := hs1.snap hb
    exact ⟨ρ', v', l', he, hle1.trans hle, VR.ofD (fun g o hg => by rw [hz']; exact hg) hv, hs'⟩
  · cases hf
/-- What a family of such tells. -/
noncomputable def famP (g : List X → Option (List X × List X)) : FnP := fun F Fp args st k => match g args with
  | some (xs, ys) => dcP xs ys F Fp args st k
  | none => false
theorem famP_ok {g : List X → Option (List X × List X)} (h : ∀ args xs ys, g args = some (xs, ys) → DC P f xs ys ∧ xs.all datX = true) : FnOkP P G f (famP g) := by
  intro F Fp args st k hF hFp hf
  unfold famP at hf
  split at hf
  · rename_i xs ys hg
    obtain ⟨h1, h2⟩ := h _ _ _ hg
    exact dcP_ok h1 h2 F Fp args st k hF hFp hf
  · cases hf
noncomputable def famU (g : List X → Option (List X × X)) : FnC := fun F args st k => match g args with
  | some (xs, y) => dcU xs y F args st k
  | none => false
theorem famU_ok {g : List X → Option (List X × X)} (h : ∀ args xs y, g args = some (xs, y) → DC P f xs [y] ∧ xs.all datX = true) : FnOk P G f (famU g) := by
  intro F args st k hF hf
  unfold famU at hf
  split at hf
  · rename_i xs y hg
    obtain ⟨h1, h2⟩ := h _ _ _ hg
    exact dcU_ok h1 h2 F args st k hF hf
  · cases hf
end
end
section
open Go Go.RowKit Go.BigFrame
noncomputable def rowCase (H : Heap) (ih : V → V → Bool) (v t : V) : Bool := match v with
  | .slice k q n _ => (match rowTop t n with
    | some j => rowsAt H k q (Nat.mul n (RT j).length) fun l => allL ih l (repsT j n)
    | none => false)
  | _ => false
noncomputable def leVH (H : Heap) (d : Nat) : V → V → Bool := Nat.rec (motive := fun _ => V → V → Bool) (fun v t => leVv v t) (fun _ ih v t => leVv v t || rowCase H ih v t) d
noncomputable def leXH (H : Heap) (d : Nat) : X → X → Bool
  | .sc x, .sc y => leVH H d x y
  | .nil, .nil => true
  | .cons h t, .cons h' t' => leXH H d h h' && leXH H d t t'
  | a, b => match aggL a, aggL b with
    | some l, some r => allL (leVH H d) l r
    | _, _ => false
section
variable {W w : World} {R : Nat → Prop} {ρ : Names} {st : St} {l : Ents} {Z : Nat → Option Obj}
theorem leVH_ok (hs : Sim W R w ρ st l) (hZ : ∀ g o, ρ.z g = some o → Z g = some o) (hN : ∀ g, W.heap.size ≤ g → Z g = w.heap[g]?) : ∀ (d : Nat) {v t : V} {v' : Value}, leVH st.H d v t = true → dat1 t.toV = true → VR ρ v.toV v' → VR (dn Z) t.toV v' := by
  have base : ∀ {v t : V} {v' : Value}, leVv v t = true → dat1 t.toV = true → VR ρ v.toV v' → VR (dn Z) t.toV v' := fun h hd hr => VR.ofD (ρ := dn Z) hZ ((leVv_rel h hr).toD1 hd)
  intro d
  induction d with
  | zero => exact fun h hd hr => base h hd hr
  | succ d ih =>
    intro v t v' h hd hr
    have h : (leVv v t || rowCase st.H (leVH st.H d) v t) = true := h
    rw [Bool.or_eq_true] at h
    rcases h with h | h
    · exact base h hd hr
    · unfold rowCase at h
      cases v with
      | slice k q n c =>
        dsimp only at h
        cases hj : rowTop t n with
        | none => rw [hj] at h; cases h
        | some j =>
          rw [hj] at h
          dsimp only at h
          have hr : VR ρ (.slice (some ⟨k, q, none⟩) n c) v' := hr
          cases hr with
          | @slice _ _ q' g _ _ c' qq hk hoff hn hm he ho =>
            obtain ⟨xs, cur, T, hall, hlen, hg, hblk, hcell⟩ := hs.rows hk h
            obtain ⟨hl1, hl2⟩ := allL_get hall
            refine rowTop_rel hj (.mk (fun r i => cur.getD (q + r * (RT j).length + i) undef) hn hm (fun h0 => ⟨g, q', rfl, fun r i hrn hi => ?_⟩) fun r i ct hrn hct => ?_)
            · have hqq := hoff (.inl h0)
              subst hqq
              have hlt : r * (RT j).length + i < n * (RT j).length := by
                have : (r + 1) * (RT j).length ≤ n * (RT j).length := Nat.mul_le_mul_right _ hrn
                rw [Nat.add_mul, Nat.one_mul] at this
                omega
              have hlt2 : r * (RT j).length + i < xs.length := by rw [hlen]; exact hlt
              obtain ⟨u, hu, _⟩ := hcell _ _ (List.getElem?_eq_getElem hlt2)
              rw [← Nat.add_assoc] at hu
              unfold zc
              rw [hN g hg, hblk]
              show cur[_]? = some (cur.getD _ undef)
              rw [Array.getD_eq_getD_getElem?, hu]
              rfl
            · have hi := (List.getElem?_eq_some_iff.1 hct).1
              have hlt : r * (RT j).length + i < n * (RT j).length := by
                have : (r + 1) * (RT j).length ≤ n * (RT j).length := Nat.mul_le_mul_right _ hrn
                rw [Nat.add_mul, Nat.one_mul] at this
                omega
              have hlt2 : r * (RT j).length + i < xs.length := by rw [hlen]; exact hlt
              obtain ⟨u, hu, hur⟩ := hcell _ _ (List.getElem?_eq_getElem hlt2)
              rw [← Nat.add_assoc] at hu
              have hrep : ∀ (n r : Nat), r < n → (repsT j n)[r * (RT j).length + i]? = some ct.toV := by
                intro n
                induction n with
                | zero => intro r hr; omega
                | succ n ihn =>
                  intro r hr
                  rw [repsT]
                  cases r with
                  | zero =>
                    rw [Nat.zero_mul, Nat.zero_add, List.getElem?_append_left (by rw [List.length_map]; exact hi), List.getElem?_map, hct]
                    rfl
                  | succ r =>
                    rw [List.getElem?_append_right (by rw [List.length_map, Nat.add_mul, Nat.one_mul]; omega), List.length_map]
                    rw [show (r + 1) * (RT j).length + i - (RT j).length = r * (RT j).length + i by rw [Nat.add_mul, Nat.one_mul]; omega]
                    exact ihn r (by omega)
              have hle := hl2 _ _ _ (List.getElem?_eq_getElem hlt2) (hrep n r hrn)
              have hct' : dat1 ct.toV.toV = true := by
                cases ct with
                | int k => rfl
                | nat k lo hi => rfl
                | bool => rfl
                | sl j mx =>
                  show dat1 (.complex .f32 (j * 8 + 7) mx) = true
                  have e1 : Nat.beq ((j * 8 + 7) % 8) 7 = true := by rw [show (j * 8 + 7) % 8 = 7 by omega]; rfl
                  simp only [dat1, e1, Bool.true_or, Bool.or_true]
              have := ih hle hct' hur
              show BC Z ct (cur.getD _ undef)
              rw [Array.getD_eq_getD_getElem?, hu]
              exact BC.ofV this
      | _ => cases h
theorem leLH (hs : Sim W R w ρ st l) (hZ : ∀ g o, ρ.z g = some o → Z g = some o) (hN : ∀ g, W.heap.size ≤ g → Z g = w.heap[g]?) {d : Nat} {xs ys : List V} (h : allL (leVH st.H d) xs ys = true) (hd : ys.all (fun v => dat1 v.toV) = true) {vs : List Value} (hr : LR ρ (xs.map V.toV) vs) : LR (dn Z) (ys.map V.toV) vs := by
  obtain ⟨h1, h2⟩ := allL_get h
  refine ⟨by have := hr.1; rw [List.length_map] at this ⊢; omega, fun i a b ha hb => ?_⟩
  rw [List.getElem?_map] at ha
  cases hy : ys[i]? with
  | none => rw [hy] at ha; cases ha
  | some y =>
    rw [hy] at ha
    cases ha
    have hi : i < xs.length := by rw [h1]; exact (List.getElem?_eq_some_iff.1 hy).1
    exact leVH_ok hs hZ hN d (h2 i _ _ (List.getElem?_eq_getElem hi) hy) (List.all_eq_true.1 hd y (List.mem_of_getElem? hy)) (hr.2 i _ b (by rw [List.getElem?_map, List.getElem?_eq_getElem hi]; rfl) hb)
theorem datX_aggL {y : X} {r : List V} (h : aggL y = some r) (hd : datX y = true) : r.all (fun v => dat1 v.toV) = true := by
  cases y with
  | agg l' => cases h; exact hd
  | tree d n t => cases h; exact hd
  | _ => cases h
theorem leXH_ok (hs : Sim W R w ρ st l) (hZ : ∀ g o, ρ.z g = some o → Z g = some o) (hN : ∀ g, W.heap.size ≤ g → Z g = w.heap[g]?) {d : Nat} : ∀ (x y : X), leXH st.H d x y = true → datX y = true → (∀ v, VR ρ x.toV v → VR (dn Z) y.toV v) ∧ (∀ vs, LR ρ x.both.2 vs → LR (dn Z) y.both.2 vs) := by
  have agg : ∀ {x y : X} {a b : List V}, aggL x = some a → aggL y = some b → allL (leVH st.H d) a b = true → datX y = true → (∀ v, VR ρ x.toV v → VR (dn Z) y.toV v) ∧ (∀ vs, LR ρ x.both.2 vs → LR (dn Z) y.both.2 vs) := fun {x y a b} ha hb h hd => by
    refine ⟨fun v hr => ?_, fun vs hr => ?_⟩
    · rw [aggL_toV ha] at hr
      rw [aggL_toV hb]
      cases hr with
      | @agg _ a' h1 h2 =>
        have q := (leLH hs hZ hN h (datX_aggL hb hd) (vs := a'.toList) ⟨by simpa using h1, fun i x y hx hy => h2 i x y (by simpa using hx) (by simpa using hy)⟩).array
        exact .agg q.1 q.2
    · rw [agg_both ha] at hr
      rw [agg_both hb]
      exact ⟨hr.1, fun i x y hx => by simp at hx⟩
  intro x
  induction x with
  | sc v =>
    intro y h hd
    cases y with
    | sc t => exact ⟨fun v' hr => leVH_ok hs hZ hN d h hd hr, fun vs hr => ⟨hr.1, fun i x y hx => by simp [X.both] at hx⟩⟩
    | _ => cases h
  | nil =>
    intro y h hd
    cases y with
    | nil => exact ⟨fun v hr => by
        have hr : VR ρ undef v := hr
        cases hr with
        | @tuple _ a' h1 h2 =>
          have : a' = #[] := Array.eq_empty_of_size_eq_zero h1.symm
          subst this
          exact VR.undef _, fun vs hr => ⟨hr.1, fun i x y hx => by simp [X.both] at hx⟩⟩
    | _ => cases h
  | cons x t ihx iht =>
    intro y h hd
    cases y with
    | cons y u =>
      have h : (leXH st.H d x y && leXH st.H d t u) = true := h
      have hd : (datX y && datX u) = true := hd
      rw [Bool.and_eq_true] at h hd
      have main : ∀ {vs : List Value}, LR ρ (x.toV :: t.both.2) vs → LR (dn Z) (y.toV :: u.both.2) vs := fun {vs} hr => by
        cases vs with
        | nil => have := hr.1; simp at this
        | cons v vs =>
          have h1 := (ihx y h.1 hd.1).1 v (hr.2 0 _ _ rfl rfl)
          have h2 := (iht u h.2 hd.2).2 vs ⟨by have := hr.1; simpa using this, fun i a b ha hb => hr.2 (i + 1) a b (by simpa using ha) (by simpa using hb)⟩
          refine ⟨by have := h2.1; simpa using this, fun i a b ha hb => ?_⟩
          cases i with
          | zero => cases ha; cases hb; exact h1
          | succ i => exact h2.2 i a b (by simpa using ha) (by simpa using hb)
      refine ⟨fun v hr => ?_, fun vs hr => main hr⟩
      have hr : VR ρ (.tuple (x.toV :: t.both.2).toArray) v := hr
      show VR (dn Z) (.tuple (y.toV :: u.both.2).toArray) v
      cases hr with
      | @tuple _ a' h1 h2 =>
        have q := (main (vs := a'.toList) ⟨by simpa using h1, fun i a b ha hb => h2 i a b (by simpa using ha) (by simpa using hb)⟩).array
        exact .tuple q.1 q.2
    | _ => cases h
  | agg a =>
    intro y h hd
    cases hb : aggL y with
    | none => cases y <;> first | cases hb; done | (cases h; done)
    | some b =>
      refine agg (x := .agg a) rfl hb ?_ hd
      cases y <;> first | (cases hb; done) | (cases hb; exact h)
  | tree d' n t =>
    intro y h hd
    cases hb : aggL y with
    | none => cases y <;> first | cases hb; done | (cases h; done)
    | some b =>
      refine agg (x := .tree d' n t) rfl hb ?_ hd
      cases y <;> first | (cases hb; done) | (cases hb; exact h)
  | raw v =>
    intro y h hd
    cases y <;> cases h
end
/-- The result is one of these. -/
noncomputable def outD (ys : List X) (x : X) (st : St) : Bool := ys.any fun y => leXH st.H 3 x y
/-- The arguments parted. -/
noncomputable def splitXs (xs : List X) (k : List X → Bool) : Bool := List.rec (motive := fun _ => (List X → Bool) → Bool) (fun k => k []) (fun x _ ih k => splitX true x fun x' => ih fun l => k (x' :: l)) xs k
theorem splitXs_ok {ρ : Names} : ∀ {xs : List X} {k : List X → Bool}, splitXs xs k = true → ∀ {vs : List Value}, LR ρ (xs.map X.toV) vs → ∃ xs', k xs' = true ∧ LR ρ (xs'.map X.toV) vs
  | [], k, h, vs, hr => ⟨[], h, hr⟩
  | x :: xs, k, h, vs, hr => by
    cases vs with
    | nil => have := hr.1; simp at this
    | cons v vs =>
      have h : splitX true x (fun x' => splitXs xs fun l => k (x' :: l)) = true := h
      obtain ⟨x', h2, hx'⟩ := splitX_ok h (hr.2 0 _ _ rfl rfl)
      obtain ⟨l, h3, hl⟩ := splitXs_ok h2 (vs := vs) ⟨by have := hr.1; simpa using this, fun i a b ha hb => hr.2 (i + 1) a b (by simpa using ha) (by simpa using hb)⟩
      refine ⟨x' :: l, h3, by have := hl.1; simpa using this, fun i a b ha hb => ?_⟩
      cases i with
      | zero => cases ha; cases hb; exact hx'
      | succ i => exact hl.2 i a b (by simpa using ha) (by simpa using hb)
theorem dc_ofS {P : Program} {F : Fns} (hF : FnsOkP P 0 F) {f : FuncId} {xs ys : List X} {sp : (List X → Bool) → Bool} (hsp : ∀ (k : List X → Bool), sp k = true → ∀ {ρ : Names} {vs : List Value}, LR ρ (xs.map X.toV) vs → ∃ xs', k xs' = true ∧ LR ρ (xs'.map X.toV) vs) (h : sp (fun xs' => F f xs' st0 (outD ys)) = true) (hd : ys.all datX = true) : DC P f xs ys := by
  intro z w args hz hdl
  have hsim : Sim w (fun _ => False) w ⟨fun _ => none, (w, fun _ => undef), z⟩ st0 [] :=
    ⟨Kn.start w, fun k => by show ORel _ _ _ k (findO k noHeap); rw [find_none]; trivial, fun k k' g c c' h => absurd (find_none k) h, fun _ _ => rfl, fun _ h => h.elim, fun _ _ => rfl, rfl, fun g o hg => .inl ⟨hz.lt hg, hz g o hg⟩, fun k g c h => absurd (find_none k) h⟩
  have hl0 : LR ⟨fun _ => none, (w, fun _ => undef), z⟩ (xs.map X.toV) args.toList := by
    refine ⟨by rw [List.length_map]; exact hdl.1, fun i a b ha hb => ?_⟩
    rw [List.getElem?_map] at ha
    cases hx : xs[i]? with
    | none => rw [hx] at ha; cases ha
    | some x =>
      rw [hx] at ha
      cases ha
      exact VR.ofD (fun g o h => h) (hdl.2 i x b hx hb)
  obtain ⟨xs', h, hl0⟩ := hsp _ h hl0
  refine Calls.mono (hF f xs' st0 _ h w _ _ args w [] hl0 (fun g hg => absurd hg (Nat.not_lt_zero g)) hsim) fun e w' hh => ?_
  · obtain ⟨x, st', ρ', v', l', hk, rfl, hle, hv, hs⟩ := hh
    obtain ⟨y, hy, hxy⟩ := List.any_eq_true.1 hk
    refine ⟨v', y, hy, rfl, ?_, hs.below⟩
    refine (leXH_ok hs (Z := zAdd z w w') (fun g o hg => ?_) (fun g hg => ?_) x y hxy (List.all_eq_true.1 hd y hy)).1 v' hv
    · unfold zAdd
      split
      · rename_i h1
        rcases hs.sn g o hg with ⟨h2, _⟩ | hh
        · omega
        · obtain ⟨ob, h3, rfl⟩ := hs.kn.own _ _ hh; exact h3
      · rename_i h1
        exact hle.zo g o (show g < w.heap.size by omega) hg
    · unfold zAdd
      rw [if_pos hg]
theorem dc_of {P : Program} {F : Fns} (hF : FnsOkP P 0 F) {f : FuncId} {xs ys : List X} (h : splitXs xs (fun xs' => F f xs' st0 (outD ys)) = true) (hd : ys.all datX = true) : DC P f xs ys := dc_ofS hF (sp := splitXs xs) (fun _ h _ _ hr => splitXs_ok h hr) h hd
/-- The arguments as they are. -/
theorem dc_of0 {P : Program} {F : Fns} (hF : FnsOkP P 0 F) {f : FuncId} {xs ys : List X} (h : F f xs st0 (outD ys) = true) (hd : ys.all datX = true) : DC P f xs ys := dc_ofS hF (sp := fun k => k xs) (fun _ h _ _ hr => ⟨xs, h, hr⟩) h hd
end
section
open Go.RowKit Go.BigFrame

theorem MPlace_any (v n : Int) (w : World) (h0 : -9223372036854775808 ≤ v) (h1 : v ≤ 9223372036854775807) (hn : 0 < n) (hn2 : n ≤ 9223372036854775807) :
    Calls Tryz.prog 15 #[.int .i64 v, .int .i64 n] w fun e w' => e = .returned (.int .i64 (v % n)) ∧ w = w' := by
  have hp := tmod_place v n hn
  have l1 : v.tmod n < n := Int.tmod_lt_of_pos v hn
  have l2 : -n < v.tmod n := by
    have := Int.lt_tmod_of_pos v hn
    omega
  have hz : (n == 0) = false := by rw [beq_eq_false_iff_ne]; omega
  have HP := Lib.hid hp
  clear hp
  by_cases hc : v.tmod n < 0
  · go_enter Tryz.func15, Tryz.ntmps15
    go_wp2
    go_ret
    refine ⟨?_, rfl⟩
    show Ending.returned (.int .i64 (v.tmod n + n)) = _
    rw [← HP.out, if_pos hc]
  · go_enter Tryz.func15, Tryz.ntmps15
    go_wp2
    go_ret
    refine ⟨?_, rfl⟩
    show Ending.returned (.int .i64 (v.tmod n)) = _
    rw [← HP.out, if_neg (by omega)]
end
section
open Go Go.RowKit Go.BigFrame
def modOf (x : X) : Option (Nat × Nat) := match x with
  | .sc (.oth (.complex .f32 a r)) => cond (Nat.beq (a % 8) 4) (some (a / 8, r)) none
  | _ => none
theorem modOf_real {ρ : Names} {x : X} {v : Value} {m r : Nat} (h : modOf x = some (m, r)) (hr : VR ρ x.toV v) : ∃ n : Int, v = .int .i64 n ∧ n % (m : Int) = (r : Int) ∧ IntKind.i64.wrap n = n := by
  unfold modOf at h
  split at h
  · rename_i a b
    cases hb : Nat.beq (a % 8) 4 with
    | false => rw [hb] at h; cases h
    | true =>
      rw [hb] at h
      have hm := Nat.eq_of_beq_eq_true hb
      have hr : VR ρ (.complex .f32 a b) v := hr
      cases hr with
      | any hs => simp at hm
      | symS h1 h2 h3 h4 h5 => omega
      | symLen h1 h2 h3 => omega
      | ptrI h1 => omega
      | anyB b => omega
      | bsl h1 => omega
      | bslU h1 h2 => omega
      | bptr h1 => omega
      | @modI m' r' n h1 h2 =>
        rw [cond_true, show (m' * 8 + 4) / 8 = m' by omega] at h
        cases h
        exact ⟨n, rfl, h1, h2⟩
  · cases h
def anyOf (x : X) : Bool := match x with
  | .sc (.oth (.float .f64 3)) => true
  | _ => false
theorem anyOf_real {ρ : Names} {x : X} {v : Value} (h : anyOf x = true) (hr : VR ρ x.toV v) : ∃ n : Int, v = .int .i64 n ∧ IntKind.i64.wrap n = n := by
  unfold anyOf at h
  split at h
  · have hr : VR ρ (.float .f64 3) v := hr
    generalize hq : (3 : Nat) = t at hr
    cases hr with
    | @anyI k n hw =>
      have : k = .i64 := kidx_inj (by rw [← hq]; rfl)
      subst this
      exact ⟨n, rfl, hw⟩
  · cases h
theorem wrap64_range {n : Int} (h : IntKind.i64.wrap n = n) : -9223372036854775808 ≤ n ∧ n ≤ 9223372036854775807 := by
  rw [← h]
  simp only [IntKind.wrap, IntKind.bits, IntKind.signed]
  simp
  omega
end
section
open Go Go.RowKit Go.BigFrame
theorem sc_rel {ρ : Names} {u : V} {v : Value} (h : VR ρ u.toV v) : VR ρ (X.sc u).toV v := h
noncomputable def unkI64 (x : X) : Bool := cond (symX x) (match ivV x.toV with
  | some (3, _, _) => true
  | _ => false) false
theorem unkI64_real {ρ : Names} {x : X} {v : Value} (h : unkI64 x = true) (hr : VR ρ x.toV v) : ∃ n : Int, v = .int .i64 n ∧ IntKind.i64.wrap n = n := by
  unfold unkI64 at h
  cases hs : symX x with
  | false => rw [hs] at h; cases h
  | true =>
    rw [hs, cond_true] at h
    split at h
    · rename_i lo hi he
      obtain ⟨k, n, rfl, hk, _, _, hw⟩ := ivV_wf hs hr he
      have : k = .i64 := kidx_inj (by rw [hk]; rfl)
      subst this
      exact ⟨n, rfl, hw⟩
    · cases h
noncomputable def placeU (main : FnC) : FnC := fun F args st k => match args with
  | [x, y] => cond (unkI64 x) (match litI64 y with
    | some m => cond (Nat.blt 0 m && Nat.ble m 1000000) (k (.sc (ofIv 3 0 (Int.ofNat (Nat.sub m 1)))) st) false
    | none => false) (main F args st k)
  | _ => main F args st k
theorem placeU_ok {G : Nat} {main : FnC} (hm : FnOk Tryz.prog G 15 main) : FnOk Tryz.prog G 15 (placeU main) := by
  intro F args st k hF h
  unfold placeU at h
  split at h
  case h_2 => exact hm F _ st k hF h
  rename_i x y
  cases ha : unkI64 x with
  | false => rw [ha] at h; exact hm F _ st k hF h
  | true =>
    rw [ha, cond_true] at h
    split at h
    case h_2 => cases h
    rename_i m hy
    have hy := litI64_eq hy
    cases hb : (Nat.blt 0 m && Nat.ble m 1000000) with
    | false => rw [hb] at h; cases h
    | true =>
      rw [hb, cond_true] at h
      rw [Bool.and_eq_true] at hb
      have b1 : 0 < m := Nat.le_of_ble_eq_true hb.1
      have b2 := Nat.le_of_ble_eq_true hb.2
      refine ⟨_, st, h, fun W R ρ args' w l hl hG hs => ?_⟩
      have hsz : args'.size = 2 := by have := hl.1; simpa using this.symm
      have h1 : VR ρ x.toV args'[0] := hl.2 0 _ _ rfl (by rw [Array.getElem?_toList, Array.getElem?_eq_getElem (by omega)])
      have h2 : VR ρ y.toV args'[1] := hl.2 1 _ _ rfl (by rw [Array.getElem?_toList, Array.getElem?_eq_getElem (by omega)])
      rw [hy] at h2
      have h2 : VR ρ (.int .i64 (m : Int)) args'[1] := h2
      obtain ⟨n, hn, hw⟩ := unkI64_real ha h1
      have e : args' = #[.int .i64 n, .int .i64 (m : Int)] := by
        apply Array.ext
        · simpa using hsz
        · intro i h3 h4
          have : i = 0 ∨ i = 1 := by omega
          rcases this with rfl | rfl
          · exact hn
          · exact h2.plain_eq rfl
      subst e
      obtain ⟨w1, w2⟩ := wrap64_range hw
      refine Calls.mono (MPlace_any n m w w1 w2 (by omega) (by omega)) fun e w' hh => ?_
      obtain ⟨rfl, rfl⟩ := hh
      have g0 : 0 ≤ n % (m : Int) := Int.emod_nonneg _ (by omega)
      have g1 : n % (m : Int) < m := Int.emod_lt_of_pos _ (by omega)
      have hw2 : IntKind.i64.wrap (n % (m : Int)) = n % (m : Int) := by
        simp only [IntKind.wrap, IntKind.bits, IntKind.signed]
        simp
        omega
      have key : VR ρ (ofIv (kidx .i64) 0 (Int.ofNat (Nat.sub m 1))).toV (.int .i64 (n % (m : Int))) := ofIv_rel g0 (by
        show n % (m : Int) ≤ ((m - 1 : Nat) : Int)
        omega) (.inr ⟨rfl, hw2⟩)
      rw [show kidx .i64 = 3 from rfl] at key
      exact ⟨ρ, _, l, rfl, .refl _, sc_rel key, hs⟩
end
end Go.Proofs.YtbgdjcoliiinjaaGreat
