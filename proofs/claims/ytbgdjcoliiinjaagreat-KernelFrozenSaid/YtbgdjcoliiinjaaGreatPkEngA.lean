/- Merged: EA, ERt, EB, EC, ED, EE, EF, EG, EH, EI, EJ, EK, EL, EM, EN, EO, EP, EQ. -/
import Derived.Test.YtbgdjcoliiinjaaGreatPkGenJ
import Derived.Laws.Tables
import Derived.Deep.AppendSrc
set_option linter.unusedVariables false
set_option linter.unusedSimpArgs false
set_option linter.unusedSectionVars false
namespace Go.Proofs.YtbgdjcoliiinjaaGreat
section
open Go
structure Box (α : Type) where f : α
structure N8 (α : Type) where
  a0 : α
  a1 : α
  a2 : α
  a3 : α
  a4 : α
  a5 : α
  a6 : α
  a7 : α
noncomputable def pick8 {β : Type} (i : Nat) (b0 b1 b2 b3 b4 b5 b6 b7 : β) : β :=
  Nat.rec (motive := fun _ => β) b0 (fun n1 _ => Nat.rec (motive := fun _ => β) b1 (fun n2 _ => Nat.rec (motive := fun _ => β) b2 (fun n3 _ => Nat.rec (motive := fun _ => β) b3 (fun n4 _ => Nat.rec (motive := fun _ => β) b4 (fun n5 _ => Nat.rec (motive := fun _ => β) b5 (fun n6 _ => Nat.rec (motive := fun _ => β) b6 (fun _ _ => b7) n6) n5) n4) n3) n2) n1) i
/-- The i-th part, read by g. -/
noncomputable def n8get {α β : Type} (g : α → β) (i : Nat) : Box (N8 α → β) :=
  pick8 i ⟨fun t => N8.rec (fun a0 _ _ _ _ _ _ _ => g a0) t⟩ ⟨fun t => N8.rec (fun _ a1 _ _ _ _ _ _ => g a1) t⟩ ⟨fun t => N8.rec (fun _ _ a2 _ _ _ _ _ => g a2) t⟩ ⟨fun t => N8.rec (fun _ _ _ a3 _ _ _ _ => g a3) t⟩
    ⟨fun t => N8.rec (fun _ _ _ _ a4 _ _ _ => g a4) t⟩ ⟨fun t => N8.rec (fun _ _ _ _ _ a5 _ _ => g a5) t⟩ ⟨fun t => N8.rec (fun _ _ _ _ _ _ a6 _ => g a6) t⟩ ⟨fun t => N8.rec (fun _ _ _ _ _ _ _ a7 => g a7) t⟩
/-- The i-th part, turned by s v. -/
noncomputable def n8set {α β : Type} (s : β → α → α) (i : Nat) : Box (β → N8 α → N8 α) :=
  pick8 i ⟨fun v t => N8.rec (fun a0 a1 a2 a3 a4 a5 a6 a7 => ⟨s v a0, a1, a2, a3, a4, a5, a6, a7⟩) t⟩ ⟨fun v t => N8.rec (fun a0 a1 a2 a3 a4 a5 a6 a7 => ⟨a0, s v a1, a2, a3, a4, a5, a6, a7⟩) t⟩ ⟨fun v t => N8.rec (fun a0 a1 a2 a3 a4 a5 a6 a7 => ⟨a0, a1, s v a2, a3, a4, a5, a6, a7⟩) t⟩ ⟨fun v t => N8.rec (fun a0 a1 a2 a3 a4 a5 a6 a7 => ⟨a0, a1, a2, s v a3, a4, a5, a6, a7⟩) t⟩
    ⟨fun v t => N8.rec (fun a0 a1 a2 a3 a4 a5 a6 a7 => ⟨a0, a1, a2, a3, s v a4, a5, a6, a7⟩) t⟩ ⟨fun v t => N8.rec (fun a0 a1 a2 a3 a4 a5 a6 a7 => ⟨a0, a1, a2, a3, a4, s v a5, a6, a7⟩) t⟩ ⟨fun v t => N8.rec (fun a0 a1 a2 a3 a4 a5 a6 a7 => ⟨a0, a1, a2, a3, a4, a5, s v a6, a7⟩) t⟩ ⟨fun v t => N8.rec (fun a0 a1 a2 a3 a4 a5 a6 a7 => ⟨a0, a1, a2, a3, a4, a5, a6, s v a7⟩) t⟩
theorem lt8 {i : Nat} (h : i < 8) : i = 0 ∨ i = 1 ∨ i = 2 ∨ i = 3 ∨ i = 4 ∨ i = 5 ∨ i = 6 ∨ i = 7 := by omega
theorem n8_same {α β γ : Type} (g : α → β) (s : γ → α → α) (v : γ) (t : N8 α) {i : Nat} (h : i < 8) : (n8get g i).f ((n8set s i).f v t) = g (s v ((n8get id i).f t)) := by
  rcases lt8 h with rfl | rfl | rfl | rfl | rfl | rfl | rfl | rfl <;> rfl
theorem n8_other {α β γ : Type} (g : α → β) (s : γ → α → α) (v : γ) (t : N8 α) {i j : Nat} (h : i < 8) (h' : j < 8) (hne : i ≠ j) : (n8get g j).f ((n8set s i).f v t) = (n8get g j).f t := by
  rcases lt8 h with rfl | rfl | rfl | rfl | rfl | rfl | rfl | rfl <;> rcases lt8 h' with rfl | rfl | rfl | rfl | rfl | rfl | rfl | rfl <;> first | rfl | exact absurd rfl hne
theorem n8get_id {α β : Type} (g : α → β) (t : N8 α) {i : Nat} (h : i < 8) : (n8get g i).f t = g ((n8get id i).f t) := by
  rcases lt8 h with rfl | rfl | rfl | rfl | rfl | rfl | rfl | rfl <;> rfl
/-- A tree of depth d. -/
def Nd (α : Type) : Nat → Type
  | 0 => α
  | d + 1 => N8 (Nd α d)
noncomputable def getB {α : Type} (i : Nat) (d : Nat) : Box (Nd α d → α) :=
  Nat.rec (motive := fun d => Box (Nd α d → α)) ⟨fun t => t⟩ (fun d ih => Box.rec (motive := fun _ => Box (Nd α (d + 1) → α)) (fun g => n8get g (Nat.mod (Nat.div i (Nat.pow 8 d)) 8)) ih) d
noncomputable def setB {α : Type} (i : Nat) (d : Nat) : Box (α → Nd α d → Nd α d) :=
  Nat.rec (motive := fun d => Box (α → Nd α d → Nd α d)) ⟨fun v _ => v⟩ (fun d ih => Box.rec (motive := fun _ => Box (α → Nd α (d + 1) → Nd α (d + 1))) (fun s => n8set s (Nat.mod (Nat.div i (Nat.pow 8 d)) 8)) ih) d
noncomputable def get {α : Type} {d : Nat} (t : Nd α d) (i : Nat) : α := (getB i d).f t
noncomputable def set {α : Type} {d : Nat} (i : Nat) (v : α) (t : Nd α d) : Nd α d := (setB i d).f v t
def dig (i d : Nat) : Nat := Nat.mod (Nat.div i (Nat.pow 8 d)) 8
theorem dig_lt (i d : Nat) : dig i d < 8 := Nat.mod_lt _ (by decide)
noncomputable def child {α : Type} (k : Nat) (t : N8 α) : α := (n8get id k).f t
theorem get_succ {α : Type} (i d : Nat) (t : N8 (Nd α d)) : get (d := d + 1) t i = get (child (dig i d) t) i := by
  show (Box.rec (motive := fun _ => Box (Nd α (d + 1) → α)) (fun g => n8get g (dig i d)) (getB i d)).f t = (getB i d).f (child (dig i d) t)
  generalize getB (α := α) i d = b
  cases b with
  | mk g => exact n8get_id g t (dig_lt i d)
theorem child_set_same {α : Type} (i d : Nat) (v : α) (t : N8 (Nd α d)) : child (dig i d) (set (d := d + 1) i v t) = set i v (child (dig i d) t) := by
  show child (dig i d) ((Box.rec (motive := fun _ => Box (α → Nd α (d + 1) → Nd α (d + 1))) (fun s => n8set s (dig i d)) (setB i d)).f v t) = (setB i d).f v (child (dig i d) t)
  generalize setB (α := α) i d = b
  cases b with
  | mk s => exact n8_same id s v t (dig_lt i d)
theorem child_set_other {α : Type} (i d : Nat) (v : α) (t : N8 (Nd α d)) {k : Nat} (hk : k < 8) (hne : dig i d ≠ k) : child k (set (d := d + 1) i v t) = child k t := by
  show child k ((Box.rec (motive := fun _ => Box (α → Nd α (d + 1) → Nd α (d + 1))) (fun s => n8set s (dig i d)) (setB i d)).f v t) = child k t
  generalize setB (α := α) i d = b
  cases b with
  | mk s => exact n8_other id s v t (dig_lt i d) hk hne
theorem get_set_same {α : Type} (v : α) (i : Nat) : ∀ (d : Nat) (t : Nd α d), get (set i v t) i = v
  | 0, t => rfl
  | d + 1, t => (get_succ i d (set (d := d + 1) i v t)).trans ((congrArg (fun x => get x i) (child_set_same i d v t)).trans (get_set_same v i d _))
theorem get_set_mod {α : Type} (v : α) {i j : Nat} : ∀ (d : Nat) (t : Nd α d), i % 8 ^ d ≠ j % 8 ^ d → get (set i v t) j = get t j
  | 0, t, h => absurd (by simp [Nat.mod_one]) h
  | d + 1, t, h => by
    refine (get_succ j d (set (d := d + 1) i v t)).trans (Eq.trans ?_ (get_succ j d t).symm)
    by_cases he : dig i d = dig j d
    · have e : child (dig j d) (set (d := d + 1) i v t) = set i v (child (dig j d) t) := he ▸ child_set_same i d v t
      refine (congrArg (fun x => get x j) e).trans (get_set_mod v d _ fun q => h ?_)
      have he : i / 8 ^ d % 8 = j / 8 ^ d % 8 := he
      rw [Nat.pow_succ, Nat.mod_mul, Nat.mod_mul, he, q]
    · exact congrArg (fun x => get x j) (child_set_other i d v t (dig_lt j d) he)
theorem get_set_other {α : Type} (v : α) {i j : Nat} (hne : i ≠ j) (d : Nat) (t : Nd α d) (hi : i < 8 ^ d) (hj : j < 8 ^ d) : get (set i v t) j = get t j :=
  get_set_mod v d t (by rw [Nat.mod_eq_of_lt hi, Nat.mod_eq_of_lt hj]; exact hne)
/-- The tree that holds v everywhere. -/
noncomputable def leafs {α : Type} (v : α) (d : Nat) : Nd α d := Nat.rec (motive := fun d => Nd α d) v (fun _ ih => ⟨ih, ih, ih, ih, ih, ih, ih, ih⟩) d
theorem get_leafs {α : Type} (v : α) (i : Nat) : ∀ d : Nat, get (leafs v d) i = v
  | 0 => rfl
  | d + 1 => by
    refine (get_succ i d (leafs v (d + 1))).trans ?_
    have : ∀ k, k < 8 → child k (leafs v (d + 1)) = leafs v d := fun k hk => by
      rcases lt8 hk with rfl | rfl | rfl | rfl | rfl | rfl | rfl | rfl <;> rfl
    rw [this _ (dig_lt i d)]
    exact get_leafs v i d
end
section
open Go
/-- What a cell may hold: an int of a kind; a natural from lo to hi; a truth value; a slice of rows of type j, of at most mx. -/
inductive CT
  | int (k : IntKind)
  | nat (k : IntKind) (lo hi : Nat)
  | bool
  | sl (j mx : Nat)
/-- The rows: 0 an int; 1 an Id; 2 a node; 3 an entry; 4 a step; 5 a capability; 6 a wish; 7 an int, 8 an entry (slices of 4, 7 and 8 are not parted). -/
def RT : Nat → List CT
  | 0 => [.int .i64]
  | 1 => [.int .i64, .int .i64, .int .i64]
  | 2 => [.int .i64, .int .i64, .int .i64, .sl 1 8, .int .i64, .int .i64, .int .i64, .int .i64, .int .i64, .int .i64, .bool]
  | 3 => [.int .i64, .int .i64, .int .i64, .int .i64, .int .i64, .sl 1 8, .int .i64, .int .i64, .int .i64, .int .i64, .int .i64, .int .i64, .bool]
  | 4 => [.bool, .int .i64, .int .i64, .int .i64, .int .i64, .int .i64, .int .i64, .int .i64, .int .i64, .bool]
  | 5 => [.int .i64, .int .i64, .int .i64, .int .i64, .int .i64, .int .i64, .bool]
  | 6 => [.int .i64, .int .i64, .int .i64, .int .i64, .int .i64, .int .i64, .int .i64, .int .i64, .int .i64]
  | 7 => [.int .i64]
  | 8 => [.int .i64, .int .i64, .int .i64, .int .i64, .int .i64, .sl 1 8, .int .i64, .int .i64, .int .i64, .int .i64, .int .i64, .int .i64, .bool]
  | _ => []
/-- A cell of what is known of blocks. -/
def zc (Z : Nat → Option Obj) (g o : Nat) : Option Value := match Z g with
  | some (.cells c _ _) => c[o]?
  | _ => none
theorem zc_mono {Z Z' : Nat → Option Obj} (h : ∀ g o, Z g = some o → Z' g = some o) {g o : Nat} {v : Value} (hz : zc Z g o = some v) : zc Z' g o = some v := by
  unfold zc at hz ⊢
  cases hg : Z g with
  | none => rw [hg] at hz; cases hz
  | some ob => rw [h g ob hg]; rw [hg] at hz; exact hz
mutual
/-- In these blocks the value is a slice of n rows of type j. -/
inductive BS (Z : Nat → Option Obj) : Nat → Nat → Value → Prop
  | mk {j n c : Nat} {a : Option Addr} (f : Nat → Nat → Value) (hn : n ≤ c) (hm : c ≤ maxLen)
    (h : 0 < n → ∃ g o, a = some ⟨g, o, none⟩ ∧ ∀ q i, q < n → i < (RT j).length → zc Z g (o + q * (RT j).length + i) = some (f q i))
    (ht : ∀ q i ct, q < n → (RT j)[i]? = some ct → BC Z ct (f q i)) : BS Z j n (.slice a n c)
/-- In these blocks the value is what the cell may hold. -/
inductive BC (Z : Nat → Option Obj) : CT → Value → Prop
  | int {k : IntKind} {m : Int} (hw : k.wrap m = m) : BC Z (.int k) (.int k m)
  | nat {k : IntKind} {lo hi m : Nat} (h1 : lo ≤ m) (h2 : m ≤ hi) (hw : k.wrap (m : Int) = m) : BC Z (.nat k lo hi) (.int k (m : Int))
  | bool (b : Bool) : BC Z .bool (.bool b)
  | sl {j mx n : Nat} {v : Value} (hn : n ≤ mx) (h : BS Z j n v) : BC Z (.sl j mx) v
end
mutual
theorem BS.mono {Z Z' : Nat → Option Obj} (hz : ∀ g o, Z g = some o → Z' g = some o) {j n : Nat} {v : Value} : BS Z j n v → BS Z' j n v
  | .mk f hn hm h ht => .mk f hn hm (fun h0 => by
      obtain ⟨g, o, e, hc⟩ := h h0
      exact ⟨g, o, e, fun q i hq hi => zc_mono hz (hc q i hq hi)⟩) fun q i ct hq hi => BC.mono hz (ht q i ct hq hi)
theorem BC.mono {Z Z' : Nat → Option Obj} (hz : ∀ g o, Z g = some o → Z' g = some o) {ct : CT} {v : Value} : BC Z ct v → BC Z' ct v
  | .int hw => .int hw
  | .nat h1 h2 hw => .nat h1 h2 hw
  | .bool b => .bool b
  | .sl hn h => .sl hn (BS.mono hz h)
end
/-- The cells from this address on are those of a row of type j from cell o on. -/
def BRow (Z : Nat → Option Obj) (j o g b : Nat) : Prop := ∃ f : Nat → Value, ∀ i ct, (RT j)[o + i]? = some ct → zc Z g (b + i) = some (f i) ∧ BC Z ct (f i)
theorem BRow.mono {Z Z' : Nat → Option Obj} (hz : ∀ g o, Z g = some o → Z' g = some o) {j o g b : Nat} (h : BRow Z j o g b) : BRow Z' j o g b := by
  obtain ⟨f, hf⟩ := h
  exact ⟨f, fun i ct hi => ⟨zc_mono hz (hf i ct hi).1, (hf i ct hi).2.mono hz⟩⟩
theorem BS.row {Z : Nat → Option Obj} {j n : Nat} {v : Value} (h : BS Z j n v) : ∃ a c, v = .slice a n c ∧ n ≤ c ∧ c ≤ maxLen ∧ (0 < n → ∃ g o, a = some ⟨g, o, none⟩ ∧ ∀ q, q < n → BRow Z j 0 g (o + q * (RT j).length)) := by
  cases h with
  | @mk j n c a f hn hm h ht =>
    refine ⟨a, c, rfl, hn, hm, fun h0 => ?_⟩
    obtain ⟨g, o, e, hc⟩ := h h0
    refine ⟨g, o, e, fun q hq => ⟨f q, fun i ct hi => ?_⟩⟩
    rw [Nat.zero_add] at hi
    exact ⟨hc q i hq (List.getElem?_eq_some_iff.1 hi).1, ht q i ct hq hi⟩
/-- A part of the rows. -/
theorem BS.part {Z : Nat → Option Obj} {j n : Nat} {v : Value} (h : BS Z j n v) {lo hi : Nat} (h1 : lo ≤ hi) (h2 : hi ≤ n) : ∃ a c, v = .slice a n c ∧ ∀ a', (lo < hi → ∀ g o, a = some ⟨g, o, none⟩ → a' = some ⟨g, o + lo * (RT j).length, none⟩) → BS Z j (hi - lo) (.slice a' (hi - lo) (c - lo)) := by
  cases h with
  | @mk j n c a f hn hm h ht =>
    refine ⟨a, c, rfl, fun a' ha => .mk (fun q i => f (lo + q) i) (by omega) (by omega) (fun h0 => ?_) fun q i ct hq hi => ht (lo + q) i ct (by omega) hi⟩
    obtain ⟨g, o, e, hc⟩ := h (by omega)
    refine ⟨g, o + lo * (RT j).length, ha (by omega) g o e, fun q i hq hi => ?_⟩
    rw [Nat.add_assoc o, ← Nat.add_mul]
    exact hc (lo + q) i (by omega) hi
theorem BRow.part {Z : Nat → Option Obj} {j o g b : Nat} (h : BRow Z j o g b) (m : Nat) : BRow Z j (o + m) g (b + m) := by
  obtain ⟨f, hf⟩ := h
  refine ⟨fun i => f (m + i), fun i ct hi => ?_⟩
  rw [Nat.add_assoc] at hi ⊢
  exact hf (m + i) ct hi
end
section
open Go

/-- A name's block, and its capacity where it has grown; the base world, and what the symbols stand for; z: blocks that are not written any more. -/
structure Names where
  b : Nat → Option (Nat × Option Nat)
  s : World × (Nat → Value)
  z : Nat → Option Obj
instance : CoeFun Names (fun _ => Nat → Option (Nat × Option Nat)) := ⟨Names.b⟩
/-- One name more. -/
def Names.add (ρ : Names) (n : Nat) (x : Nat × Option Nat) : Names := ⟨fun k => if k = n then some x else ρ k, ρ.s, ρ.z⟩
structure NLe (ρ ρ' : Names) : Prop where
  b : ∀ k x, ρ k = some x → ρ' k = some x
  s : ρ'.s = ρ.s
  z : ∀ g o, ρ.z g = some o → ρ'.z g = some o
  zo : ∀ g o, g < ρ.s.1.heap.size → ρ'.z g = some o → ρ.z g = some o
theorem NLe.refl (ρ : Names) : NLe ρ ρ := ⟨fun _ _ h => h, rfl, fun _ _ h => h, fun _ _ _ h => h⟩
theorem NLe.trans {a b c : Names} (h : NLe a b) (h' : NLe b c) : NLe a c := ⟨fun k x hx => h'.b k x (h.b k x hx), h'.s.trans h.s, fun g o hz => h'.z g o (h.z g o hz), fun g o hg hz => h.zo g o hg (h'.zo g o (by rw [h.s]; exact hg) hz)⟩
theorem NLe.add {ρ : Names} {n : Nat} (h : ρ n = none) (x : Nat × Option Nat) : NLe ρ (ρ.add n x) := ⟨fun k y hy => by
  show (if k = n then some x else ρ k) = some y
  rw [if_neg (fun q => by rw [q, h] at hy; cases hy)]
  exact hy, rfl, fun _ _ h => h, fun _ _ _ h => h⟩
theorem Names.add_self (ρ : Names) (n : Nat) (x : Nat × Option Nat) : (ρ.add n x) n = some x := if_pos rfl
theorem Names.add_ne (ρ : Names) {n k : Nat} (x : Nat × Option Nat) (h : k ≠ n) : (ρ.add n x) k = ρ k := if_neg h
/-- What a symbol may stand for. -/
def scalar : Value → Bool
  | .int _ _ | .bool _ | .string _ => true
  | _ => false
/-- This capacity stands for that of a block which has grown; a greater one for an unknown one. -/
def openCap : Nat := 4611686018427387904
/-- A kind's number. -/
def kidx : IntKind → Nat
  | .i8 => 0
  | .i16 => 1
  | .i32 => 2
  | .i64 => 3
  | .u8 => 4
  | .u16 => 5
  | .u32 => 6
  | .u64 => 7
/-- The world's block g holds n i64 ints from o on. -/
def IntsAt (W : World) (g o n : Nat) : Prop := g < W.heap.size ∧ ∀ i, i < n → ∃ m : Int, W.cell? ⟨g, o + i, none⟩ = some (.int .i64 m) ∧ IntKind.i64.wrap m = m
/-- The int that a name stands for. -/
def symI (p : Nat × Option Nat) : Int := match p.2 with
  | none => (p.1 : Int)
  | some _ => Int.negSucc p.1
/-- The computed value says this of the real one. Unknown ones: .complex .f32 is any value of one cell, .float any int of a kind, .complex a natural from a to b; symS: a slice of rows of sz ints in the base world, of at least lo rows; symLen: its length; ptrI: where rem ints lie there; modI: an i64 int whose remainder by m is r; ptrU: a place in a named block, from lo to hi; symN: the int that a name stands for. -/
inductive VR (ρ : Names) : Value → Value → Prop
  | sym {i : Nat} {v' : Value} (h : ρ.s.2 i = v') (hs : scalar v' = true) : VR ρ (.chan (some i)) v'
  | any {v' : Value} (hs : v'.oneCell' = true) : VR ρ (.complex .f32 0 0) v'
  | anyI {k : IntKind} {n : Int} (hw : k.wrap n = n) : VR ρ (.float .f64 (kidx k)) (.int k n)
  | rng {k : IntKind} {a b n : Nat} (h1 : a ≤ n) (h2 : n ≤ b) (hw : k.wrap (n : Int) = n) : VR ρ (.complex .f64 (a * 8 + kidx k) b) (.int k (n : Int))
  | symS {i lo sz : Nat} {a : Option Addr} {n c : Nat} (h : ρ.s.2 i = .slice a n c) (hlo : lo ≤ n) (hn : n ≤ maxLen) (hz : sz < 64) (ha : 0 < n → ∃ g o, a = some ⟨g, o, none⟩ ∧ IntsAt ρ.s.1 g o (n * sz)) : VR ρ (.complex .f32 (i * 8 + 2) (lo * 64 + sz)) (.slice a n c)
  | symLen {i lo : Nat} {a : Option Addr} {n c : Nat} (h : ρ.s.2 i = .slice a n c) (hlo : lo ≤ n) (hn : n ≤ maxLen) : VR ρ (.complex .f32 (i * 8 + 1) lo) (.int .i64 (n : Int))
  | ptrI {g o rem : Nat} (h : IntsAt ρ.s.1 g o rem) : VR ρ (.complex .f32 3 rem) (.pointer (some ⟨g, o, none⟩))
  | modI {m r : Nat} {n : Int} (h : n % (m : Int) = (r : Int)) (hw : IntKind.i64.wrap n = n) : VR ρ (.complex .f32 (m * 8 + 4) r) (.int .i64 n)
  | anyB (b : Bool) : VR ρ (.complex .f32 5 0) (.bool b)
  | bsl {j n : Nat} {v' : Value} (h : BS ρ.z j n v') : VR ρ (.complex .f32 (j * 8 + 6) n) v'
  | bslU {j mx n : Nat} {v' : Value} (h : BS ρ.z j n v') (hn : n ≤ mx) : VR ρ (.complex .f32 (j * 8 + 7) mx) v'
  | bptr {j o g b : Nat} (h : BRow ρ.z j o g b) : VR ρ (.complex .f32 (j * 8 + 8) o) (.pointer (some ⟨g, b, none⟩))
  | ptrU {k g o lo hi : Nat} {c : Option Nat} (h : ρ k = some (g, c)) (h1 : lo ≤ o) (h2 : o ≤ hi) (hl : lo < 4096) (hh : hi < 4096) : VR ρ (.float .f32 (((k * 4096 + lo) * 4096 + hi) * 2)) (.pointer (some ⟨g, o, none⟩))
  | symN {k : Nat} {p : Nat × Option Nat} (h : ρ k = some p) (hw : IntKind.i64.wrap (symI p) = symI p) : VR ρ (.float .f32 (k * 2 + 1)) (.int .i64 (symI p))
  | bool (b : Bool) : VR ρ (.bool b) (.bool b)
  | int (k : IntKind) (n : Int) : VR ρ (.int k n) (.int k n)
  | string (s : ByteArray) : VR ρ (.string s) (.string s)
  | ptr0 : VR ρ (.pointer none) (.pointer none)
  | ptr {k o g : Nat} {c : Option Nat} (h : ρ k = some (g, c)) : VR ρ (.pointer (some ⟨k, o, none⟩)) (.pointer (some ⟨g, o, none⟩))
  | slice0 (n c : Nat) : VR ρ (.slice none n c) (.slice none n c)
  | slice {k o o' g n c c' : Nat} {q : Option Nat} (h : ρ k = some (g, q)) (hoff : 0 < n ∨ 0 < c ∧ c ≤ openCap → o' = o) (hn : n ≤ c') (hm : c' ≤ maxLen) (he : c < openCap → c' = c) (ho : c = openCap → o = 0 ∧ q = some c') : VR ρ (.slice (some ⟨k, o, none⟩) n c) (.slice (some ⟨g, o', none⟩) n c')
  | map0 : VR ρ (.map none) (.map none)
  | map {k g : Nat} {c : Option Nat} (h : ρ k = some (g, c)) : VR ρ (.map (some k)) (.map (some g))
  | nilFunc : VR ρ .nilFunc .nilFunc
  | nilIface : VR ρ .nilIface .nilIface
  | iface (t : TypeId) {v v' : Value} (h : VR ρ v v') : VR ρ (.iface t v) (.iface t v')
  | func (fn : Fn) {a a' b b' : Array Value} (ha : a.size = a'.size) (hav : ∀ (i : Nat) (x x' : Value), a[i]? = some x → a'[i]? = some x' → VR ρ x x') (hb : b.size = b'.size) (hbv : ∀ (i : Nat) (x x' : Value), b[i]? = some x → b'[i]? = some x' → VR ρ x x') : VR ρ (.func fn a b) (.func fn a' b')
  | agg {a a' : Array Value} (ha : a.size = a'.size) (hav : ∀ (i : Nat) (x x' : Value), a[i]? = some x → a'[i]? = some x' → VR ρ x x') : VR ρ (.agg a) (.agg a')
  | tuple {a a' : Array Value} (ha : a.size = a'.size) (hav : ∀ (i : Nat) (x x' : Value), a[i]? = some x → a'[i]? = some x' → VR ρ x x') : VR ρ (.tuple a) (.tuple a')
def AR (ρ : Names) (a a' : Array Value) : Prop := a.size = a'.size ∧ ∀ (i : Nat) (x x' : Value), a[i]? = some x → a'[i]? = some x' → VR ρ x x'
theorem VR.mono {ρ ρ' : Names} (h : NLe ρ ρ') {v v' : Value} (r : VR ρ v v') : VR ρ' v v' := by
  induction r with
  | sym hh hs => exact .sym (by rw [h.s]; exact hh) hs
  | any hs => exact .any hs
  | anyI hw => exact .anyI hw
  | rng h1 h2 hw => exact .rng h1 h2 hw
  | symS hh hlo hn hz ha => exact .symS (by rw [h.s]; exact hh) hlo hn hz (by rw [h.s]; exact ha)
  | symLen hh hlo hn => exact .symLen (by rw [h.s]; exact hh) hlo hn
  | ptrI hh => exact .ptrI (by rw [h.s]; exact hh)
  | modI hh hw => exact .modI hh hw
  | anyB b => exact .anyB b
  | bsl hh => exact .bsl (hh.mono h.z)
  | bslU hh hn => exact .bslU (hh.mono h.z) hn
  | bptr hh => exact .bptr (hh.mono h.z)
  | ptrU hk h1 h2 hl hh => exact .ptrU (h.b _ _ hk) h1 h2 hl hh
  | symN hk hw => exact .symN (h.b _ _ hk) hw
  | bool b => exact .bool b
  | int k n => exact .int k n
  | string s => exact .string s
  | ptr0 => exact .ptr0
  | ptr hk => exact .ptr (h.b _ _ hk)
  | slice0 n c => exact .slice0 n c
  | slice hk hf hn hm he ho => exact .slice (h.b _ _ hk) hf hn hm he ho
  | map0 => exact .map0
  | map hk => exact .map (h.b _ _ hk)
  | nilFunc => exact .nilFunc
  | nilIface => exact .nilIface
  | iface t _ ih => exact .iface t ih
  | func fn ha _ hb _ iha ihb => exact .func fn ha iha hb ihb
  | agg ha _ ih => exact .agg ha ih
  | tuple ha _ ih => exact .tuple ha ih
theorem AR.mono {ρ ρ' : Names} (h : NLe ρ ρ') {a a' : Array Value} (r : AR ρ a a') : AR ρ' a a' := ⟨r.1, fun i x x' hx hx' => (r.2 i x x' hx hx').mono h⟩
theorem AR.nil (ρ : Names) : AR ρ #[] #[] := ⟨rfl, fun i x x' hx => by simp at hx⟩
theorem AR.get {ρ : Names} {a a' : Array Value} (r : AR ρ a a') {i : Nat} {x : Value} (h : a[i]? = some x) : ∃ x', a'[i]? = some x' ∧ VR ρ x x' := by
  have hi := (Array.getElem?_eq_some_iff.1 h).1
  have hi' : i < a'.size := by rw [← r.1]; exact hi
  exact ⟨a'[i], Array.getElem?_eq_getElem hi', r.2 i x _ h (Array.getElem?_eq_getElem hi')⟩
theorem VR.undef (ρ : Names) : VR ρ undef undef := .tuple rfl fun i x x' hx => by simp at hx
theorem AR.getD {ρ : Names} {a a' : Array Value} (r : AR ρ a a') (i : Nat) : VR ρ (a.getD i undef) (a'.getD i undef) := by
  rw [Array.getD_eq_getD_getElem?, Array.getD_eq_getD_getElem?]
  cases h : a[i]? with
  | none =>
    have : a'[i]? = none := by rw [Array.getElem?_eq_none_iff] at h ⊢; rw [← r.1]; exact h
    rw [this]; exact VR.undef ρ
  | some x =>
    obtain ⟨x', hx', hv⟩ := r.get h
    rw [hx']; exact hv
theorem AR.set {ρ : Names} {a a' : Array Value} (r : AR ρ a a') (i : Nat) {v v' : Value} (h : VR ρ v v') : AR ρ (a.setIfInBounds i v) (a'.setIfInBounds i v') := by
  refine ⟨by simp [r.1], fun j x x' hx hx' => ?_⟩
  rw [Array.getElem?_setIfInBounds] at hx hx'
  by_cases hij : i = j
  · rw [if_pos hij] at hx hx'
    split at hx
    · split at hx'
      · cases hx; cases hx'; exact h
      · cases hx'
    · cases hx
  · rw [if_neg hij] at hx hx'
    exact r.2 j x x' hx hx'
theorem AR.push {ρ : Names} {a a' : Array Value} (r : AR ρ a a') {v v' : Value} (h : VR ρ v v') : AR ρ (a.push v) (a'.push v') := by
  refine ⟨by simp [r.1], fun j x x' hx hx' => ?_⟩
  rw [Array.getElem?_push] at hx hx'
  rw [← r.1] at hx'
  split at hx
  · rename_i hj
    rw [if_pos hj] at hx'
    cases hx; cases hx'; exact h
  · rename_i hj
    rw [if_neg hj] at hx'
    exact r.2 j x x' hx hx'
theorem AR.append {ρ : Names} {a a' b b' : Array Value} (r : AR ρ a a') (s : AR ρ b b') : AR ρ (a ++ b) (a' ++ b') := by
  refine ⟨by simp [r.1, s.1], fun j x x' hx hx' => ?_⟩
  rw [Array.getElem?_append] at hx hx'
  rw [← r.1] at hx'
  split at hx
  · rename_i hj
    rw [if_pos hj] at hx'
    exact r.2 j x x' hx hx'
  · rename_i hj
    rw [if_neg hj] at hx'
    exact s.2 _ x x' hx hx'
theorem AR.extract {ρ : Names} {a a' : Array Value} (r : AR ρ a a') (i j : Nat) : AR ρ (a.extract i j) (a'.extract i j) := by
  refine ⟨by simp [r.1], fun k x x' hx hx' => ?_⟩
  rw [Array.getElem?_extract] at hx hx'
  rw [← r.1] at hx'
  split at hx
  · rename_i hk
    rw [if_pos hk] at hx'
    exact r.2 _ x x' hx hx'
  · cases hx
theorem AR.map {ρ : Names} {α : Type} {f f' : α → Value} (h : ∀ x, VR ρ (f x) (f' x)) (l : Array α) : AR ρ (l.map f) (l.map f') := by
  refine ⟨by simp, fun i x x' hx hx' => ?_⟩
  rw [Array.getElem?_map] at hx hx'
  cases hl : l[i]? with
  | none => rw [hl] at hx; cases hx
  | some y => rw [hl] at hx hx'; cases hx; cases hx'; exact h y
theorem VR.cells {ρ : Names} {v v' : Value} (h : VR ρ v v') : AR ρ v.cells v'.cells := by
  have one : ∀ {u u' : Value}, VR ρ u u' → AR ρ #[u] #[u'] := fun {u u'} hu => ⟨rfl, fun i x x' hx hx' => by
    rcases i with _ | i
    · cases hx; cases hx'; exact hu
    · simp at hx⟩
  cases h with
  | agg ha hav => exact ⟨ha, hav⟩
  | @sym i v' hh hs =>
    have : v'.cells = #[v'] := by cases v' <;> first | rfl | cases hs
    rw [this]
    exact one (.sym hh hs)
  | @any v' hs =>
    have : v'.cells = #[v'] := by cases v' <;> first | rfl | cases hs
    rw [this]
    exact one (.any hs)
  | anyI hw => exact one (.anyI hw)
  | rng h1 h2 hw => exact one (.rng h1 h2 hw)
  | symS hh hlo hn hz ha => exact one (.symS hh hlo hn hz ha)
  | symLen hh hlo hn => exact one (.symLen hh hlo hn)
  | ptrI hh => exact one (.ptrI hh)
  | modI hh hw => exact one (.modI hh hw)
  | anyB b => exact one (.anyB b)
  | @bsl j n v' hh =>
    have : v'.cells = #[v'] := by obtain ⟨a, c, e, _⟩ := hh.row; rw [e]; rfl
    rw [this]
    exact one (.bsl hh)
  | @bslU j mx n v' hh hn =>
    have : v'.cells = #[v'] := by obtain ⟨a, c, e, _⟩ := hh.row; rw [e]; rfl
    rw [this]
    exact one (.bslU hh hn)
  | bptr hh => exact one (.bptr hh)
  | ptrU hk h1 h2 hl hh => exact one (.ptrU hk h1 h2 hl hh)
  | symN hk hw => exact one (.symN hk hw)
  | bool b => exact one (.bool b)
  | int k n => exact one (.int k n)
  | string s => exact one (.string s)
  | ptr0 => exact one .ptr0
  | ptr hk => exact one (.ptr hk)
  | slice0 n c => exact one (.slice0 n c)
  | slice hk hf hn hm he ho => exact one (.slice hk hf hn hm he ho)
  | map0 => exact one .map0
  | map hk => exact one (.map hk)
  | nilFunc => exact one .nilFunc
  | nilIface => exact one .nilIface
  | iface t h => exact one (.iface t h)
  | func fn ha hav hb hbv => exact one (.func fn ha hav hb hbv)
  | tuple ha hav => exact one (.tuple ha hav)

/-! ### Values that hold no address -/
def adrFree : Value → Bool
  | .bool _ | .int .. | .string _ | .pointer none | .slice none _ _ | .map none | .nilFunc | .nilIface => true
  | .func _ a b => a.isEmpty && b.isEmpty
  | _ => false
theorem VR.of_plain (ρ : Names) {v : Value} (h : adrFree v = true) : VR ρ v v := by
  cases v with
  | bool b => exact .bool b
  | int k n => exact .int k n
  | string s => exact .string s
  | pointer a => cases a with | none => exact .ptr0 | some a => cases h
  | slice a n c => cases a with | none => exact .slice0 n c | some a => cases h
  | map r => cases r with | none => exact .map0 | some a => cases h
  | nilFunc => exact .nilFunc
  | nilIface => exact .nilIface
  | func fn a b =>
    simp only [adrFree, Bool.and_eq_true, Array.isEmpty_iff] at h
    obtain ⟨rfl, rfl⟩ := h
    exact .func fn rfl (fun i x x' hx => by simp at hx) rfl (fun i x x' hx => by simp at hx)
  | float k b => cases h
  | complex k a b => cases h
  | chan r => cases h
  | iface t v => cases h
  | agg cs => cases h
  | tuple vs => cases h
theorem VR.plain_eq {ρ : Names} {v v' : Value} (r : VR ρ v v') (h : adrFree v = true) : v' = v := by
  cases r with
  | sym hh hs => cases h
  | any hs => cases h
  | anyI hw => cases h
  | rng h1 h2 hw => cases h
  | symS hh hlo hn hz ha => cases h
  | symLen hh hlo hn => cases h
  | ptrI hh => cases h
  | modI hh hw => cases h
  | anyB b => cases h
  | bsl hh => cases h
  | bslU hh hn => cases h
  | bptr hh => cases h
  | ptrU hk h1 h2 hl hh => cases h
  | symN hk hw => cases h
  | func fn ha hav hb hbv =>
    simp only [adrFree, Bool.and_eq_true, Array.isEmpty_iff] at h
    obtain ⟨rfl, rfl⟩ := h
    have e1 := Array.eq_empty_of_size_eq_zero ha.symm
    have e2 := Array.eq_empty_of_size_eq_zero hb.symm
    rw [e1, e2]
  | ptr hk => cases h
  | slice hk hc hm hq hz => cases h
  | map hk => cases h
  | iface t h' => cases h
  | agg ha hav => cases h
  | tuple ha hav => cases h
  | bool b => rfl
  | int k n => rfl
  | string s => rfl
  | ptr0 => rfl
  | slice0 n c => rfl
  | map0 => rfl
  | nilFunc => rfl
  | nilIface => rfl
end
section
open Go

/-! ### Values -/
/-- One cell's value. -/
inductive V
  | bool (b : Bool)
  | int (k : IntKind) (n : Nat)
  | neg (k : IntKind) (n : Nat)
  | ptr (k o : Nat)
  | slice (k o n c : Nat)
  | oth (v : Value)
noncomputable def V.toV (v : V) : Value := V.rec (fun b => .bool b) (fun k n => .int k (.ofNat n)) (fun k n => .int k (.negSucc n)) (fun k o => .pointer (some ⟨k, o, none⟩)) (fun k o n c => .slice (some ⟨k, o, none⟩) n c) (fun u => cond u.oneCell' u (.bool false)) v
def V.ofV : Value → V
  | .bool b => .bool b
  | .int k (.ofNat n) => .int k n
  | .int k (.negSucc n) => .neg k n
  | .pointer (some ⟨k, o, none⟩) => .ptr k o
  | .slice (some ⟨k, o, none⟩) n c => .slice k o n c
  | v => .oth v
theorem V.toV_oth {u : Value} (h : u.oneCell' = true) : (V.oth u).toV = u := by
  show cond u.oneCell' u (.bool false) = u
  rw [h]; rfl
theorem V.toV_ofV {v : Value} (h : v.oneCell' = true) : (V.ofV v).toV = v := by
  unfold V.ofV
  split <;> first | rfl | exact V.toV_oth h
theorem V.one (v : V) : v.toV.oneCell' = true := by
  cases v with
  | oth u =>
    show (cond u.oneCell' u (.bool false)).oneCell' = true
    cases h : u.oneCell' with
    | true => exact h
    | false => rfl
  | _ => rfl
/-- A slot's value: one cell, a struct or an array as a list or as a tree, a tuple. -/
inductive X
  | sc (v : V)
  | agg (l : List V)
  | tree (d n : Nat) (t : Nd V d)
  | nil
  | cons (h t : X)
  | raw (v : Value)
noncomputable def lst {d : Nat} (t : Nd V d) (n : Nat) : List Value := (List.range n).map fun i => (get t i).toV
noncomputable def X.both : X → Value × List Value
  | .sc v => (v.toV, [])
  | .agg l => (.agg (l.map V.toV).toArray, [])
  | .tree _ n t => (.agg (lst t n).toArray, [])
  | .nil => (undef, [])
  | .raw v => (v, [])
  | .cons h t => (.tuple (h.both.1 :: t.both.2).toArray, h.both.1 :: t.both.2)
noncomputable def X.toV (x : X) : Value := x.both.1
def X.of1 (v : Value) : X := match v with
  | .agg cs => cond (cs.toList.all (·.oneCell')) (.agg (cs.toList.map V.ofV)) (.raw v)
  | v => cond v.oneCell' (.sc (V.ofV v)) (.raw v)
def X.ofL : List Value → X
  | [] => .nil
  | v :: l => .cons (X.of1 v) (X.ofL l)
def X.ofV : Value → X
  | .tuple vs => X.ofL vs.toList
  | v => X.of1 v
theorem map_ofV : ∀ {l : List Value}, l.all (·.oneCell') = true → (l.map V.ofV).map V.toV = l
  | [], _ => rfl
  | v :: l, h => by
    rw [List.all_cons, Bool.and_eq_true] at h
    rw [List.map_cons, List.map_cons, V.toV_ofV h.1, map_ofV h.2]
theorem X.toV_of1 (v : Value) : (X.of1 v).toV = v := by
  unfold X.of1
  split
  · rename_i cs
    cases h : cs.toList.all (·.oneCell') with
    | false => rfl
    | true =>
      show Value.agg (List.map V.toV (List.map V.ofV cs.toList)).toArray = _
      rw [map_ofV h]
  · cases h : v.oneCell' with
    | false => rfl
    | true => exact V.toV_ofV h
theorem X.both_ofL : ∀ l : List Value, (X.ofL l).both.2 = l
  | [] => rfl
  | v :: l => by
    show (X.of1 v).toV :: (X.ofL l).both.2 = _
    rw [X.toV_of1, X.both_ofL l]
theorem X.toV_ofV (v : Value) : (X.ofV v).toV = v := by
  unfold X.ofV
  split
  · rename_i vs
    have h := X.both_ofL vs.toList
    cases hl : vs.toList with
    | nil =>
      have : vs = #[] := Array.ext' hl
      rw [this]; rfl
    | cons x l =>
      have e : vs = (x :: l).toArray := Array.ext' hl
      rw [e]
      show Value.tuple ((X.of1 x).toV :: (X.ofL l).both.2).toArray = _
      rw [X.toV_of1, X.both_ofL]
  · exact X.toV_of1 _

/-! ### Blocks -/
/-- A block, as the model's values. -/
inductive AObj
  | cells (cs : List Value) (T : TypeId)
  | grown (cs : List Value) (T : TypeId) (sz n : Nat)
  | mp (es : List MapEntry) (clock : Nat)
  | gone
/-- A block, as it is computed: its cells in a tree of depth d. -/
inductive O2
  | gone
  | cells (d n : Nat) (t : Nd V d) (T : TypeId)
  | grown (d : Nat) (t : Nd V d) (T : TypeId) (sz n : Nat)
  | raw (o : AObj)
noncomputable def O2.toO : O2 → AObj
  | .gone => .gone
  | .cells _ n t T => .cells (lst t n) T
  | .grown _ t T sz n => .grown (lst t (n * sz)) T sz n
  | .raw o => o
/-- The list's values from i on. -/
noncomputable def fillT {d : Nat} (l : List V) : Nat → Nd V d → Nd V d := List.rec (motive := fun _ => Nat → Nd V d → Nd V d) (fun _ t => t) (fun v _ ih i t => ih (Nat.add i 1) (set i v t)) l
noncomputable def nov : V := .bool false
noncomputable def dep (n : Nat) : Nat := cond (Nat.ble n 8) 1 (cond (Nat.ble n 64) 2 (cond (Nat.ble n 512) 3 4))
noncomputable def treeOf (d : Nat) (l : List V) : Nd V d := fillT l 0 (leafs nov d)
theorem fillT_cons {d : Nat} (v : V) (l : List V) (i : Nat) (t : Nd V d) : fillT (v :: l) i t = fillT l (i + 1) (set i v t) := rfl
theorem get_fillT {d : Nat} : ∀ (l : List V) (i : Nat) (t : Nd V d) (j : Nat), i + l.length ≤ 8 ^ d → j < 8 ^ d → get (fillT l i t) j = if i ≤ j ∧ j < i + l.length then l.getD (j - i) nov else get t j
  | [], i, t, j, _, _ => by
    rw [if_neg (by simp)]
    rfl
  | v :: l, i, t, j, h, hj => by
    rw [fillT_cons, get_fillT l (i + 1) (set i v t) j (by simp at h; omega) hj]
    simp only [List.length_cons] at h ⊢
    by_cases h1 : i + 1 ≤ j ∧ j < i + 1 + l.length
    · rw [if_pos h1, if_pos (by omega)]
      rw [show j - i = (j - (i + 1)) + 1 from by omega, List.getD_cons_succ]
    · rw [if_neg h1]
      by_cases h2 : j = i
      · subst h2
        rw [get_set_same, if_pos (by omega), Nat.sub_self, List.getD_cons_zero]
      · rw [get_set_other v (fun q => h2 q.symm) d t (by omega) hj, if_neg (by omega)]
theorem lst_treeOf {d : Nat} (l : List V) (h : l.length ≤ 8 ^ d) : lst (treeOf d l) l.length = l.map V.toV := by
  apply List.ext_getElem (by simp [lst])
  intro i h1 h2
  simp only [lst, List.length_map, List.length_range] at h1
  simp only [lst, List.getElem_map, List.getElem_range]
  unfold treeOf
  rw [get_fillT l 0 _ i (by omega) (by omega), if_pos (by omega), Nat.sub_zero, List.getD_eq_getElem?_getD, List.getElem?_eq_getElem h1]
  rfl
noncomputable def cellsOf (cs : List Value) (T : TypeId) : O2 := cond (Nat.ble cs.length 4096 && cs.all (·.oneCell')) (.cells (dep cs.length) cs.length (treeOf (dep cs.length) (cs.map V.ofV)) T) (.raw (.cells cs T))
noncomputable def grownOf (cs : List Value) (T : TypeId) (sz n : Nat) : O2 := cond (Nat.ble cs.length 4096 && (Nat.beq cs.length (n * sz) && cs.all (·.oneCell'))) (.grown (dep cs.length) (treeOf (dep cs.length) (cs.map V.ofV)) T sz n) (.raw (.grown cs T sz n))
noncomputable def O2.ofO : AObj → O2
  | .gone => .gone
  | .cells cs T => cellsOf cs T
  | .grown cs T sz n => grownOf cs T sz n
  | .mp es c => .raw (.mp es c)
theorem dep_le {n : Nat} (h : n ≤ 4096) : n ≤ 8 ^ dep n := by
  unfold dep
  cases h1 : Nat.ble n 8 with
  | true => have := Nat.le_of_ble_eq_true h1; simpa using this
  | false =>
    cases h2 : Nat.ble n 64 with
    | true => have := Nat.le_of_ble_eq_true h2; simpa using this
    | false =>
      cases h3 : Nat.ble n 512 with
      | true => have := Nat.le_of_ble_eq_true h3; simpa using this
      | false => simpa using h
theorem O2.toO_ofO (o : AObj) : (O2.ofO o).toO = o := by
  cases o with
  | gone => rfl
  | mp es c => rfl
  | cells cs T =>
    show (cellsOf cs T).toO = _
    unfold cellsOf
    cases h : (Nat.ble cs.length 4096 && cs.all (·.oneCell')) with
    | false => rfl
    | true =>
      rw [Bool.and_eq_true] at h
      have hl := lst_treeOf (d := dep cs.length) (cs.map V.ofV) (by simpa using dep_le (Nat.le_of_ble_eq_true h.1))
      rw [List.length_map, map_ofV h.2] at hl
      show AObj.cells (lst _ _) T = _
      rw [hl]
  | grown cs T sz n =>
    show (grownOf cs T sz n).toO = _
    unfold grownOf
    cases h : (Nat.ble cs.length 4096 && (Nat.beq cs.length (n * sz) && cs.all (·.oneCell'))) with
    | false => rfl
    | true =>
      rw [Bool.and_eq_true, Bool.and_eq_true] at h
      have h2 := Nat.eq_of_beq_eq_true h.2.1
      have hl := lst_treeOf (d := dep cs.length) (cs.map V.ofV) (by simpa using dep_le (Nat.le_of_ble_eq_true h.1))
      rw [List.length_map, map_ofV h.2.2] at hl
      show AObj.grown (lst _ (n * sz)) T sz n = _
      rw [← h2, hl]

/-! ### Memory -/
abbrev Heap := Nd O2 5
/-- The computed memory, and its next name. -/
structure St where
  H : Heap
  n : Nat
noncomputable def findO (k : Nat) (H : Heap) : AObj := cond (Nat.blt k 32768) (get H k).toO .gone
noncomputable def setO (k : Nat) (o : AObj) (H : Heap) : Heap := set k (O2.ofO o) H
noncomputable def noHeap : Heap := leafs .gone 5
theorem find_none (k : Nat) : findO k noHeap = .gone := by
  unfold findO noHeap
  rw [get_leafs]
  cases Nat.blt k 32768 <;> rfl
theorem find_ge {k : Nat} {H : Heap} (h : findO k H ≠ .gone) : k < 32768 := by
  unfold findO at h
  cases hb : Nat.blt k 32768 with
  | true => exact Nat.le_of_ble_eq_true hb
  | false => rw [hb] at h; exact absurd rfl h
theorem find_set2 {k : Nat} (hk : k < 32768) (o : O2) (H : Heap) (j : Nat) : findO j (set k o H) = if j = k then o.toO else findO j H := by
  unfold findO
  by_cases h : j = k
  · subst h
    rw [if_pos rfl, get_set_same, show Nat.blt j 32768 = true from Nat.ble_eq_true_of_le hk]
    rfl
  · rw [if_neg h]
    cases hb : Nat.blt j 32768 with
    | false => rfl
    | true =>
      rw [get_set_other o (fun q => h q.symm) 5 H hk (Nat.le_of_ble_eq_true hb)]
theorem find_set {k : Nat} (hk : k < 32768) (o : AObj) (H : Heap) (j : Nat) : findO j (setO k o H) = if j = k then o else findO j H := by
  unfold setO
  rw [find_set2 hk, O2.toO_ofO]
end
section
open Go
def LR (ρ : Names) (xs ys : List Value) : Prop := xs.length = ys.length ∧ ∀ (i : Nat) (x y : Value), xs[i]? = some x → ys[i]? = some y → VR ρ x y
theorem LR.mono {ρ ρ' : Names} (h : NLe ρ ρ') {a a' : List Value} (r : LR ρ a a') : LR ρ' a a' := ⟨r.1, fun i x x' hx hx' => (r.2 i x x' hx hx').mono h⟩
theorem LR.get {ρ : Names} {a a' : List Value} (r : LR ρ a a') {i : Nat} {x : Value} (h : a[i]? = some x) : ∃ x', a'[i]? = some x' ∧ VR ρ x x' := by
  have hi := (List.getElem?_eq_some_iff.1 h).1
  have hi' : i < a'.length := by rw [← r.1]; exact hi
  exact ⟨a'[i], List.getElem?_eq_getElem hi', r.2 i x _ h (List.getElem?_eq_getElem hi')⟩
theorem LR.set {ρ : Names} {a a' : List Value} (r : LR ρ a a') (i : Nat) {v v' : Value} (h : VR ρ v v') : LR ρ (a.set i v) (a'.set i v') := by
  refine ⟨by simp [r.1], fun j x x' hx hx' => ?_⟩
  rw [List.getElem?_set] at hx hx'
  by_cases hij : i = j
  · rw [if_pos hij] at hx hx'
    split at hx
    · split at hx'
      · cases hx; cases hx'; exact h
      · cases hx'
    · cases hx
  · rw [if_neg hij] at hx hx'
    exact r.2 j x x' hx hx'
theorem AR.list {ρ : Names} {a a' : Array Value} (r : AR ρ a a') : LR ρ a.toList a'.toList := ⟨by simpa using r.1, fun i x y hx hy => r.2 i x y (by simpa using hx) (by simpa using hy)⟩
theorem LR.array {ρ : Names} {a a' : List Value} (r : LR ρ a a') : AR ρ a.toArray a'.toArray := ⟨by simpa using r.1, fun i x y hx hy => r.2 i x y (by simpa using hx) (by simpa using hy)⟩

/-- The entries of a map: the keys are the same ones, the values are said. -/
def ER (ρ : Names) (es es' : List MapEntry) : Prop := es.length = es'.length ∧ ∀ (i : Nat) (e e' : MapEntry), es[i]? = some e → es'[i]? = some e' → e'.key = e.key ∧ e'.born = e.born ∧ VR ρ e.val e'.val
theorem ER.mono {ρ ρ' : Names} (h : NLe ρ ρ') {a a' : List MapEntry} (r : ER ρ a a') : ER ρ' a a' := ⟨r.1, fun i e e' he he' => ⟨(r.2 i e e' he he').1, (r.2 i e e' he he').2.1, (r.2 i e e' he he').2.2.mono h⟩⟩
/-- The block is just this map. -/
def MapIs (es : List MapEntry) (clock : Nat) : Obj → Prop := fun o => o = .map es.toArray clock
/-- What a computed block says of the real one; R: the names that are kept for later. -/
def ORel (R : Nat → Prop) (ρ : Names) (l : Ents) (k : Nat) : AObj → Prop
  | .gone => True
  | .cells cs T => R k ∨ ∃ g cs', ρ k = some (g, none) ∧ LR ρ cs cs'.toList ∧ Has l g (At cs' T)
  | .mp es c => R k ∨ ∃ g es', ρ k = some (g, none) ∧ ER ρ es es' ∧ Has l g (MapIs es' c)
  | .grown cs T sz n => R k ∨ ∃ g cap L, ρ k = some (g, some cap) ∧ LR ρ cs L.flatten ∧ L.length = n ∧ (∀ c ∈ L, c.length = sz) ∧ n ≤ cap ∧ cap ≤ maxLen ∧ Has l g (CapAt T sz cap L)
/-- The block that a live name names. -/
theorem ORel.has {R : Nat → Prop} {ρ : Names} {l : Ents} {k g : Nat} {c : Option Nat} {o : AObj} (h : ORel R ρ l k o) (hne : o ≠ .gone) (hR : ¬ R k) (hk : ρ k = some (g, c)) : ∃ Φ, Has l g Φ := by
  cases o with
  | gone => exact absurd rfl hne
  | cells cs T =>
    rcases h with h | ⟨g', cs', hk', _, hh⟩
    · exact absurd h hR
    · rw [hk] at hk'; cases hk'; exact ⟨_, hh⟩
  | mp es c =>
    rcases h with h | ⟨g', es', hk', _, hh⟩
    · exact absurd h hR
    · rw [hk] at hk'; cases hk'; exact ⟨_, hh⟩
  | grown cs T sz n =>
    rcases h with h | ⟨g', cap, L, hk', _, _, _, _, _, hh⟩
    · exact absurd h hR
    · rw [hk] at hk'; cases hk'; exact ⟨_, hh⟩
theorem ORel.imp {R R' : Nat → Prop} {ρ ρ' : Names} {l l' : Ents} {k : Nat} {o : AObj} (h : ORel R ρ l k o) (hR : R k → R' k) (hle : NLe ρ ρ') (hl : ∀ g c Φ, ρ k = some (g, c) → Has l g Φ → Has l' g Φ) : ORel R' ρ' l' k o := by
  cases o with
  | gone => trivial
  | cells cs T =>
    rcases h with h | ⟨g', cs', hk', hc, hh⟩
    · exact .inl (hR h)
    · exact .inr ⟨g', cs', hle.b _ _ hk', hc.mono hle, hl _ _ _ hk' hh⟩
  | mp es c =>
    rcases h with h | ⟨g', es', hk', hc, hh⟩
    · exact .inl (hR h)
    · exact .inr ⟨g', es', hle.b _ _ hk', hc.mono hle, hl _ _ _ hk' hh⟩
  | grown cs T sz n =>
    rcases h with h | ⟨g', cap, L, hk', a, b, c, d, e, hh⟩
    · exact .inl (hR h)
    · exact .inr ⟨g', cap, L, hle.b _ _ hk', a.mono hle, b, c, d, e, hl _ _ _ hk' hh⟩
/-- The computed memory st says this of the world w: of the blocks that were made since W. -/
structure Sim (W : World) (R : Nat → Prop) (w : World) (ρ : Names) (st : St) (l : Ents) : Prop where
  kn : Kn [] W w l
  rel : ∀ k, ORel R ρ l k (findO k st.H)
  inj : ∀ k k' g c c', findO k st.H ≠ .gone → findO k' st.H ≠ .gone → ρ k = some (g, c) → ρ k' = some (g, c') → k = k'
  res : ∀ k, R k → ρ k = none
  rlt : ∀ k, R k → k < st.n
  top : ∀ k, st.n ≤ k → ρ k = none
  base : ρ.s.1 = W
  sn : ∀ g o, ρ.z g = some o → (g < W.heap.size ∧ W.heap[g]? = some o) ∨ Has l g (· = o)
  sd : ∀ k g c, findO k st.H ≠ .gone → ρ k = some (g, c) → ρ.z g = none
section
variable {W w : World} {R : Nat → Prop} {ρ : Names} {st st' : St} {l : Ents}
theorem Sim.nR (hs : Sim W R w ρ st l) {k : Nat} {x : Nat × Option Nat} (hk : ρ k = some x) : ¬ R k := fun h => by rw [hs.res k h] at hk; cases hk
theorem Sim.drewN (hs : Sim W R w ρ st l) (n : Nat) : Sim W R (w.drewN n) ρ st l := ⟨hs.kn.drewN n, hs.rel, hs.inj, hs.res, hs.rlt, hs.top, hs.base, hs.sn, hs.sd⟩
/-- Another computed memory that says the same. -/
theorem Sim.congr (hs : Sim W R w ρ st l) (hH : ∀ k, findO k st'.H = findO k st.H) (hn : st'.n = st.n) : Sim W R w ρ st' l :=
  ⟨hs.kn, fun k => by rw [hH]; exact hs.rel k, fun k k' g c c' h h' => by rw [hH] at h h'; exact hs.inj k k' g c c' h h', hs.res, fun k h => by rw [hn]; exact hs.rlt k h, fun k h => hs.top k (by rw [← hn]; exact h), hs.base, hs.sn, fun k g c h => by rw [hH] at h; exact hs.sd k g c h⟩
theorem find_cells (hs : Sim W R w ρ st l) {k g : Nat} {c : Option Nat} (hk : ρ k = some (g, c)) {cs : List Value} {T : TypeId} (hf : findO k st.H = .cells cs T) :
    ∃ cs' : Array Value, LR ρ cs cs'.toList ∧ c = none ∧ Has l g (At cs' T) := by
  have h := hs.rel k
  rw [hf] at h
  rcases h with h | ⟨g', cs', hk', hc, hh⟩
  · exact absurd h (hs.nR hk)
  · rw [hk] at hk'; cases hk'; exact ⟨cs', hc, rfl, hh⟩
theorem find_grown (hs : Sim W R w ρ st l) {k g : Nat} {c : Option Nat} (hk : ρ k = some (g, c)) {cs : List Value} {T : TypeId} {sz n : Nat} (hf : findO k st.H = .grown cs T sz n) :
    ∃ (L : List (List Value)) (cap : Nat), LR ρ cs L.flatten ∧ c = some cap ∧ L.length = n ∧ (∀ c ∈ L, c.length = sz) ∧ n ≤ cap ∧ cap ≤ maxLen ∧ Has l g (CapAt T sz cap L) := by
  have h := hs.rel k
  rw [hf] at h
  rcases h with h | ⟨g', cap, L, hk', a, b, c', d, e, hh⟩
  · exact absurd h (hs.nR hk)
  · rw [hk] at hk'; cases hk'; exact ⟨L, cap, a, rfl, b, c', d, e, hh⟩
theorem Has.repl {g : Nat} {Φ : Obj → Prop} (Φ' : Obj → Prop) {l : Ents} (h : Has l g Φ) : ∃ l', Repl l g Φ Φ' l' := by
  induction h with
  | here => exact ⟨_, .here⟩
  | there _ ih => obtain ⟨l', r⟩ := ih; exact ⟨_, .there r⟩
theorem Repl.new_ {l l' : Ents} {g : Nat} {Φ Φ' : Obj → Prop} (r : Repl l g Φ Φ' l') : Has l' g Φ' := by
  induction r with
  | here => exact .here
  | there _ ih => exact .there ih
theorem Repl.keep_ {l l' : Ents} {g : Nat} {Φ Φ' : Obj → Prop} (r : Repl l g Φ Φ' l') {k : Nat} {Ψ : Obj → Prop} (h : Has l k Ψ) (hne : k ≠ g) : Has l' k Ψ := by
  induction r with
  | here =>
    cases h with
    | here => exact absurd rfl hne
    | there h => exact .there h
  | there _ ih =>
    cases h with
    | here => exact .here
    | there h => exact .there (ih h hne)
/-- Another content of a block. -/
theorem set_cells (hs : Sim W R w ρ st l) {k g : Nat} {c : Option Nat} (hk : ρ k = some (g, c)) {cs ds : List Value} {T : TypeId} (hf : findO k st.H = .cells cs T) :
    ∃ cs' : Array Value, LR ρ cs cs'.toList ∧ Has l g (At cs' T) ∧ ∀ (o : Nat) (vs : List Value), LR ρ ds (putL cs' o vs).toList → ∃ l', Sim W R (w.setCells g o vs) ρ ⟨setO k (.cells ds T) st.H, st.n⟩ l' := by
  obtain ⟨cs', hl, hcn, hh⟩ := find_cells hs hk hf
  subst hcn
  have hlt : k < 32768 := find_ge (H := st.H) (by rw [hf]; intro q; cases q)
  refine ⟨cs', hl, hh, fun o vs hd => ?_⟩
  obtain ⟨l', rp⟩ := hh.repl (At (putL cs' o vs) T)
  have hz0 : ρ.z g = none := hs.sd k g none (by rw [hf]; intro q; cases q) hk
  have live0 : ∀ j, findO j (setO k (.cells ds T) st.H) ≠ .gone → findO j st.H ≠ .gone := fun j h => by
      rw [find_set hlt] at h
      by_cases hj : j = k
      · rw [hj, hf]; intro q; cases q
      · rw [if_neg hj] at h; exact h
  refine ⟨l', hs.kn.setCells o vs rp, fun j => ?_, fun j j' q c c' h h' => ?_, hs.res, hs.rlt, hs.top, hs.base, fun q ob hq => (hs.sn q ob hq).imp id fun hh => rp.keep_ hh (fun e => by rw [e, hz0] at hq; cases hq), fun j q c h => hs.sd j q c (live0 j h)⟩
  · show ORel R ρ l' j (findO j (setO k (.cells ds T) st.H))
    rw [find_set hlt]
    by_cases hj : j = k
    · rw [if_pos hj, hj]
      exact .inr ⟨g, _, hk, hd, rp.new_⟩
    · rw [if_neg hj]
      cases ho : findO j st.H with
      | gone => trivial
      | _ =>
        refine ho ▸ (hs.rel j).imp id (.refl _) fun q c Φ hq hhq => rp.keep_ hhq fun e => hj ?_
        exact hs.inj j k g c none (by rw [ho]; intro q; cases q) (by rw [hf]; intro q; cases q) (e ▸ hq) hk
  · have live : ∀ j, findO j (setO k (.cells ds T) st.H) ≠ .gone → findO j st.H ≠ .gone := fun j h => by
      rw [find_set hlt] at h
      by_cases hj : j = k
      · rw [hj, hf]; intro q; cases q
      · rw [if_neg hj] at h; exact h
    exact hs.inj j j' q c c' (live j h) (live j' h')
/-- A new block. -/
theorem Sim.new1 (hs : Sim W R w ρ st l) (hn : st.n < 32768) {w' : World} {cap : Option Nat} {o : AObj} {Φ : Obj → Prop} (hk : Kn [] W w' ((w.heap.size, Φ) :: l)) (ho : ORel R (ρ.add st.n (w.heap.size, cap)) ((w.heap.size, Φ) :: l) st.n o) :
    Sim W R w' (ρ.add st.n (w.heap.size, cap)) ⟨setO st.n o st.H, st.n + 1⟩ ((w.heap.size, Φ) :: l) := by
  have h0 : ρ st.n = none := hs.top _ (Nat.le_refl _)
  have hle := NLe.add h0 (w.heap.size, cap)
  have old : ∀ j, j ≠ st.n → findO j st.H ≠ .gone → ∀ c, ρ j ≠ some (w.heap.size, c) := fun j _ hl c hj => by
    obtain ⟨Ψ, hh⟩ := (hs.rel j).has hl (hs.nR hj) hj
    exact absurd (hs.kn.lt hh) (Nat.lt_irrefl _)
  have hz0 : ρ.z w.heap.size = none := by
    cases hz : ρ.z w.heap.size with
    | none => rfl
    | some ob =>
      rcases hs.sn _ _ hz with ⟨h1, _⟩ | hh
      · exact absurd (Nat.lt_of_lt_of_le h1 hs.kn.size) (Nat.lt_irrefl _)
      · exact absurd (hs.kn.lt hh) (Nat.lt_irrefl _)
  refine ⟨hk, fun j => ?_, fun j j' q c c' h h' hj hj' => ?_, fun j h => ?_, fun j h => Nat.lt_succ_of_lt (hs.rlt j h), fun j h => ?_, hs.base, fun q ob hq => (hs.sn q ob hq).imp id .there, fun j q c h hj => by
    have h : findO j (setO st.n o st.H) ≠ .gone := h
    rw [find_set hn] at h
    by_cases e : j = st.n
    · rw [e, ρ.add_self] at hj
      cases hj
      exact hz0
    · rw [if_neg e] at h
      rw [ρ.add_ne _ e] at hj
      exact hs.sd j q c h hj⟩
  · show ORel R _ _ j (findO j (setO st.n o st.H))
    rw [find_set hn]
    by_cases hj : j = st.n
    · rw [if_pos hj, hj]; exact ho
    · rw [if_neg hj]
      exact (hs.rel j).imp id hle fun g c Ψ _ hh => .there hh
  · have h : findO j (setO st.n o st.H) ≠ .gone := h
    have h' : findO j' (setO st.n o st.H) ≠ .gone := h'
    rw [find_set hn] at h h'
    by_cases e : j = st.n
    · by_cases e' : j' = st.n
      · rw [e, e']
      · rw [if_neg e'] at h'
        rw [ρ.add_ne _ e'] at hj'
        rw [e, ρ.add_self] at hj
        cases hj
        exact absurd hj' (old j' e' h' _)
    · rw [if_neg e] at h
      rw [ρ.add_ne _ e] at hj
      by_cases e' : j' = st.n
      · rw [e', ρ.add_self] at hj'
        cases hj'
        exact absurd hj (old j e h _)
      · rw [if_neg e'] at h'
        rw [ρ.add_ne _ e'] at hj'
        exact hs.inj j j' q c c' h h' hj hj'
  · rw [ρ.add_ne _ (fun q => absurd (hs.rlt j h) (by omega))]
    exact hs.res j h
  · have h : st.n + 1 ≤ j := h
    rw [ρ.add_ne _ (by omega)]
    exact hs.top j (by omega)
theorem Sim.newCells (hs : Sim W R w ρ st l) (hn : st.n < 32768) {cs : List Value} {cs' : Array Value} {T : TypeId} (hc : LR ρ cs cs'.toList) :
    Sim W R (w.alloc (.cells cs' T)) (ρ.add st.n (w.heap.size, none)) ⟨setO st.n (.cells cs T) st.H, st.n + 1⟩ ((w.heap.size, At cs' T) :: l) :=
  hs.new1 hn (hs.kn.alloc (Φ := At cs' T) (.cells cs' T) rfl) (.inr ⟨_, _, ρ.add_self _ _, hc.mono (NLe.add (hs.top _ (Nat.le_refl _)) _), .here⟩)
/-- A block is taken out. -/
theorem take_block (hs : Sim W R w ρ st l) {k g : Nat} {c : Option Nat} {Φ : Obj → Prop} (hk : ρ k = some (g, c)) (hlive : findO k st.H ≠ .gone) (hh : Has l g Φ) :
    ∃ l', l.Perm ((g, Φ) :: l') ∧ Sim W R w ρ ⟨setO k .gone st.H, st.n⟩ l' ∧ ∀ j q d, findO j (setO k .gone st.H) ≠ .gone → ρ j = some (q, d) → q ≠ g := by
  have hlt := find_ge hlive
  obtain ⟨s, t, rfl⟩ := List.append_of_mem hh.mem
  have hp : (s ++ (g, Φ) :: t).Perm ((g, Φ) :: (s ++ t)) := List.perm_middle
  have hne : ∀ j q d, findO j (setO k .gone st.H) ≠ .gone → ρ j = some (q, d) → q ≠ g := fun j q d h hj e => by
    rw [find_set hlt] at h
    by_cases hjk : j = k
    · rw [if_pos hjk] at h; exact h rfl
    · rw [if_neg hjk] at h
      subst e
      exact hjk (hs.inj j k q d c h hlive hj hk)
  have hz0 : ρ.z g = none := hs.sd k g c hlive hk
  refine ⟨s ++ t, hp, ⟨(hs.kn.perm hp).pick (.cons _ (.refl _)), fun j => ?_, fun j j' q c c' h h' => ?_, hs.res, hs.rlt, hs.top, hs.base, fun q ob hq => (hs.sn q ob hq).imp id fun hh => by
    have hm := hp.mem_iff.1 hh.mem
    rcases List.mem_cons.1 hm with e | hm
    · have e : q = g := congrArg Prod.fst e
      rw [e, hz0] at hq; cases hq
    · exact Has.of_mem hm, fun j q c h hj => by
    rw [find_set hlt] at h
    by_cases e : j = k
    · rw [if_pos e] at h; exact absurd rfl h
    · rw [if_neg e] at h; exact hs.sd j q c h hj⟩, hne⟩
  · show ORel R ρ (s ++ t) j (findO j (setO k .gone st.H))
    by_cases hg : findO j (setO k .gone st.H) = .gone
    · rw [hg]; trivial
    · have h2 : findO j (setO k .gone st.H) = findO j st.H := by
        rw [find_set hlt] at hg ⊢
        by_cases hjk : j = k
        · rw [if_pos hjk] at hg; exact absurd rfl hg
        · rw [if_neg hjk]
      rw [h2]
      refine (hs.rel j).imp id (.refl _) fun q d Ψ hj hhj => ?_
      have hq := hne j q d hg hj
      have hm := hp.mem_iff.1 hhj.mem
      rcases List.mem_cons.1 hm with e | hm
      · exact absurd (congrArg Prod.fst e) hq
      · exact Has.of_mem hm
  · have live : ∀ j, findO j (setO k .gone st.H) ≠ .gone → findO j st.H ≠ .gone := fun j h => by
      rw [find_set hlt] at h
      by_cases hj : j = k
      · rw [if_pos hj] at h; exact absurd rfl h
      · rw [if_neg hj] at h; exact h
    exact hs.inj j j' q c c' (live j h) (live j' h')
theorem take_grown (hs : Sim W R w ρ st l) {k g : Nat} {c : Option Nat} (hk : ρ k = some (g, c)) {cs : List Value} {T : TypeId} {sz n : Nat} (hf : findO k st.H = .grown cs T sz n) :
    ∃ (L : List (List Value)) (cap : Nat) (l' : Ents), LR ρ cs L.flatten ∧ c = some cap ∧ L.length = n ∧ (∀ c ∈ L, c.length = sz) ∧ n ≤ cap ∧ cap ≤ maxLen ∧ l.Perm ((g, CapAt T sz cap L) :: l') ∧ Sim W R w ρ ⟨setO k .gone st.H, st.n⟩ l' ∧ (∀ j q d, findO j (setO k .gone st.H) ≠ .gone → ρ j = some (q, d) → q ≠ g) := by
  obtain ⟨L, cap, a, b, c', d, e, f, hh⟩ := find_grown hs hk hf
  obtain ⟨l', hp, h2, h3⟩ := take_block hs hk (by rw [hf]; intro q; cases q) hh
  exact ⟨L, cap, l', a, b, c', d, e, f, hp, h2, h3⟩
/-- A block comes back under the name k: its own, or the next one. -/
theorem Sim.back (hs : Sim W R w ρ st l) {k g : Nat} {c : Option Nat} (hlt : k < 32768) {w' : World} {ρ' : Names} {Φ : Obj → Prop} {o : AObj} {m : Nat} (hle : NLe ρ ρ') (hk : ρ' k = some (g, c)) (hnew : ∀ j, j ≠ k → ρ' j = ρ j) (hm : st.n ≤ m) (hkm : k < m) (hkR : ¬ R k)
    (hout : ∀ j q d, findO j st.H ≠ .gone → ρ j = some (q, d) → q ≠ g) (hkn : Kn [] W w' ((g, Φ) :: l)) (ho : ORel R ρ' ((g, Φ) :: l) k o) (hgz : ρ.z g = none) (hzz : ρ'.z = ρ.z := by rfl) : Sim W R w' ρ' ⟨setO k o st.H, m⟩ ((g, Φ) :: l) := by
  refine ⟨hkn, fun j => ?_, fun j j' q c c' h h' hj hj' => ?_, fun j h => ?_, fun j h => Nat.lt_of_lt_of_le (hs.rlt j h) hm, fun j h => ?_, by rw [hle.s]; exact hs.base, fun q ob hq => (hs.sn q ob (by rw [← hzz]; exact hq)).imp id .there, fun j q d h hj => by
    have h : findO j (setO k o st.H) ≠ .gone := h
    rw [find_set hlt] at h
    rw [hzz]
    by_cases e : j = k
    · rw [e, hk] at hj
      cases hj
      exact hgz
    · rw [if_neg e] at h
      rw [hnew _ e] at hj
      exact hs.sd j q d h hj⟩
  · show ORel R _ _ j (findO j (setO k o st.H))
    rw [find_set hlt]
    by_cases hj : j = k
    · rw [if_pos hj, hj]; exact ho
    · rw [if_neg hj]
      exact (hs.rel j).imp id hle fun g c Ψ _ hh => .there hh
  · have h : findO j (setO k o st.H) ≠ .gone := h
    have h' : findO j' (setO k o st.H) ≠ .gone := h'
    rw [find_set hlt] at h h'
    by_cases e : j = k
    · by_cases e' : j' = k
      · rw [e, e']
      · rw [if_neg e'] at h'
        rw [hnew _ e'] at hj'
        rw [e, hk] at hj
        cases hj
        exact absurd rfl (hout j' _ _ h' hj')
    · rw [if_neg e] at h
      rw [hnew _ e] at hj
      by_cases e' : j' = k
      · rw [e', hk] at hj'
        cases hj'
        exact absurd rfl (hout j _ _ h hj)
      · rw [if_neg e'] at h'
        rw [hnew _ e'] at hj'
        exact hs.inj j j' q c c' h h' hj hj'
  · rw [hnew _ (fun q => hkR (q ▸ h))]
    exact hs.res j h
  · have h : m ≤ j := h
    rw [hnew _ (by omega)]
    exact hs.top j (by omega)
end
end
section
open Go
def cellO (o : Nat) : AObj → Option Value
  | .cells cs _ => cs[o]?
  | .grown cs _ _ _ => cs[o]?
  | .mp _ _ => none
  | .gone => none
/-- The model's steps over the computed memory. -/
noncomputable def arun {α : Type} (P : Program) (s : Sem α) : St → Option (α × St) :=
  Sem.rec (motive := fun _ => St → Option (α × St))
    (fun a st => some (a, st))
    (fun _ ad _ ih st => match ad.spot with
      | some _ => none
      | none => match cellO ad.off (findO ad.block st.H) with
        | some v => ih v st
        | none => none)
    (fun _ ad v _ ih st => match ad.spot with
      | some _ => none
      | none => match findO ad.block st.H with
        | .cells cs T => if Nat.blt ad.off cs.length && v.oneCell' then ih ⟨setO ad.block (.cells (cs.set ad.off v) T) st.H, st.n⟩ else none
        | _ => none)
    (fun o _ ih st => match o with
      | .cells c e (0, 0) => if Nat.blt st.n 32768 then ih st.n ⟨setO st.n (.cells c.toList e) st.H, st.n + 1⟩ else none
      | _ => none)
    (fun _ _ _ _ => none)
    (fun _ _ _ _ _ => none)
    (fun _ _ _ _ => none)
    (fun _ _ _ _ => none)
    (fun _ _ _ _ _ => none)
    (fun _ _ _ _ => none)
    (fun _ _ _ _ => none)
    (fun _ ih st => ih P st)
    (fun _ _ ih st => ih st)
    (fun _ _ => none)
    s

/-! ### Steps that are alike -/
/-- The computed steps, s, are those of s' but for the blocks' names; what they answer is related by R. -/
inductive SR {α β : Type} (P : Program) (R : Names → α → β → Prop) : Names → Sem α → Sem β → Prop
  | pure {ρ : Names} {a : α} {b : β} (h : R ρ a b) : SR P R ρ (.pure a) (.pure b)
  | load {ρ : Names} {m m' : Mode} {k o g : Nat} {c : Option Nat} {f : Value → Sem α} {f' : Value → Sem β} (hk : ρ k = some (g, c)) (h : ∀ (ρ' : Names) (v v' : Value), NLe ρ ρ' → VR ρ' v v' → SR P R ρ' (f v) (f' v')) : SR P R ρ (.load m ⟨k, o, none⟩ f) (.load m' ⟨g, o, none⟩ f')
  | store {ρ : Names} {m m' : Mode} {k o g : Nat} {c : Option Nat} {v v' : Value} {f : Sem α} {f' : Sem β} (hk : ρ k = some (g, c)) (hv : VR ρ v v') (h : SR P R ρ f f') : SR P R ρ (.store m ⟨k, o, none⟩ v f) (.store m' ⟨g, o, none⟩ v' f')
  | new {ρ : Names} {c c' : Array Value} {e : TypeId} {f : Nat → Sem α} {f' : Nat → Sem β} (hc : AR ρ c c') (h : ∀ (ρ' : Names) (k g : Nat), NLe ρ ρ' → ρ' k = some (g, none) → SR P R ρ' (f k) (f' g)) : SR P R ρ (.new (.cells c e) f) (.new (.cells c' e) f')
  | program {ρ : Names} {f : Program → Sem α} {f' : Program → Sem β} (h : SR P R ρ (f P) (f' P)) : SR P R ρ (.program f) (.program f')
  | mark {ρ : Names} {m m' : Mark} {f : Sem α} {f' : Sem β} (h : SR P R ρ f f') : SR P R ρ (.mark m f) (.mark m' f')
  | dead {ρ : Names} {s : Sem α} {s' : Sem β} (h : ∀ st, arun P s st = none) : SR P R ρ s s'
theorem SR.halt {α β : Type} {P : Program} {R : Names → α → β → Prop} {ρ : Names} {h : Halt} {s' : Sem β} : SR P R ρ (.halt h) s' := .dead fun _ => rfl
theorem arun_bind {α β : Type} (P : Program) (s : Sem α) (f : α → Sem β) : ∀ st, arun P (s.bind f) st = (arun P s st).bind fun x => arun P (f x.1) x.2 := by
  induction s with
  | pure a => intro st; rfl
  | load m a k ih =>
    intro st
    show (match a.spot with | some _ => none | none => match cellO a.off (findO a.block st.H) with | some v => arun P ((k v).bind f) st | none => none) = Option.bind (match a.spot with | some _ => none | none => match cellO a.off (findO a.block st.H) with | some v => arun P (k v) st | none => none) _
    cases a.spot with
    | some x => rfl
    | none =>
      cases cellO a.off (findO a.block st.H) with
      | none => rfl
      | some v => exact ih v st
  | store m a v k ih =>
    intro st
    show (match a.spot with | some _ => none | none => match findO a.block st.H with | .cells cs T => if Nat.blt a.off cs.length && v.oneCell' then arun P (k.bind f) ⟨setO a.block (.cells (cs.set a.off v) T) st.H, st.n⟩ else none | _ => none) = Option.bind (match a.spot with | some _ => none | none => match findO a.block st.H with | .cells cs T => if Nat.blt a.off cs.length && v.oneCell' then arun P k ⟨setO a.block (.cells (cs.set a.off v) T) st.H, st.n⟩ else none | _ => none) _
    cases a.spot with
    | some x => rfl
    | none =>
      cases findO a.block st.H with
      | gone => rfl
      | mp es c => rfl
      | grown cs T sz n => rfl
      | cells cs T =>
        dsimp only
        split
        · exact ih _
        · rfl
  | new o k ih =>
    intro st
    show (match o with | .cells c e (0, 0) => if Nat.blt st.n 32768 then arun P ((k st.n).bind f) ⟨setO st.n (.cells c.toList e) st.H, st.n + 1⟩ else none | _ => none) = Option.bind (match o with | .cells c e (0, 0) => if Nat.blt st.n 32768 then arun P (k st.n) ⟨setO st.n (.cells c.toList e) st.H, st.n + 1⟩ else none | _ => none) _
    split
    · split
      · exact ih _ _
      · rfl
    · rfl
  | shape r k ih => intro st; rfl
  | freeze a n k ih => intro st; rfl
  | frozen a k ih => intro st; rfl
  | getObj r k ih => intro st; rfl
  | setObj r o k ih => intro st; rfl
  | choose q k ih => intro st; rfl
  | sys c k ih => intro st; rfl
  | program k ih => intro st; exact ih P st
  | mark m k ih => intro st; exact ih st
  | halt h => intro st; rfl
theorem SR.bind {α β α' β' : Type} {P : Program} {R : Names → α → β → Prop} {R' : Names → α' → β' → Prop} {ρ : Names} {s : Sem α} {s' : Sem β} {f : α → Sem α'} {f' : β → Sem β'} (h : SR P R ρ s s') (hf : ∀ (ρ' : Names) (a : α) (b : β), NLe ρ ρ' → R ρ' a b → SR P R' ρ' (f a) (f' b)) :
    SR P R' ρ (s.bind f) (s'.bind f') := by
  induction h with
  | pure h => exact hf _ _ _ (NLe.refl _) h
  | load hk h ih => exact .load hk fun ρ' v v' hle hv => ih ρ' v v' hle hv fun ρ2 a b h2 => hf ρ2 a b (hle.trans h2)
  | store hk hv h ih => exact .store hk hv (ih hf)
  | new hc h ih => exact .new hc fun ρ' k g hle hk => ih ρ' k g hle hk fun ρ2 a b h2 => hf ρ2 a b (hle.trans h2)
  | program h ih => exact .program (ih hf)
  | mark h ih => exact .mark (ih hf)
  | dead h => exact .dead fun st => by rw [arun_bind, h]; rfl
theorem VR.one {ρ : Names} {v v' : Value} (h : VR ρ v v') (h1 : v.oneCell' = true) : v'.oneCell' = true := by
  cases h with
  | sym hh hs => cases v' <;> first | rfl | cases hs
  | any hs => exact hs
  | bsl hh => obtain ⟨a, c, e, _⟩ := hh.row; rw [e]; rfl
  | bslU hh hn => obtain ⟨a, c, e, _⟩ := hh.row; rw [e]; rfl
  | _ => first | rfl | cases h1
theorem Sim.cell {W w : World} {R : Nat → Prop} {ρ : Names} {st : St} {l : Ents} (hs : Sim W R w ρ st l) {k g o : Nat} {c : Option Nat} (hk : ρ k = some (g, c)) {v : Value} (hc : cellO o (findO k st.H) = some v) : ∃ v', w.cell? ⟨g, o, none⟩ = some v' ∧ VR ρ v v' := by
  cases ho : findO k st.H with
  | gone => rw [ho] at hc; cases hc
  | mp es c => rw [ho] at hc; cases hc
  | cells cs T =>
    rw [ho] at hc
    obtain ⟨cs', hl, _, m⟩ := find_cells hs hk ho
    obtain ⟨v', hv', hr⟩ := hl.get hc
    exact ⟨v', hs.kn.cell m (by simpa using hv'), hr⟩
  | grown cs T sz n =>
    rw [ho] at hc
    obtain ⟨L, cap, hl, _, hn, hsz, _, _, m⟩ := find_grown hs hk ho
    obtain ⟨v', hv', hr⟩ := hl.get hc
    obtain ⟨ob, hob, cur, rfl, _, ht⟩ := hs.kn.own _ _ m
    refine ⟨v', ?_, hr⟩
    rw [← ht] at hv'
    have hlt := (List.getElem?_eq_some_iff.1 hv').1
    rw [List.length_take] at hlt
    rw [List.getElem?_take, if_pos (by omega)] at hv'
    unfold World.cell?
    rw [hob]
    simpa using hv'
end
section
open Go

abbrev EqR {α : Type} : Names → α → α → Prop := fun _ a b => a = b
abbrev VRr : Names → Value → Value → Prop := fun ρ => VR ρ
abbrev ARr : Names → Array Value → Array Value → Prop := fun ρ => AR ρ
section
variable {α β : Type} {P : Program} {ρ : Names}
theorem sr_eq {R' : Names → α → β → Prop} {γ : Type} {s s' : Sem γ} {f : γ → Sem α} {f' : γ → Sem β} (h : SR P EqR ρ s s') (hf : ∀ ρ', NLe ρ ρ' → ∀ a, SR P R' ρ' (f a) (f' a)) : SR P R' ρ (s.bind f) (s'.bind f') :=
  h.bind fun ρ' a b hle he => by have he : a = b := he; subst he; exact hf ρ' hle a
theorem sr_und (t : TypeId) : SR P EqR ρ (underlying t) (underlying t) := by
  refine .program ?_
  show SR P EqR ρ (match P.underlying t with | some d => pure d | none => stuck "no such type") (match P.underlying t with | some d => pure d | none => stuck "no such type")
  cases P.underlying t with
  | none => exact .halt
  | some d => exact .pure rfl
theorem sr_info (t : TypeId) : SR P EqR ρ (typeInfo t) (typeInfo t) := by
  refine .program ?_
  show SR P EqR ρ (match P.info? t with | some d => pure d | none => stuck "no such type") (match P.info? t with | some d => pure d | none => stuck "no such type")
  cases P.info? t with
  | none => exact .halt
  | some d => exact .pure rfl
theorem sr_size (t : TypeId) : SR P EqR ρ (sizeOf t) (sizeOf t) := sr_eq (sr_info t) fun _ _ _ => .pure rfl
theorem sr_isAgg (t : TypeId) : SR P EqR ρ (isAgg t) (isAgg t) := by
  refine sr_eq (sr_und t) fun ρ' _ d => ?_
  cases d <;> exact .pure rfl
theorem add_plain (k o n : Nat) : (⟨k, o, none⟩ : Addr).add n = ⟨k, o + n, none⟩ := by
  unfold Addr.add; split
  · rename_i h; subst h; rfl
  · rfl
theorem sr_load {k g o : Nat} {c : Option Nat} (hk : ρ k = some (g, c)) : SR P VRr ρ (load ⟨k, o, none⟩) (load ⟨g, o, none⟩) := .load hk fun _ _ _ _ hv => .pure hv
theorem sr_loadCells {k g o : Nat} {c : Option Nat} : ∀ (n i : Nat) {ρ : Names} {acc acc' : Array Value}, ρ k = some (g, c) → AR ρ acc acc' → SR P ARr ρ (loadCellsFrom ⟨k, o, none⟩ i n acc) (loadCellsFrom ⟨g, o, none⟩ i n acc')
  | 0, _, _, _, _, _, ha => .pure ha
  | n + 1, i, ρ, acc, acc', hk, ha => by
    unfold loadCellsFrom
    refine SR.bind (R := VRr) (by rw [add_plain, add_plain]; exact sr_load hk) fun ρ' v v' hle hv => ?_
    exact sr_loadCells n (i + 1) (hle.b _ _ hk) ((ha.mono hle).push hv)
theorem sr_loadVar (t : TypeId) {k g o : Nat} {c : Option Nat} (hk : ρ k = some (g, c)) : SR P VRr ρ (loadVar t ⟨k, o, none⟩) (loadVar t ⟨g, o, none⟩) := by
  refine sr_eq (sr_isAgg t) fun ρ' hle b => ?_
  cases b with
  | false => exact sr_load (hle.b _ _ hk)
  | true =>
    refine sr_eq (sr_size t) fun ρ2 hle2 n => ?_
    refine SR.bind (R := ARr) (sr_loadCells n 0 (hle2.b _ _ (hle.b _ _ hk)) (AR.nil _)) fun ρ3 a a' _ ha => ?_
    exact .pure (.agg ha.1 ha.2)
theorem sr_storeCells {k g o : Nat} {c : Option Nat} : ∀ (vs vs' : List Value) (i : Nat) {ρ : Names}, ρ k = some (g, c) → LR ρ vs vs' → SR P EqR ρ (storeCells ⟨k, o, none⟩ vs i) (storeCells ⟨g, o, none⟩ vs' i)
  | [], [], _, _, _, _ => .pure rfl
  | [], _ :: _, _, _, _, h => by have := h.1; simp at this
  | _ :: _, [], _, _, _, h => by have := h.1; simp at this
  | v :: vs, v' :: vs', i, ρ, hk, h => by
    unfold storeCells
    refine SR.bind (R := EqR) (s := store _ v) (s' := store _ v') (by rw [add_plain, add_plain]; exact .store hk (h.2 0 v v' rfl rfl) (.pure rfl)) fun ρ' _ _ hle _ => ?_
    exact sr_storeCells vs vs' (i + 1) (hle.b _ _ hk) ⟨by have := h.1; simpa using this, fun j x y hx hy => (h.2 (j + 1) x y hx hy).mono hle⟩
theorem sr_storeVar (t : TypeId) {k g o : Nat} {c : Option Nat} {v v' : Value} (hk : ρ k = some (g, c)) (hv : VR ρ v v') : SR P EqR ρ (storeVar t ⟨k, o, none⟩ v) (storeVar t ⟨g, o, none⟩ v') := by
  refine sr_eq (sr_size t) fun ρ' hle n => ?_
  have hc := (hv.mono hle).cells
  by_cases hn : v.cells.size ≠ n
  · rw [if_pos hn]; exact .halt
  · rw [if_neg hn, if_neg (by rw [← hc.1]; exact hn)]
    exact sr_storeCells _ _ 0 (hle.b _ _ hk) hc.list
theorem sr_newRow (T : TypeId) {c c' : Array Value} (hc : AR ρ c c') : SR P (fun ρ a b => ∃ k g, a = (⟨k, 0, none⟩ : Addr) ∧ b = (⟨g, 0, none⟩ : Addr) ∧ ρ k = some (g, none)) ρ (newRow T c) (newRow T c') :=
  .new hc fun ρ' k g _ hk => .pure ⟨k, g, rfl, rfl, hk⟩

/-! ### Zero values -/
def selfOk : Value → Bool
  | .agg cs => cs.all adrFree
  | v => adrFree v
theorem VR.of_self (ρ : Names) {v : Value} (h : selfOk v = true) : VR ρ v v := by
  cases v with
  | agg cs =>
    refine .agg rfl fun i x x' hx hx' => ?_
    rw [hx] at hx'
    cases hx'
    exact VR.of_plain ρ (Array.all_eq_true_iff_forall_mem.1 h x (Array.mem_of_getElem? hx))
  | _ => exact VR.of_plain ρ h
theorem AR.same {ρ : Names} {a a' : Array Value} (r : AR ρ a a') (h : a.all adrFree = true) : a' = a := by
  refine (Array.ext r.1 fun i h1 h2 => ?_).symm
  have hx : a[i]? = some a[i] := Array.getElem?_eq_getElem h1
  have := r.2 i _ _ hx (Array.getElem?_eq_getElem h2)
  exact (this.plain_eq (Array.all_eq_true_iff_forall_mem.1 h _ (Array.mem_of_getElem? hx))).symm
theorem VR.self_eq {ρ : Names} {v v' : Value} (r : VR ρ v v') (h : selfOk v = true) : v' = v := by
  cases r with
  | agg ha hav => rw [(AR.same ⟨ha, hav⟩ h : _ = _)]
  | bool b => rfl
  | int k n => rfl
  | string s => rfl
  | ptr0 => rfl
  | slice0 n c => rfl
  | map0 => rfl
  | nilFunc => rfl
  | nilIface => rfl
  | func fn ha hav hb hbv => exact (VR.func fn ha hav hb hbv).plain_eq h
  | ptr hk => cases h
  | slice hk hc hm hq hz => cases h
  | map hk => cases h
  | iface t h' => cases h
  | tuple ha hav => cases h
  | sym hh hs => cases h
  | any hs => cases h
  | anyI hw => cases h
  | rng h1 h2 hw => cases h
  | symS hh hlo hn hz ha => cases h
  | symLen hh hlo hn => cases h
  | ptrI hh => cases h
  | modI hh hw => cases h
  | anyB b => cases h
  | bsl hh => cases h
  | bslU hh hn => cases h
  | bptr hh => cases h
  | ptrU hk h1 h2 hl hh => cases h
  | symN hk hw => cases h
/-- The type's zero holds no address. -/
def zeroAt (P : Program) (t : TypeId) : Bool := match P.info? t with
  | some i => match i.zero with
    | some z => selfOk z
    | none => true
  | none => true
theorem zeroAt_spec {P : Program} {t : TypeId} (h : zeroAt P t = true) {i : TypeInfo} {z : Value} (hi : P.info? t = some i) (hz : i.zero = some z) : selfOk z = true := by
  unfold zeroAt at h
  rw [hi] at h
  dsimp only at h
  rw [hz] at h
  exact h
def NxR (ρ : Names) : Next → Next → Prop
  | .value v, .value v' => VR ρ v v'
  | .skip, .skip => True
  | .enter f args, .enter f' args' => f = f' ∧ AR ρ args args'
  | _, _ => False
theorem sr_v {s s' : Sem Value} (h : SR P VRr ρ s s') : SR P NxR ρ (s.bind fun x => .pure (.value x)) (s'.bind fun x => .pure (.value x)) := h.bind fun _ _ _ _ hv => .pure hv
theorem sr_u {s s' : Sem Unit} (h : SR P EqR ρ s s') : SR P NxR ρ (s.bind fun _ => .pure .skip) (s'.bind fun _ => .pure .skip) := h.bind fun _ _ _ _ _ => .pure trivial
theorem sr_zero (t : TypeId) (hZ : zeroAt P t = true) : SR P VRr ρ (zeroValue t) (zeroValue t) := by
  refine .program ?_
  show SR P VRr ρ (Sem.bind (match P.info? t with | some d => pure d | none => stuck "no such type") _) (Sem.bind (match P.info? t with | some d => pure d | none => stuck "no such type") _)
  cases hi : P.info? t with
  | none => exact .halt
  | some i =>
    show SR P VRr ρ (match i.zero with | some v => pure v | none => _) (match i.zero with | some v => pure v | none => _)
    cases hz : i.zero with
    | none => exact .halt
    | some z => exact .pure (VR.of_self ρ (zeroAt_spec hZ hi hz))
theorem sr_newVar (t : TypeId) {v v' : Value} (h : VR ρ v v') : SR P VRr ρ ((newVar t v).bind fun a => .pure (.pointer (some a))) ((newVar t v').bind fun a => .pure (.pointer (some a))) :=
  (sr_newRow t h.cells).bind fun ρ' a b _ ⟨k, g, ha, hb, hk⟩ => by subst ha; subst hb; exact .pure (.ptr hk)
theorem sr_alloc (t : TypeId) (hZ : zeroAt P t = true) : SR P VRr ρ (Instr.alloc t true (.tuple #[])) (Instr.alloc t true (.tuple #[])) :=
  (sr_zero t hZ).bind fun _ _ _ _ hv => sr_newVar t hv
theorem sr_box (t : TypeId) {v v' : Value} (h : VR ρ v v') : SR P VRr ρ (Instr.box t v) (Instr.box t v') := sr_newVar t h
theorem sr_loadAt (t : TypeId) {v v' : Value} (h : VR ρ v v') : SR P VRr ρ (Instr.loadAt t v) (Instr.loadAt t v') := by
  cases h with
  | ptr hk => exact sr_loadVar t hk
  | _ => exact .halt
theorem sr_storeAt (t : TypeId) {v v' x x' : Value} (h : VR ρ v v') (hx : VR ρ x x') : SR P EqR ρ (Instr.storeAt t v x) (Instr.storeAt t v' x') := by
  cases h with
  | ptr hk => exact sr_storeVar t hk hx
  | _ => exact .halt
theorem sr_part (t : TypeId) {cs cs' : Array Value} (h : AR ρ cs cs') (off : Nat) : SR P VRr ρ (part t cs off) (part t cs' off) := by
  refine sr_eq (sr_isAgg t) fun ρ' hle b => ?_
  cases b with
  | true =>
    refine sr_eq (sr_size t) fun ρ2 hle2 n => ?_
    have := (h.mono (hle.trans hle2)).extract off (off + n)
    exact .pure (.agg this.1 this.2)
  | false =>
    show SR P VRr ρ' (match cs[off]? with | some v => pure v | none => _) (match cs'[off]? with | some v => pure v | none => _)
    cases hc : cs[off]? with
    | none => exact .halt
    | some v =>
      obtain ⟨v', hv', hr⟩ := (h.mono hle).get hc
      rw [hv']
      exact .pure hr
theorem sr_field (t : TypeId) {v v' : Value} (h : VR ρ v v') (i : Nat) : SR P VRr ρ (Instr.field t v i) (Instr.field t v' i) := by
  refine sr_eq (sr_und t) fun ρ' hle d => ?_
  cases d with
  | struct fields =>
    show SR P VRr ρ' (match fields[i]? with | some f => Sem.bind (asAgg v) fun cs => part f.type cs f.offset | none => _) (match fields[i]? with | some f => Sem.bind (asAgg v') fun cs => part f.type cs f.offset | none => _)
    cases fields[i]? with
    | none => exact .halt
    | some f =>
      cases h with
      | agg ha hav => exact sr_part f.type (AR.mono hle ⟨ha, hav⟩) f.offset
      | _ => exact .halt
  | _ => exact .halt
theorem sr_extract {v v' : Value} (h : VR ρ v v') (i : Nat) : SR P VRr ρ (Instr.extract v i) (Instr.extract v' i) := by
  cases h with
  | @tuple a a' ha hav =>
    show SR P VRr ρ (match a[i]? with | some v => pure v | none => _) (match a'[i]? with | some v => pure v | none => _)
    cases hc : a[i]? with
    | none => exact .halt
    | some x =>
      obtain ⟨x', hx', hr⟩ := (show AR ρ a a' from ⟨ha, hav⟩).get hc
      rw [hx']
      exact .pure hr
  | _ => exact .halt

/-! ### Addresses -/
theorem sr_place {k o g : Nat} {c : Option Nat} (f : Field) (hk : ρ k = some (g, c)) : SR P VRr ρ ((fieldPlace ⟨k, o, none⟩ f).bind fun p => .pure (.pointer (some p))) ((fieldPlace ⟨g, o, none⟩ f).bind fun p => .pure (.pointer (some p))) := by
  refine SR.bind (R := fun ρ a b => ∃ o2, a = (⟨k, o2, none⟩ : Addr) ∧ b = (⟨g, o2, none⟩ : Addr) ∧ ρ k = some (g, c)) (sr_eq (sr_size f.type) fun ρ2 hle2 n => ?_) fun ρ2 a b _ ⟨o2, ha, hb, hk2⟩ => by subst ha; subst hb; exact .pure (.ptr hk2)
  by_cases hn : n = 0
  · rw [if_pos hn]
    exact .dead fun st => rfl
  · rw [if_neg hn, if_neg hn, add_plain, add_plain]
    exact .pure ⟨_, rfl, rfl, hle2.b _ _ hk⟩
theorem sr_fieldAt (t : TypeId) {v v' : Value} (h : VR ρ v v') (i : Nat) : SR P VRr ρ (Instr.fieldAt t v i) (Instr.fieldAt t v' i) := by
  refine sr_eq (sr_und t) fun ρ' hle d => ?_
  cases d with
  | struct fields =>
    dsimp only
    cases hf : fields[i]? with
    | none => exact .halt
    | some f =>
      cases h with
      | ptr hk => exact sr_place f (hle.b _ _ hk)
      | _ => exact .halt
  | _ => exact .halt
end
end
section
open Go
section
variable {P : Program} {ρ : Names}
theorem sr_mapL {α γ : Type} {f : α → Sem γ} (h : ∀ x {ρ : Names}, SR P EqR ρ (f x) (f x)) : ∀ (l : List α) {ρ : Names}, SR P EqR ρ (l.mapM f) (l.mapM f)
  | [], _ => by rw [List.mapM_nil]; exact .pure rfl
  | x :: l, ρ => by
    rw [List.mapM_cons]
    refine sr_eq (h x) fun ρ' _ y => ?_
    refine sr_eq (sr_mapL h l) fun ρ2 _ ys => .pure rfl
theorem sr_mapA {α γ : Type} {f : α → Sem γ} (h : ∀ x {ρ : Names}, SR P EqR ρ (f x) (f x)) (a : Array α) : SR P EqR ρ (a.mapM f) (a.mapM f) := by
  rw [Array.mapM_eq_mapM_toList]
  show SR P EqR ρ (_ <$> _) (_ <$> _)
  rw [map_eq_pure_bind]
  exact sr_eq (sr_mapL h a.toList) fun ρ' _ y => .pure rfl
/-- Cells laid into others. -/
theorem lay_rel (off : Nat) : ∀ (vs vs' : List Value) (k : Nat) {cs cs' : Array Value}, LR ρ vs vs' → AR ρ cs cs' → AR ρ ((vs.zipIdx k).foldl (fun cs x => cs.setIfInBounds (off + x.2) x.1) cs) ((vs'.zipIdx k).foldl (fun cs x => cs.setIfInBounds (off + x.2) x.1) cs')
  | [], [], _, _, _, _, hc => hc
  | [], _ :: _, _, _, _, h, _ => by have := h.1; simp at this
  | _ :: _, [], _, _, _, h, _ => by have := h.1; simp at this
  | v :: vs, v' :: vs', k, cs, cs', h, hc => by
    rw [List.zipIdx_cons, List.zipIdx_cons, List.foldl_cons, List.foldl_cons]
    exact lay_rel off vs vs' (k + 1) ⟨by have := h.1; simpa using this, fun j x y hx hy => h.2 (j + 1) x y hx hy⟩ (hc.set _ (h.2 0 v v' rfl rfl))
/-- The parts of what is built, alike. -/
inductive PR (ρ : Names) : List (Nat × Value) → List (Nat × Value) → Prop
  | nil : PR ρ [] []
  | cons {i : Nat} {v v' : Value} {l l' : List (Nat × Value)} (h : VR ρ v v') (t : PR ρ l l') : PR ρ ((i, v) :: l) ((i, v') :: l')
theorem PR.mono {ρ ρ' : Names} (hle : NLe ρ ρ') {l l' : List (Nat × Value)} (h : PR ρ l l') : PR ρ' l l' := by
  induction h with
  | nil => exact .nil
  | cons h _ ih => exact .cons (h.mono hle) ih
theorem fill_rel {place : Nat → Option (Nat × Nat)} {l l' : List (Nat × Value)} (h : PR ρ l l') : ∀ {cs cs' a : Array Value}, AR ρ cs cs' → Instr.fill place cs l = some a → ∃ a', Instr.fill place cs' l' = some a' ∧ AR ρ a a' := by
  induction h with
  | nil =>
    intro cs cs' a hc he
    have : cs = a := Option.some.inj he
    subst this
    exact ⟨cs', rfl, hc⟩
  | @cons i v v' l l' hv _ ih =>
    intro cs cs' a hc he
    have hcv := hv.cells
    unfold Instr.fill at he ⊢
    cases hp : place i with
    | none => rw [hp] at he; cases he
    | some x =>
      obtain ⟨off, size⟩ := x
      rw [hp] at he
      dsimp only at he ⊢
      rw [← hcv.1, ← hc.1]
      split at he
      · cases he
      · rename_i hn
        rw [if_neg hn]
        refine ih ?_ he
        rw [← Array.foldl_toList, ← Array.foldl_toList, Array.toList_zipIdx, Array.toList_zipIdx]
        exact lay_rel off _ _ 0 hcv.list hc
theorem sr_build (t : TypeId) (hZ : zeroAt P t = true) {ps ps' : Array (Nat × Value)} (h : PR ρ ps.toList ps'.toList) : SR P VRr ρ (Instr.build t ps) (Instr.build t ps') := by
  refine (sr_zero t hZ).bind fun ρ' z z' hle hz => ?_
  refine sr_eq (sr_und t) fun ρ2 hle2 d => ?_
  have hzc := (hz.mono hle2).cells
  have h2 := h.mono (hle.trans hle2)
  cases d with
  | struct fields =>
    refine sr_eq (sr_mapA (fun f => sr_eq (sr_size f.type) fun _ _ _ => .pure rfl) fields) fun ρ3 hle3 places => ?_
    cases hf : Instr.fill (places[·]?) z.cells ps.toList with
    | none => exact .halt
    | some a =>
      obtain ⟨a', ha', hr⟩ := fill_rel (h2.mono hle3) (hzc.mono hle3) hf
      rw [ha']
      exact .pure (.agg hr.1 hr.2)
  | array n e =>
    refine sr_eq (sr_size e) fun ρ3 hle3 size => ?_
    cases hf : Instr.fill (fun i => some (i * size, size)) z.cells ps.toList with
    | none => exact .halt
    | some a =>
      obtain ⟨a', ha', hr⟩ := fill_rel (h2.mono hle3) (hzc.mono hle3) hf
      rw [ha']
      exact .pure (.agg hr.1 hr.2)
  | _ => exact .halt
end
end
section
open Go
section
variable {P : Program} {ρ : Names}
theorem zero_rel {z z' : Array Value} (h : AR ρ z z') (n : Nat) : AR ρ ((Array.range n).map (z[· % z.size]!)) ((Array.range n).map (z'[· % z'.size]!)) := by
  refine AR.map (fun i => ?_) _
  rw [← h.1]
  by_cases hi : i % z.size < z.size
  · rw [getElem!_pos z _ hi, getElem!_pos z' _ (by rw [← h.1]; exact hi)]
    exact h.2 _ _ _ (Array.getElem?_eq_getElem hi) (Array.getElem?_eq_getElem (by rw [← h.1]; exact hi))
  · rw [getElem!_neg z _ hi, getElem!_neg z' _ (by rw [← h.1]; exact hi)]
    exact VR.of_self ρ (v := default) rfl
/-- The elements' zero holds no address. -/
def elemAt (P : Program) (t : TypeId) : Bool := match P.underlying t with
  | some (.slice e) => zeroAt P e
  | _ => true
theorem sr_buildSlice (t : TypeId) (hZ : elemAt P t = true) (len : Nat) (hl : len ≤ maxLen ∧ len < openCap) {ps ps' : Array (Nat × Value)} (h : PR ρ ps.toList ps'.toList) : SR P VRr ρ (Instr.buildSlice t len ps) (Instr.buildSlice t len ps') := by
  have h0 : SR P (fun _ a b => a = b ∧ P.underlying t = some a) ρ (underlying t) (underlying t) := by
    refine .program ?_
    show SR P _ ρ (match P.underlying t with | some d => pure d | none => stuck "no such type") (match P.underlying t with | some d => pure d | none => stuck "no such type")
    cases hu : P.underlying t with
    | none => exact .halt
    | some d => exact .pure ⟨rfl, rfl⟩
  refine h0.bind fun ρ1 d d' hle1 ⟨he, hu⟩ => ?_
  subst he
  cases d with
  | slice e =>
    refine sr_eq (sr_size e) fun ρ2 hle2 size => ?_
    dsimp only
    by_cases hbig : len * size > 2 ^ 24
    · rw [if_pos hbig]; exact .halt
    · rw [if_neg hbig, if_neg hbig]
      by_cases h0 : len * size = 0
      · rw [if_pos h0, if_pos h0]
        refine SR.bind (R := ARr) (.pure (AR.nil _)) fun ρ3 z z' hle3 hz => ?_
        cases hf : Instr.fill (fun i => some (i * size, size)) ((Array.range (len * size)).map (z[· % z.size]!)) ps.toList with
        | none => exact .halt
        | some a =>
          obtain ⟨a', ha', hr⟩ := fill_rel (h.mono ((hle1.trans hle2).trans hle3)) (zero_rel hz (len * size)) hf
          rw [ha']
          refine (sr_newRow e hr).bind fun ρ4 x y _ ⟨k, g, hx, hy, hk⟩ => ?_
          subst hx; subst hy
          exact .pure (.slice hk (fun _ => rfl) (Nat.le_refl _) hl.1 (fun _ => rfl) (fun q => by omega))
      · rw [if_neg h0, if_neg h0]
        refine (sr_zero e (by unfold elemAt at hZ; rw [hu] at hZ; exact hZ)).bind fun ρ5 zv zv' hle5 hzv => ?_
        refine SR.bind (R := ARr) (.pure hzv.cells) fun ρ3 z z' hle3 hz => ?_
        cases hf : Instr.fill (fun i => some (i * size, size)) ((Array.range (len * size)).map (z[· % z.size]!)) ps.toList with
        | none => exact .halt
        | some a =>
          obtain ⟨a', ha', hr⟩ := fill_rel (h.mono (((hle1.trans hle2).trans hle5).trans hle3)) (zero_rel hz (len * size)) hf
          rw [ha']
          refine (sr_newRow e hr).bind fun ρ4 x y _ ⟨k, g, hx, hy, hk⟩ => ?_
          subst hx; subst hy
          exact .pure (.slice hk (fun _ => rfl) (Nat.le_refl _) hl.1 (fun _ => rfl) (fun q => by omega))
  | _ => exact .halt
theorem dead_bounds {α : Type} (k : IntKind) (x y : Int) (code : BoundsCode) (st : St) : arun P (boundsPanic (α := α) k x y code) st = none := by
  unfold boundsPanic
  split
  · rfl
  · rfl
theorem sr_elem {k o g len : Nat} {c : Option Nat} (i : Int) (kk : IntKind) (e : TypeId) (tiny : Bool) (u : Unsupported) (hk : ρ k = some (g, c)) :
    SR P VRr ρ (if 0 ≤ i ∧ i < (len : Int) then (do let n ← sizeOf e; pure (.pointer (some ((⟨k, o, none⟩ : Addr).add (i.toNat * n))))) else if tiny = true then unsupported u else boundsPanic kk i len .index)
      (if 0 ≤ i ∧ i < (len : Int) then (do let n ← sizeOf e; pure (.pointer (some ((⟨g, o, none⟩ : Addr).add (i.toNat * n))))) else if tiny = true then unsupported u else boundsPanic kk i len .index) := by
  by_cases hb : 0 ≤ i ∧ i < (len : Int)
  · rw [if_pos hb, if_pos hb]
    refine sr_eq (sr_size e) fun ρ2 hle n => ?_
    rw [add_plain, add_plain]
    exact .pure (.ptr (hle.b _ _ hk))
  · rw [if_neg hb]
    cases tiny with
    | true => exact .halt
    | false => exact .dead fun st => dead_bounds _ _ _ _ st
theorem sr_indexAt (t : TypeId) {v v' ix ix' : Value} (h : VR ρ v v') (hi : VR ρ ix ix') : SR P VRr ρ (Instr.indexAt t v ix) (Instr.indexAt t v' ix') := by
  cases hi with
  | int kk i =>
    unfold Instr.indexAt
    refine SR.bind (R := EqR) (.pure rfl) fun ρ1 a b hle0 he => ?_
    have he : a = b := he
    subst he
    obtain ⟨kk, i⟩ := a
    dsimp only
    refine sr_eq (sr_und t) fun ρ2 hle1 d => ?_
    cases d with
    | array len e =>
      cases h with
      | @ptr k o g c hk =>
        refine SR.bind (R := fun _ a b => a = (⟨k, o, none⟩ : Addr) ∧ b = (⟨g, o, none⟩ : Addr)) (.pure ⟨rfl, rfl⟩) fun ρ3 a b hle2 hab => ?_
        obtain ⟨rfl, rfl⟩ := hab
        refine SR.bind (R := fun _ a b => a = (some (⟨k, o, none⟩ : Addr), len, e) ∧ b = (some (⟨g, o, none⟩ : Addr), len, e)) (.pure ⟨rfl, rfl⟩) fun ρ4 a b hle3 hab => ?_
        obtain ⟨rfl, rfl⟩ := hab
        refine sr_eq (sr_und t) fun ρ5 hle4 d2 => ?_
        exact sr_elem i kk e _ _ (hle4.b _ _ (hle3.b _ _ (hle2.b _ _ (hle1.b _ _ (hle0.b _ _ hk)))))
      | _ => exact .halt
    | slice e =>
      cases h with
      | @slice k o o' g n c c' q hk hf hn hm he ho =>
        refine SR.bind (R := fun _ a b => a = (some (⟨k, o, none⟩ : Addr), n, e) ∧ b = (some (⟨g, o', none⟩ : Addr), n, e)) (.pure ⟨rfl, rfl⟩) fun ρ4 a b hle3 hab => ?_
        obtain ⟨rfl, rfl⟩ := hab
        refine sr_eq (sr_und t) fun ρ5 hle4 d2 => ?_
        by_cases hn0 : n = 0
        · subst hn0
          refine .dead fun st => ?_
          dsimp only
          rw [if_neg (by omega)]
          split
          · rfl
          · exact dead_bounds _ _ _ _ st
        have e1 := hf (.inl (by omega))
        subst e1
        exact sr_elem i kk e _ _ (hle4.b _ _ (hle3.b _ _ (hle1.b _ _ (hle0.b _ _ hk))))
      | slice0 n c =>
        refine SR.bind (R := fun _ a b => a = (none, n, e) ∧ b = (none, n, e)) (.pure ⟨rfl, rfl⟩) fun ρ4 a b hle3 hab => ?_
        obtain ⟨rfl, rfl⟩ := hab
        refine sr_eq (sr_und t) fun ρ5 hle4 d2 => ?_
        exact .dead fun st => dead_bounds _ _ _ _ st
      | _ => exact .halt
    | _ => exact .halt
  | _ => exact .halt
end
end
section
open Go
section
variable {P : Program} {ρ : Names}
/-- Steps that touch no memory. -/
noncomputable def prun {α : Type} (P : Program) (s : Sem α) : Option α :=
  Sem.rec (motive := fun _ => Option α) (fun a => some a) (fun _ _ _ _ => none) (fun _ _ _ _ _ => none) (fun _ _ _ => none) (fun _ _ _ => none) (fun _ _ _ _ => none) (fun _ _ _ => none) (fun _ _ _ => none) (fun _ _ _ _ => none) (fun _ _ _ => none) (fun _ _ _ => none) (fun _ ih => ih P) (fun _ _ ih => ih) (fun _ => none) s
theorem prun_run {α : Type} {s : Sem α} : ∀ {a : α}, prun P s = some a → ∀ w, s.run P w = .ok a w := by
  induction s with
  | pure b => intro a h w; have : b = a := Option.some.inj h; subst this; rfl
  | program k ih => intro a h w; exact ih P h w
  | mark m k ih => intro a h w; exact ih h w
  | _ => intro a h; cases h
/-- The operations that answer by their operands alone, and these. -/
def pureOps : Op → Option (List Operand)
  | .binOp _ _ x y _ => some [x, y]
  | .unOp _ _ x => some [x]
  | .convert _ _ x => some [x]
  | .index _ x y => some [x, y]
  | .typeAssert x _ _ _ => some [x]
  | .call ⟨.builtin b, args, _⟩ => match b with
    | .len | .cap | .max | .min => some args.toList
    | _ => none
  | _ => none
theorem exec_congr {o : Oper} {ev ev' : Operand → Value} {l : List Operand} (hp : pureOps o.op = some l) (h : ∀ x ∈ l, ev' x = ev x) : execOp ev' o = execOp ev o := by
  obtain ⟨dst, op, ty, pos, after, guard⟩ := o
  cases op with
  | binOp b t x y t2 =>
    have : [x, y] = l := Option.some.inj hp
    subst this
    simp only [execOp, h x (by simp), h y (by simp)]
  | unOp b t x =>
    have : [x] = l := Option.some.inj hp
    subst this
    simp only [execOp, h x (by simp)]
  | convert b t x =>
    have : [x] = l := Option.some.inj hp
    subst this
    simp only [execOp, h x (by simp)]
  | index t x y =>
    have : [x, y] = l := Option.some.inj hp
    subst this
    simp only [execOp, h x (by simp), h y (by simp)]
  | typeAssert x t a c =>
    have : [x] = l := Option.some.inj hp
    subst this
    simp only [execOp, h x (by simp)]
  | call c =>
    obtain ⟨callee, args, at_⟩ := c
    cases callee with
    | builtin b =>
      have hl : args.toList = l := by cases b <;> first | exact Option.some.inj hp | cases hp
      subst hl
      have : args.map ev' = args.map ev := by
        apply Array.ext (by simp)
        intro i h1 h2
        simp only [Array.getElem_map]
        exact h _ (by simp)
      simp only [execOp, resolve, this]
    | value f => cases hp
    | invoke r m => cases hp
  | _ => cases hp
/-- Is the slot's value free of addresses, and what it answers? -/
theorem pure_sound {o : Oper} {ev ev' : Operand → Value} {l : List Operand} {v : Value} (hp : pureOps o.op = some l) (h : ∀ x ∈ l, VR ρ (ev x) (ev' x)) (hs : ∀ x ∈ l, selfOk (ev x) = true) (hr : prun P (execOp ev o) = some (.value v)) (w : World) :
    (execOp ev' o).run P w = .ok (.value v) w := by
  rw [exec_congr hp fun x hx => (h x hx).self_eq (hs x hx)]
  exact prun_run hr w
/-- A comparison with nil. -/
def isNilV : Value → Bool
  | .pointer none | .slice none _ _ | .map none | .nilFunc => true
  | _ => false
theorem sr_len (ty : TypeId) (t : TypeId) {v v' : Value} (h : VR ρ v v') (hm : ∀ r, ¬ v = .map (some r)) : SR P VRr ρ (Builtin.len_ #[t] ty #[v]) (Builtin.len_ #[t] ty #[v']) := by
  refine sr_eq (sr_und t) fun ρ1 hle d => ?_
  cases d with
  | slice e =>
    cases h with
    | slice hk hf hn hm he ho => exact .pure (.int _ _)
    | slice0 n c => exact .pure (.int _ _)
    | _ => exact .halt
  | string =>
    cases h with
    | string s => exact .pure (.int _ _)
    | _ => exact .halt
  | array n e => exact .pure (.int _ _)
  | map k e =>
    cases h with
    | map0 => exact .pure (.int _ _)
    | map hk => exact absurd rfl (hm _)
    | _ => exact .halt
  | pointer a =>
    refine sr_eq (sr_und a) fun ρ2 hle2 d2 => ?_
    cases d2 with
    | array n e => exact .pure (.int _ _)
    | _ => exact .halt
  | chan a b => cases h <;> first | exact .halt | exact .dead fun _ => rfl
  | _ => exact .halt
end
end
section
open Go
section
variable {P : Program} {ρ : Names} {w : World}
/-- An address, or a function. -/
def isAdr : Value → Bool
  | .pointer (some _) | .slice (some _) _ _ | .map (some _) | .func .. => true
  | _ => false
theorem VR.adr {v v' : Value} (h : VR ρ v v') (ha : isAdr v = true) : isAdr v' = true := by cases h <;> first | rfl | cases ha
theorem VR.nil_ {v v' : Value} (h : VR ρ v v') (ha : isNilV v = true) : v' = v := by
  cases h <;> first | rfl | cases ha
/-- What is not nil is unequal to nil: by the kinds of the values. -/
def nilKind : Value → Nat
  | .pointer _ => 1
  | .slice .. => 2
  | .map _ => 3
  | .func .. | .nilFunc => 4
  | _ => 0
def tyKind : TypeDesc → Nat
  | .pointer _ => 1
  | .slice _ => 2
  | .map .. => 3
  | .func .. => 4
  | _ => 9
theorem VR.kind {v v' : Value} (h : VR ρ v v') (h0 : nilKind v ≠ 0) : nilKind v' = nilKind v := by cases h <;> first | rfl | exact absurd rfl h0
theorem tyKind_ne (d : TypeDesc) : tyKind d ≠ 0 := by cases d <;> (intro q; cases q)
theorem eq_nil {t : TypeId} {d : TypeDesc} {x y : Value} (hu : P.underlying t = some d) (hx : isAdr x = true) (hy : isNilV y = true) (kx : nilKind x = tyKind d) (ky : nilKind y = tyKind d) (w : World) :
    (Op.equal t x y).run P w = .ok false w ∧ (Op.equal t y x).run P w = .ok false w := by
  have e : Op.maxDepth = 9999 + 1 := rfl
  unfold Op.equal
  rw [e]
  unfold Op.equalIn
  simp only [Sem.run_bind, run_underlying hu w]
  cases x with
  | pointer a =>
    cases a with
    | none => cases hx
    | some a =>
      cases d <;> first | (cases kx; done) | skip
      cases y <;> first | (cases ky; done) | skip
      rename_i b
      cases b with
      | some b => cases hy
      | none => exact ⟨rfl, rfl⟩
  | slice a n c =>
    cases a with
    | none => cases hx
    | some a =>
      cases d <;> first | (cases kx; done) | skip
      cases y <;> first | (cases ky; done) | skip
      rename_i b _ _
      cases b with
      | some b => cases hy
      | none => exact ⟨rfl, rfl⟩
  | map a =>
    cases a with
    | none => cases hx
    | some a =>
      cases d <;> first | (cases kx; done) | skip
      cases y <;> first | (cases ky; done) | skip
      rename_i b
      cases b with
      | some b => cases hy
      | none => exact ⟨rfl, rfl⟩
  | func f a b =>
    cases d <;> first | (cases kx; done) | skip
    cases y <;> first | (cases ky; done) | skip
    · cases hy
    · exact ⟨rfl, rfl⟩
  | _ => cases hx
end
end
section
open Go
section
variable {P : Program} {ρ : Names}
def bnd (v : Value) (y : Nat) : Option Nat :=
  match v with
  | .int _ i => if 0 ≤ i ∧ i ≤ (y : Int) then some i.toNat else none
  | _ => none
theorem run_bnd {v : Value} {y n : Nat} {code : BoundsCode} (h : bnd v y = some n) (w : World) : (Instr.sliceBound v y code).run P w = .ok n w ∧ n ≤ y := by
  unfold bnd at h
  cases v <;> first | (cases h; done) | skip
  rename_i k i
  dsimp only at h
  split at h
  · rename_i hb
    have : i.toNat = n := Option.some.inj h
    subst this
    refine ⟨?_, by omega⟩
    unfold Instr.sliceBound
    simp only [asIntOf, Sem.run_bind, Sem.run_pure, Result.andThen_ok, if_pos hb]
  · cases h
theorem VR.bnd {v v' : Value} (h : VR ρ v v') (y : Nat) {n : Nat} (hb : bnd v y = some n) : Go.Proofs.YtbgdjcoliiinjaaGreat.bnd v' y = some n := by
  cases h <;> first | exact hb | cases hb
/-- The bounds of a slice expression without a third one. -/
def bnd2 (len cap : Nat) (lo hi : Option Value) : Option (Nat × Nat) :=
  match (match hi with | some v => bnd v cap | none => some len) with
  | none => none
  | some h => match (match lo with | some v => bnd v h | none => some 0) with
    | none => none
    | some l => some (l, h)
theorem run_bnd2 {len cap l h : Nat} {lo hi : Option Value} (hb : bnd2 len cap lo hi = some (l, h)) (hl : len ≤ cap) (w : World) : (Instr.sliceBounds true len cap lo hi none).run P w = .ok (l, h, cap) w ∧ l ≤ h ∧ h ≤ cap := by
  unfold bnd2 at hb
  unfold Instr.sliceBounds
  cases hi with
  | none =>
    dsimp only at hb ⊢
    cases lo with
    | none =>
      have : (0, len) = (l, h) := Option.some.inj hb
      cases this
      exact ⟨rfl, Nat.zero_le _, hl⟩
    | some v =>
      dsimp only at hb ⊢
      cases hv : bnd v len with
      | none => rw [hv] at hb; cases hb
      | some n =>
        rw [hv] at hb
        have : (n, len) = (l, h) := Option.some.inj hb
        cases this
        obtain ⟨r, hle⟩ := run_bnd (P := P) (code := .sliceB) hv w
        refine ⟨?_, hle, hl⟩
        simp only [Sem.run_bind, Sem.run_pure, Result.andThen_ok]
        simp only [Option.isSome_none, Bool.false_eq_true, if_false, r, Result.andThen_ok]
  | some u =>
    dsimp only at hb ⊢
    cases hu : bnd u cap with
    | none => rw [hu] at hb; cases hb
    | some m =>
      rw [hu] at hb
      obtain ⟨r, hle⟩ := run_bnd (P := P) (code := .sliceAcap) hu w
      dsimp only at hb
      cases lo with
      | none =>
        have : (0, m) = (l, h) := Option.some.inj hb
        cases this
        refine ⟨?_, Nat.zero_le _, hle⟩
        simp only [Sem.run_bind, Sem.run_pure, Result.andThen_ok, if_true, r]
      | some v =>
        dsimp only at hb
        cases hv : bnd v m with
        | none => rw [hv] at hb; cases hb
        | some n =>
          rw [hv] at hb
          have : (n, m) = (l, h) := Option.some.inj hb
          cases this
          obtain ⟨r2, hle2⟩ := run_bnd (P := P) (code := .sliceB) hv w
          refine ⟨?_, hle2, hle⟩
          simp only [Sem.run_bind, Sem.run_pure, Result.andThen_ok, if_true, r]
          simp only [Option.isSome_none, Bool.false_eq_true, if_false, r2, Result.andThen_ok]
/-- A slice of a slice, computed; sz: the size of an element. -/
def aslice (sz : Nat) (x : Value) (lo hi : Option Value) : Option Value :=
  match x with
  | .slice none n c => if Nat.ble n c then match bnd2 n c lo hi with
      | some (l, h) => some (.slice none (h - l) (c - l))
      | none => none
    else none
  | .slice (some ⟨k, o, none⟩) n c =>
    if Nat.blt c openCap then match bnd2 n c lo hi with
      | some (l, h) => some (.slice (some (if c = l then ⟨k, o, none⟩ else ⟨k, o + l * sz, none⟩)) (h - l) (c - l))
      | none => none
    else match bnd2 n n lo hi with
      | some (l, h) => if l = 0 then some (.slice (some ⟨k, o, none⟩) h c) else some (.slice (some ⟨k, o + l * sz, none⟩) (h - l) (openCap + 1))
      | none => none
  | _ => none
inductive OR (ρ : Names) : Option Value → Option Value → Prop
  | none : OR ρ none none
  | some {v v' : Value} (h : VR ρ v v') : OR ρ (some v) (some v')
theorem bnd2_rel {lo lo' hi hi' : Option Value} (hl : OR ρ lo lo') (hh : OR ρ hi hi') {n c l h : Nat} (hb : bnd2 n c lo hi = some (l, h)) : bnd2 n c lo' hi' = some (l, h) := by
  unfold bnd2 at hb ⊢
  cases hh with
  | none =>
    cases hl with
    | none => exact hb
    | @some v v' hv =>
      dsimp only at hb ⊢
      cases hq : bnd v n with
      | none => rw [hq] at hb; cases hb
      | some m => rw [hq] at hb; rw [hv.bnd n hq]; exact hb
  | @some u u' hu =>
    dsimp only at hb ⊢
    cases hq : bnd u c with
    | none => rw [hq] at hb; cases hb
    | some m =>
      rw [hq] at hb
      rw [hu.bnd c hq]
      cases hl with
      | none => exact hb
      | @some v v' hv =>
        dsimp only at hb ⊢
        cases hq2 : bnd v m with
        | none => rw [hq2] at hb; cases hb
        | some m2 => rw [hq2] at hb; rw [hv.bnd m hq2]; exact hb
theorem bnd_le {v : Value} {y y' n : Nat} (h : bnd v y = some n) (hy : y ≤ y') : bnd v y' = some n := by
  unfold bnd at h ⊢
  cases v <;> first | (cases h; done) | skip
  dsimp only at h ⊢
  split at h
  · rw [if_pos (by omega)]; exact h
  · cases h
theorem bnd2_mono {lo hi : Option Value} {n c c' l h : Nat} (hb : bnd2 n c lo hi = some (l, h)) (hc : c ≤ c') : bnd2 n c' lo hi = some (l, h) := by
  unfold bnd2 at hb ⊢
  cases hi with
  | none => exact hb
  | some u =>
    dsimp only at hb ⊢
    cases hq : bnd u c with
    | none => rw [hq] at hb; cases hb
    | some m => rw [hq] at hb; rw [bnd_le hq hc]; exact hb
theorem run_sliceAt {t e : TypeId} {i : TypeInfo} {a : Option Addr} {n c l h : Nat} {lo hi : Option Value} (hu : P.underlying t = some (.slice e)) (hi_ : P.info? e = some i) (hb : bnd2 n c lo hi = some (l, h)) (hn : n ≤ c) (w : World) :
    (Instr.sliceAt t (.slice a n c) lo hi none).run P w = .ok (.slice (if c = l then a else a.map (·.add (l * i.size))) (h - l) (c - l)) w := by
  obtain ⟨r, _, _⟩ := run_bnd2 (P := P) hb hn w
  unfold Instr.sliceAt
  simp only [Sem.run_bind, run_underlying hu w, Result.andThen_ok]
  unfold Instr.slice
  simp only [Sem.run_bind, run_underlying hu w, Result.andThen_ok, r, sizeOf, typeInfo, run_program, hi_, Sem.run_pure]
theorem aslice_sound {t e : TypeId} {i : TypeInfo} {x x' v : Value} {lo lo' hi hi' : Option Value} (hu : P.underlying t = some (.slice e)) (hi_ : P.info? e = some i) (hx : VR ρ x x') (hl : OR ρ lo lo') (hh : OR ρ hi hi') (ha : aslice i.size x lo hi = some v) :
    ∃ v', (∀ w, (Instr.sliceAt t x' lo' hi' none).run P w = .ok v' w) ∧ VR ρ v v' := by
  cases hx with
  | slice0 n c =>
    unfold aslice at ha
    dsimp only at ha
    split at ha
    · rename_i hnc
      have hnc := Nat.le_of_ble_eq_true hnc
      cases hb : bnd2 n c lo hi with
      | none => rw [hb] at ha; cases ha
      | some r =>
        obtain ⟨l, h⟩ := r
        rw [hb] at ha
        have : Value.slice none (h - l) (c - l) = v := Option.some.inj ha
        subst this
        refine ⟨_, run_sliceAt (a := none) hu hi_ (bnd2_rel hl hh hb) hnc, ?_⟩
        split <;> exact .slice0 _ _
    · cases ha
  | @slice k o o' g n c c' q hk hf hn hm he ho =>
    unfold aslice at ha
    dsimp only at ha
    by_cases hc : Nat.blt c openCap = true
    · rw [if_pos hc] at ha
      have hc2 : c < openCap := Nat.le_of_ble_eq_true hc
      have e1 := he hc2
      subst e1
      have e2 : 0 < c' → o' = o := fun q => hf (.inr ⟨q, Nat.le_of_lt hc2⟩)
      cases hb : bnd2 n c' lo hi with
      | none => rw [hb] at ha; cases ha
      | some r =>
        obtain ⟨l, h⟩ := r
        rw [hb] at ha
        have hv := Option.some.inj ha
        subst hv
        have hb' := bnd2_rel hl hh hb
        obtain ⟨_, h1, h2⟩ := run_bnd2 (P := P) hb' hn default
        refine ⟨_, run_sliceAt (a := some ⟨g, o', none⟩) hu hi_ hb' hn, ?_⟩
        by_cases hcl : c' = l
        · rw [if_pos hcl, if_pos hcl]
          exact .slice hk (fun q => by rcases q with q | q <;> omega) (by omega) (by omega) (fun _ => rfl) (fun q => by omega)
        · rw [if_neg hcl, if_neg hcl]
          have e3 := e2 (by omega)
          subst e3
          show VR ρ _ (.slice (some ((⟨g, o', none⟩ : Addr).add (l * i.size))) _ _)
          rw [add_plain]
          exact .slice hk (fun _ => rfl) (by omega) (by omega) (fun _ => rfl) (fun q => by omega)
    · rw [if_neg hc] at ha
      have hc2 : openCap ≤ c := by
        have : ¬ c < openCap := fun q => hc (Nat.ble_eq_true_of_le q)
        omega
      cases hb : bnd2 n n lo hi with
      | none => rw [hb] at ha; cases ha
      | some r =>
        obtain ⟨l, h⟩ := r
        rw [hb] at ha
        dsimp only at ha
        obtain ⟨_, h1, h2⟩ := run_bnd2 (P := P) hb (Nat.le_refl n) default
        have hb' := bnd2_mono (bnd2_rel hl hh hb) hn
        refine ⟨_, run_sliceAt (a := some ⟨g, o', none⟩) hu hi_ hb' hn, ?_⟩
        by_cases hl0 : l = 0
        · rw [if_pos hl0] at ha
          have hv := Option.some.inj ha
          subst hv
          subst hl0
          rw [show (if c' = 0 then (some ⟨g, o', none⟩ : Option Addr) else (some ⟨g, o', none⟩ : Option Addr).map (·.add (0 * i.size))) = some ⟨g, o', none⟩ from by
            split
            · rfl
            · show some ((⟨g, o', none⟩ : Addr).add (0 * i.size)) = _
              rw [add_plain, Nat.zero_mul, Nat.add_zero]]
          exact .slice hk (fun q => hf (q.imp (fun q => by omega) id)) (by omega) (by omega) (fun q => by omega) (fun q => ho q)
        · rw [if_neg hl0] at ha
          have hv := Option.some.inj ha
          subst hv
          by_cases hcl : c' = l
          · rw [if_pos hcl]
            exact .slice hk (fun q => by rcases q with q | q <;> omega) (by omega) (by omega) (fun q => by omega) (fun q => by omega)
          · rw [if_neg hcl]
            show VR ρ _ (.slice (some ((⟨g, o', none⟩ : Addr).add (l * i.size))) _ _)
            rw [add_plain]
            exact .slice hk (fun q => by rw [hf (.inl (by rcases q with q | q <;> omega))]) (by omega) (by omega) (fun q => by omega) (fun q => by omega)
  | _ => cases ha
end
end
section
open Go
theorem LR.drop {ρ : Names} {a a' : List Value} (r : LR ρ a a') (i : Nat) : LR ρ (a.drop i) (a'.drop i) := by
  refine ⟨by simp [r.1], fun j x x' hx hx' => ?_⟩
  rw [List.getElem?_drop] at hx hx'
  exact r.2 _ x x' hx hx'
theorem LR.take {ρ : Names} {a a' : List Value} (r : LR ρ a a') (i : Nat) : LR ρ (a.take i) (a'.take i) := by
  refine ⟨by simp [r.1], fun j x x' hx hx' => ?_⟩
  rw [List.getElem?_take] at hx hx'
  split at hx
  · rename_i hj
    rw [if_pos hj] at hx'
    exact r.2 _ x x' hx hx'
  · cases hx
theorem LR.append {ρ : Names} {a a' b b' : List Value} (r : LR ρ a a') (s : LR ρ b b') : LR ρ (a ++ b) (a' ++ b') := by
  refine ⟨by simp [r.1, s.1], fun j x x' hx hx' => ?_⟩
  rw [List.getElem?_append] at hx hx'
  rw [← r.1] at hx'
  split at hx
  · rename_i hj
    rw [if_pos hj] at hx'
    exact r.2 j x x' hx hx'
  · rename_i hj
    rw [if_neg hj] at hx'
    exact s.2 _ x x' hx hx'
theorem LR.nil (ρ : Names) : LR ρ [] [] := ⟨rfl, fun i x x' hx => by simp at hx⟩
theorem LR.self (ρ : Names) {a : List Value} (h : a.all adrFree = true) : LR ρ a a := ⟨rfl, fun i x x' hx hx' => by
  rw [hx] at hx'
  cases hx'
  exact VR.of_plain ρ (List.all_eq_true.1 h x (List.mem_of_getElem? hx))⟩
theorem LR.one {ρ : Names} {a a' : List Value} (r : LR ρ a a') (h : a.all (·.oneCell') = true) : ∀ u ∈ a', u.oneCell' = true := by
  intro u hu
  obtain ⟨i, hi, rfl⟩ := List.mem_iff_getElem.1 hu
  have hi' : i < a.length := by rw [r.1]; exact hi
  exact (r.2 i _ _ (List.getElem?_eq_getElem hi') (List.getElem?_eq_getElem hi)).one (List.all_eq_true.1 h _ (List.getElem_mem hi'))
/-- Rows of sz cells each. -/
theorem chunks (sz : Nat) : ∀ (n : Nat) (xs : List Value), xs.length = n * sz → ∃ L : List (List Value), L.length = n ∧ (∀ c ∈ L, c.length = sz) ∧ L.flatten = xs
  | 0, xs, h => ⟨[], rfl, by simp, by rw [Nat.zero_mul] at h; simp [List.length_eq_zero_iff.1 h]⟩
  | n + 1, xs, h => by
    rw [Nat.add_mul, Nat.one_mul] at h
    obtain ⟨L, h1, h2, h3⟩ := chunks sz n (xs.drop sz) (by rw [List.length_drop]; omega)
    refine ⟨xs.take sz :: L, by simp [h1], fun c hc => ?_, by rw [List.flatten_cons, h3, List.take_append_drop]⟩
    rcases List.mem_cons.1 hc with rfl | hc
    · rw [List.length_take]; omega
    · exact h2 c hc
/-- The cells of a block. -/
def contO : AObj → Option (List Value)
  | .cells cs _ => some cs
  | .grown cs _ _ _ => some cs
  | .mp _ _ => none
  | .gone => none
section
variable {P : Program} {ρ : Names} {W w : World} {R : Nat → Prop} {st : St} {l : Ents}
theorem Sim.cont (hs : Sim W R w ρ st l) {k g : Nat} {c : Option Nat} (hk : ρ k = some (g, c)) {cs : List Value} (hc : contO (findO k st.H) = some cs) : ∃ ds, LR ρ cs ds ∧ ∀ j u, ds[j]? = some u → w.cell? ⟨g, j, none⟩ = some u := by
  cases ho : findO k st.H with
  | gone => rw [ho] at hc; cases hc
  | mp es c => rw [ho] at hc; cases hc
  | cells cs' T =>
    rw [ho] at hc
    cases hc
    obtain ⟨ds, hl, _, m⟩ := find_cells hs hk ho
    exact ⟨_, hl, fun j u hu => hs.kn.cell m (by simpa using hu)⟩
  | grown cs' T sz n =>
    rw [ho] at hc
    cases hc
    obtain ⟨L, cap, hl, _, hn, hsz, _, _, m⟩ := find_grown hs hk ho
    refine ⟨_, hl, fun j u hu => ?_⟩
    obtain ⟨ob, hob, cur, rfl, _, ht⟩ := hs.kn.own _ _ m
    rw [← ht] at hu
    have hlt := (List.getElem?_eq_some_iff.1 hu).1
    rw [List.length_take] at hlt
    rw [List.getElem?_take, if_pos (by omega)] at hu
    unfold World.cell?
    rw [hob]
    simpa using hu
/-- m cells of a block from o on, all of one cell each. -/
def readO (o m : Nat) (ob : AObj) : Option (List Value) :=
  match contO ob with
  | some cs => if Nat.ble (o + m) cs.length && ((cs.drop o).take m).all (·.oneCell') then some ((cs.drop o).take m) else none
  | none => none
theorem Sim.read (hs : Sim W R w ρ st l) {k g : Nat} {c : Option Nat} (hk : ρ k = some (g, c)) {o m : Nat} {cs : List Value} (hc : readO o m (findO k st.H) = some cs) :
    ∃ ds, LR ρ cs ds ∧ ds.length = m ∧ (∀ u ∈ ds, u.oneCell' = true) ∧ ∀ j u, ds[j]? = some u → w.cell? ⟨g, o + j, none⟩ = some u := by
  unfold readO at hc
  cases hq : contO (findO k st.H) with
  | none => rw [hq] at hc; cases hc
  | some xs =>
    rw [hq] at hc
    dsimp only at hc
    split at hc
    · rename_i hb
      rw [Bool.and_eq_true] at hb
      obtain ⟨ds, hl, hcell⟩ := hs.cont hk hq
      cases hc
      have hle := Nat.le_of_ble_eq_true hb.1
      have hl2 := (hl.drop o).take m
      refine ⟨_, hl2, ?_, hl2.one hb.2, fun j u hu => ?_⟩
      · rw [← hl2.1, List.length_take, List.length_drop]; omega
      · rw [List.getElem?_take] at hu
        split at hu
        · rw [List.getElem?_drop] at hu
          exact hcell _ u hu
        · cases hu
    · cases hc
/-- What is known of a cell. -/
def CT.toV : CT → V
  | .int k => .oth (.float .f64 (kidx k))
  | .nat k lo hi => .oth (.complex .f64 (lo * 8 + kidx k) hi)
  | .bool => .oth (.complex .f32 5 0)
  | .sl j mx => .oth (.complex .f32 (j * 8 + 7) mx)
theorem BC.rel {ρ : Names} {ct : CT} {v : Value} (h : BC ρ.z ct v) : VR ρ ct.toV.toV v := by
  cases h with
  | int hw => exact .anyI hw
  | nat h1 h2 hw => exact .rng h1 h2 hw
  | bool b => exact .anyB b
  | sl hn h => exact .bslU h hn
/-- What is known of n rows of type j. -/
def repsT (j : Nat) : Nat → List V
  | 0 => []
  | n + 1 => (RT j).map CT.toV ++ repsT j n
theorem repsT_length (j : Nat) : ∀ n, (repsT j n).length = n * (RT j).length
  | 0 => by simp [repsT]
  | n + 1 => by rw [repsT, List.length_append, List.length_map, repsT_length j n, Nat.add_mul, Nat.one_mul, Nat.add_comm]
/-- A cell of a block that is not written any more. -/
theorem Sim.zcell (hs : Sim W R w ρ st l) {g o : Nat} {v : Value} (h : zc ρ.z g o = some v) : w.cell? ⟨g, o, none⟩ = some v := by
  unfold zc at h
  split at h
  · rename_i c T fr hg
    rcases hs.sn _ _ hg with ⟨hlt, hw⟩ | hh
    · rw [hs.kn.old hlt (by simp)]
      unfold World.cell?
      rw [hw]
      simpa using h
    · obtain ⟨ob, hob, rfl⟩ := hs.kn.own _ _ hh
      unfold World.cell?
      rw [hob]
      simpa using h
  · cases h
/-- The rows of a slice, as the world holds them now. -/
theorem bs_cells (hs : Sim W R w ρ st l) {j n : Nat} {v : Value} (h : BS ρ.z j n v) : ∃ a c ds, v = .slice a n c ∧ n ≤ c ∧ c ≤ maxLen ∧ LR ρ ((repsT j n).map V.toV) ds ∧ (0 < n → ∃ g o, a = some ⟨g, o, none⟩ ∧ ∀ i u, ds[i]? = some u → w.cell? ⟨g, o + i, none⟩ = some u) := by
  cases h with
  | @mk j n c a f hn hm h ht =>
    by_cases h0 : 0 < n
    · obtain ⟨g, o, e, hc⟩ := h h0
      have key : ∀ m, m ≤ n → ∃ ds, LR ρ ((repsT j m).map V.toV) ds ∧ ∀ i u, ds[i]? = some u → w.cell? ⟨g, o + (n - m) * (RT j).length + i, none⟩ = some u := by
        intro m
        induction m with
        | zero => exact fun _ => ⟨[], .nil ρ, fun i u hu => by simp at hu⟩
        | succ m ih =>
          intro hm1
          obtain ⟨ds, hl, hcell⟩ := ih (by omega)
          refine ⟨(List.range (RT j).length).map (f (n - (m + 1))) ++ ds, ?_, fun i u hu => ?_⟩
          · rw [repsT, List.map_append]
            refine LR.append ⟨by simp, fun i x y hx hy => ?_⟩ hl
            have hi : i < (RT j).length := by have := (List.getElem?_eq_some_iff.1 hx).1; simpa using this
            rw [List.map_map, List.getElem?_map, List.getElem?_eq_getElem hi] at hx
            rw [List.getElem?_map, List.getElem?_range hi] at hy
            cases hx; cases hy
            exact (ht (n - (m + 1)) i _ (by omega) (List.getElem?_eq_getElem hi)).rel
          · by_cases hi : i < (RT j).length
            · rw [List.getElem?_append_left (by simpa using hi), List.getElem?_map, List.getElem?_range hi] at hu
              cases hu
              exact hs.zcell (hc (n - (m + 1)) i (by omega) hi)
            · rw [List.getElem?_append_right (by simpa using hi)] at hu
              have := hcell _ u hu
              simp only [List.length_map, List.length_range] at this
              rw [← this]
              congr 2
              have e1 : n - m = n - (m + 1) + 1 := by omega
              rw [e1, Nat.add_mul, Nat.one_mul]
              omega
      obtain ⟨ds, hl, hcell⟩ := key n (Nat.le_refl _)
      refine ⟨a, c, ds, rfl, hn, hm, hl, fun _ => ⟨g, o, e, fun i u hu => ?_⟩⟩
      have := hcell i u hu
      rwa [Nat.sub_self, Nat.zero_mul, Nat.add_zero] at this
    · have : n = 0 := by omega
      subst this
      exact ⟨a, c, [], rfl, hn, hm, .nil ρ, fun h => absurd h (Nat.lt_irrefl _)⟩
/-- What append's second argument yields: cells and the number of elements. -/
noncomputable def asrc (P : Program) (sz : Nat) (tx : TypeId) (x : Value) (H : Heap) : Option (List Value × Nat) :=
  match P.underlying tx with
  | some (.slice _) => match x with
    | .slice none 0 _ => some ([], 0)
    | .slice (some ⟨_, _, none⟩) 0 _ => some ([], 0)
    | .slice (some ⟨k, o, none⟩) (n + 1) _ => match readO o ((n + 1) * sz) (findO k H) with
      | some cs => some (cs, n + 1)
      | none => none
    | .complex .f32 a n => cond (Nat.beq (a % 8) 6 && Nat.beq (RT (a / 8)).length sz) (some (((repsT (a / 8) n).map V.toV), n)) none
    | _ => none
  | some .string => match x with
    | .string s => if Nat.beq sz 1 then some (byteCells s, s.size) else none
    | _ => none
  | _ => none
theorem byteCells_plain (s : ByteArray) : (byteCells s).all adrFree = true := by
  rw [List.all_eq_true]
  intro x hx
  unfold byteCells at hx
  obtain ⟨b, _, rfl⟩ := List.mem_map.1 hx
  rfl
theorem asrc_sound (hs : Sim W R w ρ st l) {sz : Nat} {tx : TypeId} {x x' : Value} (hx : VR ρ x x') {news : List Value} {n : Nat} (ha : asrc P sz tx x st.H = some (news, n)) : ∃ news', Src P sz tx x' n news' w ∧ LR ρ news news' := by
  unfold asrc at ha
  split at ha
  · rename_i e' hk
    split at ha
    · cases hx
      cases ha
      exact ⟨[], Src.ofNil w hk _, .nil ρ⟩
    · cases ha
      cases hx with
      | slice hk' hoff hn hm he ho => exact ⟨[], Src.ofSlice w hk _ 0 _ [] (by simp) (fun j u h => by simp at h) (by simp), .nil ρ⟩
    · split at ha
      · rename_i cs hr
        cases ha
        cases hx with
        | slice hk' hoff hn hm he ho =>
          obtain ⟨ds, hl, hlen, h1, hc⟩ := hs.read hk' hr
          rw [hoff (.inl (Nat.succ_pos _))]
          exact ⟨ds, Src.ofSlice w hk _ _ _ ds hlen (fun j u h => by rw [Addr.add_lit]; exact hc j u h) h1, hl⟩
      · cases ha
    · rename_i a n0
      cases hb : (Nat.beq (a % 8) 6 && Nat.beq (RT (a / 8)).length sz) with
      | false => rw [hb] at ha; cases ha
      | true =>
        rw [hb, cond_true] at ha
        cases ha
        rw [Bool.and_eq_true] at hb
        have hm := Nat.eq_of_beq_eq_true hb.1
        have hz := Nat.eq_of_beq_eq_true hb.2
        cases hx with
        | any hs => simp at hm
        | symS h1 h2 h3 h4 h5 => omega
        | symLen h1 h2 h3 => omega
        | ptrI h1 => omega
        | modI h1 h2 => omega
        | anyB b => omega
        | bslU h1 h2 => omega
        | bptr h1 => omega
        | @bsl j _ _ hh =>
          rw [show (j * 8 + 6) / 8 = j by omega] at hz ⊢
          obtain ⟨ad, c, ds, rfl, h1, h2, hl, hc⟩ := bs_cells hs hh
          have hlen : ds.length = n * sz := by rw [← hl.1, List.length_map, repsT_length, hz]
          cases ad with
          | none =>
            have h0 : n = 0 := by
              rcases Nat.eq_zero_or_pos n with q | q
              · exact q
              · obtain ⟨g, o, e, _⟩ := hc q; cases e
            subst h0
            have : ds = [] := List.eq_nil_of_length_eq_zero (by rw [hlen, Nat.zero_mul])
            subst this
            exact ⟨[], Src.ofNil w hk _, hl⟩
          | some ad =>
            by_cases h0 : 0 < n
            · obtain ⟨g, o, e, hcell⟩ := hc h0
              cases e
              exact ⟨ds, Src.ofSlice w hk _ _ _ ds hlen (fun j u h => by rw [Addr.add_lit]; exact hcell j u h) (hl.one (by rw [List.all_map]; exact List.all_eq_true.2 fun v _ => v.one)), hl⟩
            · have h0 : n = 0 := by omega
              subst h0
              have : ds = [] := List.eq_nil_of_length_eq_zero (by rw [hlen, Nat.zero_mul])
              subst this
              exact ⟨[], Src.ofSlice w hk _ 0 _ [] (by simp) (fun j u h => by simp at h) (by simp), hl⟩
    · cases ha
  · rename_i hk
    split at ha
    · split at ha
      · rename_i s hb
        have := Nat.eq_of_beq_eq_true hb
        subst this
        cases hx
        cases ha
        exact ⟨_, Src.ofString w hk s, .self ρ (byteCells_plain s)⟩
      · cases ha
    · cases ha
  · cases ha
end
end
section
open Go
section
variable {P : Program} {ρ : Names} {W w : World} {R : Nat → Prop} {st st' : St} {l : Ents}
theorem run_append_zero (w : World) (t tx ty e : TypeId) (i : TypeInfo) (ht : P.underlying t = some (.slice e)) (hi : P.info? e = some i) (base : Option Addr) (n c : Nat) (x : Value) (news : List Value) (hs : Src P i.size tx x 0 news w) (hc : n ≤ c) :
    (Builtin.append_ #[t, tx] ty #[.slice base n c, x]).run P w = .ok (.slice base n c) w := by
  have hn : news = [] := List.length_eq_zero_iff.1 (by have := hs.newsLen; omega)
  subst hn
  cases base with
  | none => rcases hs.kind with ⟨e', hk⟩ | hk <;> simp [Builtin.append_, run_underlying ht, run_underlying hk, sizeOf, typeInfo, hi, hs.len, hc, hs.cells]
  | some a => rcases hs.kind with ⟨e', hk⟩ | hk <;> simp [Builtin.append_, run_underlying ht, run_underlying hk, sizeOf, typeInfo, hi, hs.len, hc, hs.cells, storeCells]
/-- A new row, its capacity unknown. -/
noncomputable def agrow (e : TypeId) (sz bytes : Nat) (olds news : List Value) (need c : Nat) (st : St) : Option (Value × St) :=
  if Nat.ble need maxLen && (Nat.ble (Builtin.nextslicecap need c * bytes) 281474976710656 && (Nat.blt c need && Nat.blt st.n 32768)) then
    some (.slice (some ⟨st.n, 0, none⟩) need openCap, ⟨setO st.n (.grown (olds ++ news) e sz need) st.H, st.n + 1⟩)
  else none
theorem Sim.newRow (hs : Sim W R w ρ st l) (hlt9 : st.n < 32768) (e : TypeId) (sz need cap : Nat) {cs : List Value} {cs' : List Value} (hl : LR ρ cs cs') (hlen : cs'.length = need * sz) (cur : Array Value) (hcur : cur.size = cap * sz) (htake : cur.toList.take (need * sz) = cs') (hcap : need ≤ cap) (hm : cap ≤ maxLen) :
    ∃ ρ' l', NLe ρ ρ' ∧ ρ' st.n = some (w.heap.size, some cap) ∧ Sim W R (w.drew.alloc (.cells cur e)) ρ' ⟨setO st.n (.grown cs e sz need) st.H, st.n + 1⟩ l' := by
  have hle := NLe.add (hs.top _ (Nat.le_refl _)) (w.heap.size, some cap)
  obtain ⟨L, h1, h2, h3⟩ := chunks sz need cs' hlen
  exact ⟨_, _, hle, ρ.add_self _ _, (hs.drewN 1).new1 hlt9 (hs.kn.drew.alloc (Φ := CapAt e sz cap L) _ ⟨cur, rfl, hcur, by rw [h1, htake, h3]⟩)
    (.inr ⟨_, cap, L, ρ.add_self _ _, by rw [h3]; exact hl.mono hle, h1, h2, hcap, hm, .here⟩)⟩
theorem agrow_sound (hs : Sim W R w ρ st l) (t tx ty e : TypeId) (i : TypeInfo) (z : Value) (ht : P.underlying t = some (.slice e)) (hi : P.info? e = some i) (hz : i.zero = some z) (hzs : z.cells.size = i.size)
    (base : Option Addr) (n c : Nat) {olds olds' : List Value} (hlo : LR ρ olds olds') (hol : olds'.length = n * i.size) (hold : (Builtin.firstCells i.size n (.slice base n c)).run P w.drew = .ok olds'.toArray w.drew)
    (x' : Value) {m : Nat} {news news' : List Value} (hsrc : Src P i.size tx x' m news' w) (hln : LR ρ news news') {v : Value} (ha : agrow e i.size i.bytes olds news (n + m) c st = some (v, st')) :
    ∃ ρ' v' l' w', (Builtin.append_ #[t, tx] ty #[.slice base n c, x']).run P w = .ok v' w' ∧ NLe ρ ρ' ∧ VR ρ' v v' ∧ Sim W R w' ρ' st' l' := by
  unfold agrow at ha
  split at ha
  · rename_i hb
    rw [Bool.and_eq_true, Bool.and_eq_true, Bool.and_eq_true] at hb
    obtain ⟨b1, b2, b3, b4⟩ := hb
    have b4 : st.n < 32768 := Nat.le_of_ble_eq_true b4
    have b1 := Nat.le_of_ble_eq_true b1
    have b2 := Nat.le_of_ble_eq_true b2
    have b3 : c < n + m := Nat.le_of_ble_eq_true b3
    have hge := grownCap_ge w (n + m) c e
    have hcm := grownCap_le_maxLen w (n + m) c e b1
    have hrun := run_append_grow_src (P := P) w t tx ty e i z ht hi hz base n c olds' hold x' m news' hsrc b3 (by simp only [maxLen] at b1; omega) b2
    have hlen : (olds' ++ news').length = (n + m) * i.size := by rw [List.length_append, hol, hsrc.newsLen, Nat.add_mul]
    obtain ⟨ρ', l', hle, hk, hs'⟩ := hs.newRow b4 e i.size (n + m) (grownCap w (n + m) c e) (hlo.append hln) hlen ((olds' ++ news').toArray ++ Builtin.zeroCells z.cells (grownCap w (n + m) c e - (n + m)))
      (by
        simp only [Array.size_append, List.size_toArray, size_zeroCells, hzs, hlen, ← Nat.add_mul]
        congr 1
        omega)
      (by
        simp only [Array.toList_append]
        rw [← hlen]
        exact List.take_left) hge hcm
    have : (_, _) = (v, st') := Option.some.inj ha
    cases this
    exact ⟨ρ', _, l', _, hrun, hle, .slice hk (fun _ => rfl) hge hcm (fun h => absurd h (Nat.lt_irrefl _)) (fun _ => ⟨rfl, rfl⟩), hs'⟩
  · cases ha
end
end
section
open Go
/-- The values vs from o on. -/
def put (cs : List Value) (o : Nat) (vs : List Value) : List Value := cs.take o ++ (vs ++ cs.drop (o + vs.length))
theorem put_get (cs : List Value) (o : Nat) (vs : List Value) (h : o + vs.length ≤ cs.length) (j : Nat) : (put cs o vs)[j]? = if o ≤ j ∧ j < o + vs.length then vs[j - o]? else cs[j]? := by
  unfold put
  have ho : (cs.take o).length = o := by rw [List.length_take]; omega
  rw [List.getElem?_append, ho]
  by_cases h1 : j < o
  · rw [if_pos h1, if_neg (by omega), List.getElem?_take, if_pos h1]
  · rw [if_neg h1, List.getElem?_append]
    by_cases h2 : j < o + vs.length
    · rw [if_pos (by omega), if_pos (by omega)]
    · rw [if_neg (by omega), if_neg (by omega), List.getElem?_drop]
      congr 1
      omega
theorem put_length (cs : List Value) (o : Nat) (vs : List Value) (h : o + vs.length ≤ cs.length) : (put cs o vs).length = cs.length := by
  unfold put
  rw [List.length_append, List.length_append, List.length_take, List.length_drop]
  omega
theorem putL_toList (cs : Array Value) (o : Nat) (vs : List Value) (h : o + vs.length ≤ cs.size) : (putL cs o vs).toList = put cs.toList o vs := by
  apply List.ext_getElem?
  intro j
  rw [put_get _ _ _ (by simpa using h)]
  have := putL_get vs cs o j h
  simpa using this
theorem put_take (cs : List Value) (o K : Nat) (vs : List Value) (h : o + vs.length ≤ K) (hK : K ≤ cs.length) : (put cs o vs).take K = put (cs.take K) o vs := by
  apply List.ext_getElem?
  intro j
  rw [put_get _ _ _ (by rw [List.length_take]; omega), List.getElem?_take]
  by_cases hj : j < K
  · rw [if_pos hj, put_get _ _ _ (by omega), List.getElem?_take, if_pos hj]
  · rw [if_neg hj, if_neg (by omega), List.getElem?_take, if_neg hj]
theorem LR.put {ρ : Names} {a a' b b' : List Value} (r : LR ρ a a') (o : Nat) (s : LR ρ b b') : LR ρ (Go.Proofs.YtbgdjcoliiinjaaGreat.put a o b) (Go.Proofs.YtbgdjcoliiinjaaGreat.put a' o b') := by
  unfold Go.Proofs.YtbgdjcoliiinjaaGreat.put
  rw [s.1]
  exact (r.take o).append (s.append (r.drop _))
section
variable {P : Program} {ρ : Names} {W w : World} {R : Nat → Prop} {st st' : St} {l : Ents}
/-- There is room in a block of known capacity. -/
noncomputable def aroom (sz k o n c m : Nat) (news : List Value) (st : St) : Option (Value × St) :=
  match findO k st.H with
  | .cells cs T => if Nat.ble (n + m) c && Nat.ble (o + (n + m) * sz) cs.length then some (.slice (some ⟨k, o, none⟩) (n + m) c, ⟨setO k (.cells (put cs (o + n * sz) news) T) st.H, st.n⟩) else none
  | _ => none
theorem aroom_sound (hs : Sim W R w ρ st l) (t tx ty e : TypeId) (i : TypeInfo) (ht : P.underlying t = some (.slice e)) (hi : P.info? e = some i) {k o n c : Nat} (hc : c < openCap) {s' : Value} (hsv : VR ρ (.slice (some ⟨k, o, none⟩) n c) s')
    {x' : Value} {m : Nat} (hm0 : 0 < m) {news news' : List Value} (hsrc : Src P i.size tx x' m news' w) (hln : LR ρ news news') {v : Value} (ha : aroom i.size k o n c m news st = some (v, st')) :
    ∃ ρ' v' l' w', (Builtin.append_ #[t, tx] ty #[s', x']).run P w = .ok v' w' ∧ NLe ρ ρ' ∧ VR ρ' v v' ∧ Sim W R w' ρ' st' l' := by
  unfold aroom at ha
  cases hsv with
  | @slice _ _ o' g _ _ c' q hk hoff hn hm he ho =>
    have h0 : 0 < c := Nat.pos_of_ne_zero fun q => by
      subst q
      split at ha
      · rw [show Nat.ble (n + m) 0 = false from by cases h : Nat.ble (n + m) 0 with | false => rfl | true => exact absurd (Nat.le_of_ble_eq_true h) (by omega)] at ha
        cases ha
      · cases ha
    have ho' := hoff (.inr ⟨h0, Nat.le_of_lt hc⟩)
    have hc' := he hc
    subst ho'
    subst hc'
    cases hf : findO k st.H with
    | gone => rw [hf] at ha; cases ha
    | mp es c => rw [hf] at ha; cases ha
    | grown cs T sz n' => rw [hf] at ha; cases ha
    | cells cs T =>
      rw [hf] at ha
      dsimp only at ha
      split at ha
      · rename_i hb
        rw [Bool.and_eq_true] at hb
        have b1 := Nat.le_of_ble_eq_true hb.1
        have b2 := Nat.le_of_ble_eq_true hb.2
        obtain ⟨cs', hl, hh, hset⟩ := set_cells (ds := put cs (o' + n * i.size) news) hs hk hf
        have hsz : cs.length = cs'.size := by have := hl.1; simpa using this
        have hnl := hsrc.newsLen
        rw [Nat.add_mul] at b2
        obtain ⟨l', hs'⟩ := hset (o' + n * i.size) news' (by
          rw [putL_toList _ _ _ (by omega)]
          exact hl.put _ hln)
        have hblk := hs.kn.at_ hh
        have hrun := run_append_room_src (P := P) w t tx ty e i ht hi g o' n c' x' m news' hsrc b1
          (fun j hj => by rw [blk_cell hblk, Array.getElem?_eq_getElem (by omega)]; rfl) (fun j hj => blk_free hblk _)
        have : (_, _) = (v, st') := Option.some.inj ha
        cases this
        exact ⟨ρ, _, l', _, hrun, .refl _, .slice hk (fun _ => rfl) b1 hm (fun _ => rfl) (fun h => absurd h (Nat.ne_of_lt hc)), hs'⟩
      · cases ha
end
end
section
open Go
section
variable {P : Program} {ρ : Names} {W w : World} {R : Nat → Prop} {st st' : St} {l : Ents}
/-- Onto the whole of what has grown (it is moved or not: a new name), or over its last elements. -/
noncomputable def agrown (e : TypeId) (sz bytes k n m : Nat) (news : List Value) (st : St) : Option (Value × St) :=
  match findO k st.H with
  | .grown cs T sz' n' =>
    if Nat.beq T e && Nat.beq sz' sz then
      if Nat.beq n n' then
        if Nat.ble (n + m) maxLen && (Nat.ble ((n + m) * bytes) 140737488355328 && Nat.blt st.n 32768) then
          some (.slice (some ⟨st.n, 0, none⟩) (n + m) openCap, ⟨setO st.n (.grown (cs ++ news) e sz (n + m)) (setO k .gone st.H), st.n + 1⟩)
        else none
      else if Nat.ble (n + m) n' then some (.slice (some ⟨k, 0, none⟩) (n + m) openCap, ⟨setO k (.grown (put cs (n * sz) news) e sz n') (setO k .gone st.H), st.n⟩)
      else none
    else none
  | _ => none
theorem cap_put {T : TypeId} {sz cap K : Nat} {cur : Array Value} {o : Nat} {vs cs' : List Value} (hs : cur.size = cap * sz) (hK : K ≤ cap) (ho : o + vs.length ≤ K * sz) (hL : ((put cur.toList o vs).take (K * sz)) = cs') :
    ∃ L' : List (List Value), L'.length = K ∧ (∀ c ∈ L', c.length = sz) ∧ L'.flatten = cs' ∧ CapAt T sz cap L' (.cells (putL cur o vs) T) := by
  have hle : K * sz ≤ cur.size := by rw [hs]; exact Nat.mul_le_mul_right _ hK
  have hl : cs'.length = K * sz := by
    have hpl : (put cur.toList o vs).length = cur.size := by
      have hq : o + vs.length ≤ cur.toList.length := by
        rw [Array.length_toList]
        exact Nat.le_trans ho hle
      rw [put_length _ _ _ hq, Array.length_toList]
    rw [← hL, List.length_take, hpl]
    exact Nat.min_eq_left hle
  obtain ⟨L', h1, h2, h3⟩ := chunks sz K cs' hl
  exact ⟨L', h1, h2, h3, _, rfl, by rw [putL_size]; exact hs, by rw [h1, h3, putL_toList _ _ _ (Nat.le_trans ho hle), hL]⟩
theorem agrown_sound (hs : Sim W R w ρ st l) (t tx ty e : TypeId) (i : TypeInfo) (z : Value) (ht : P.underlying t = some (.slice e)) (hi : P.info? e = some i) (hz : i.zero = some z) (hzs : z.cells.size = i.size)
    {k o n : Nat} {s' : Value} (hsv : VR ρ (.slice (some ⟨k, o, none⟩) n openCap) s')
    {x' : Value} {m : Nat} {news news' : List Value} (hm0 : 0 < m) (hsrc : Src P i.size tx x' m news' w) (hln : LR ρ news news') {v : Value} (ha : agrown e i.size i.bytes k n m news st = some (v, st')) :
    ∃ ρ' v' l' w', (Builtin.append_ #[t, tx] ty #[s', x']).run P w = .ok v' w' ∧ NLe ρ ρ' ∧ VR ρ' v v' ∧ Sim W R w' ρ' st' l' := by
  unfold agrown at ha
  cases hsv with
  | @slice _ _ o' g _ _ c' q hk hoff hn hm he ho =>
    have ho' := hoff (.inr ⟨by unfold openCap; omega, Nat.le_refl _⟩)
    obtain ⟨hzo, hq⟩ := ho rfl
    subst ho'
    subst hzo
    cases hf : findO k st.H with
    | gone => rw [hf] at ha; cases ha
    | mp es c => rw [hf] at ha; cases ha
    | cells cs T => rw [hf] at ha; cases ha
    | grown cs T sz' n' =>
      rw [hf] at ha
      dsimp only at ha
      split at ha
      · rename_i hb
        rw [Bool.and_eq_true] at hb
        have e1 := Nat.eq_of_beq_eq_true hb.1
        have e2 := Nat.eq_of_beq_eq_true hb.2
        subst e1
        subst e2
        obtain ⟨L, cap, l2, hl, hqc, hLn, hLs, hnc, hcm, hp, hs2, hout⟩ := take_grown hs hk hf
        have hklt : k < 32768 := find_ge (H := st.H) (by rw [hf]; intro q; cases q)
        have hkn : k < st.n := Nat.lt_of_not_le fun q => by rw [hs.top k q] at hk; cases hk
        rw [hqc] at hq
        have hcc : cap = c' := Option.some.inj hq
        subst hcc
        have KN := hs.kn.perm hp
        have hgz : ρ.z g = none := hs.sd k g _ (by rw [hf]; intro q; cases q) hk
        obtain ⟨ob, hob, cur, rfl, hcur, htk⟩ := KN.own _ _ .here
        have hnl := hsrc.newsLen
        have hfl : L.flatten.length = n' * i.size := by rw [← hLn]; exact flat_len _ L hLs
        -- what stands behind the write
        have there : ∀ K : Nat, K ≤ cap → n + m ≤ K → ∀ cs2 : List Value, (put cur.toList (n * i.size) news').take (K * i.size) = cs2 → ∃ L' : List (List Value), L'.length = K ∧ (∀ c ∈ L', c.length = i.size) ∧ L'.flatten = cs2 ∧
            Kn [] W (w.setCells g (0 + n * i.size) news') ((g, CapAt T i.size cap L') :: l2) ∧ (Builtin.append_ #[t, tx] ty #[.slice (some ⟨g, 0, none⟩) n cap, x']).run P w = .ok (.slice (some ⟨g, 0, none⟩) (n + m) cap) (w.setCells g (0 + n * i.size) news') := by
          intro K hK hnm cs2 h2
          have h3 : n * i.size + news'.length ≤ K * i.size := by rw [hnl, ← Nat.add_mul]; exact Nat.mul_le_mul_right _ hnm
          have h4 : K * i.size ≤ cur.size := by rw [hcur]; exact Nat.mul_le_mul_right _ hK
          obtain ⟨L', a1, a2, a3, a4⟩ := cap_put (T := T) hcur hK h3 h2
          have hon := only_setCells g news' (0 + n * i.size) w
          have hblk : BlkT w g cur T := hob
          refine ⟨L', a1, a2, a3, KN.upd hon.os hon.tape hon.output hon.size hon.block .here ⟨_, heap_setCells g T news' (0 + n * i.size) w cur hblk, ?_⟩, ?_⟩
          · rw [Nat.zero_add]; exact a4
          · exact run_append_room_src (P := P) w t tx ty T i ht hi g 0 n cap x' m news' hsrc (by omega)
              (fun j hj => by rw [blk_cell hblk, Array.getElem?_eq_getElem (by omega)]; rfl) (fun j hj => blk_free hblk _)
        split at ha
        · rename_i hbn
          have hnn := Nat.eq_of_beq_eq_true hbn
          subst hnn
          split at ha
          · rename_i hb2
            rw [Bool.and_eq_true, Bool.and_eq_true] at hb2
            have b1 := Nat.le_of_ble_eq_true hb2.1
            have b2 := Nat.le_of_ble_eq_true hb2.2.1
            have b4 : st.n < 32768 := Nat.le_of_ble_eq_true hb2.2.2
            have : (_, _) = (v, st') := Option.some.inj ha
            cases this
            have hcurn : n * i.size ≤ cur.size := by rw [hcur]; exact Nat.mul_le_mul_right _ hnc
            have hlo : LR ρ cs L.flatten := hl
            have hlen2 : (L.flatten ++ news').length = (n + m) * i.size := by rw [List.length_append, hfl, hnl, Nat.add_mul]
            rw [hLn] at htk
            by_cases hroom : n + m ≤ cap
            · have hle := NLe.add (hs.top _ (Nat.le_refl _)) (g, some cap)
              obtain ⟨L', a1, a2, a3, K2, hrun⟩ := there (n + m) hroom (Nat.le_refl _) (L.flatten ++ news') (by
                unfold put
                rw [htk, ← List.append_assoc, ← hlen2]
                exact List.take_left)
              refine ⟨_, _, _, _, hrun, hle, .slice (ρ.add_self _ _) (fun _ => rfl) hroom hcm (fun h => absurd h (Nat.lt_irrefl _)) (fun _ => ⟨rfl, rfl⟩),
                hs2.back b4 hle (ρ.add_self _ _) (fun j hj => ρ.add_ne _ hj) (Nat.le_succ _) (Nat.lt_succ_self _) (fun h => absurd (hs.rlt _ h) (Nat.lt_irrefl _)) hout K2
                  (.inr ⟨g, cap, L', ρ.add_self _ _, by rw [a3]; exact (hlo.append hln).mono hle, a1, a2, hroom, hcm, .here⟩) hgz⟩
            · have hge := grownCap_ge w (n + m) cap T
              have hcm2 := grownCap_le_maxLen w (n + m) cap T b1
              have hst := hs2
              have hnx := nextslicecap_le (need := n + m) (old := cap) (by omega)
              have hrun := run_append_grow_src (P := P) w t tx ty T i z ht hi hz (some ⟨g, 0, none⟩) n cap L.flatten
                (run_firstCells_some w.drew i.size n ⟨g, 0, none⟩ n cap L.flatten hfl (fun j u hu => by
                  rw [Addr.add_lit, Nat.zero_add]
                  have hblk : BlkT w.drew g cur T := hob
                  rw [blk_cell hblk]
                  rw [← htk] at hu
                  have hlt := (List.getElem?_eq_some_iff.1 hu).1
                  rw [List.length_take] at hlt
                  rw [List.getElem?_take, if_pos (by omega)] at hu
                  simpa using hu)) x' m news' hsrc (by omega) (by simp only [maxLen] at b1; omega)
                (Nat.le_trans (Nat.mul_le_mul_right _ hnx) (by rw [Nat.mul_assoc]; omega))
              obtain ⟨ρ', l', hle, hk2, hs'⟩ := hst.newRow b4 T i.size (n + m) (grownCap w (n + m) cap T) (hlo.append hln) hlen2 ((L.flatten ++ news').toArray ++ Builtin.zeroCells z.cells (grownCap w (n + m) cap T - (n + m)))
                (by
                  simp only [Array.size_append, List.size_toArray, size_zeroCells, hzs, hlen2, ← Nat.add_mul]
                  congr 1
                  omega)
                (by
                  simp only [Array.toList_append]
                  rw [← hlen2]
                  exact List.take_left) hge hcm2
              exact ⟨ρ', _, l', _, hrun, hle, .slice hk2 (fun _ => rfl) hge hcm2 (fun h => absurd h (Nat.lt_irrefl _)) (fun _ => ⟨rfl, rfl⟩), hs'⟩
          · cases ha
        · split at ha
          · rename_i hb2
            have b1 := Nat.le_of_ble_eq_true hb2
            have : (_, _) = (v, st') := Option.some.inj ha
            cases this
            have h4 : n' * i.size ≤ cur.size := by rw [hcur]; exact Nat.mul_le_mul_right _ hnc
            have h3 : n * i.size + news'.length ≤ n' * i.size := by rw [hnl, ← Nat.add_mul]; exact Nat.mul_le_mul_right _ b1
            rw [hLn] at htk
            obtain ⟨L', a1, a2, a3, K2, hrun⟩ := there n' hnc b1 (put L.flatten (n * i.size) news') (by
              rw [put_take _ _ _ _ h3 (by rw [Array.length_toList]; exact h4), htk])
            exact ⟨ρ, _, _, _, hrun, .refl _, .slice hk (fun _ => rfl) (Nat.le_trans b1 hnc) hcm (fun h => absurd h (Nat.lt_irrefl _)) (fun _ => ⟨rfl, hqc⟩),
              hs2.back hklt (.refl _) (hqc ▸ hk) (fun j _ => rfl) (Nat.le_refl _) hkn (hs.nR hk) hout K2 (.inr ⟨g, cap, L', hqc ▸ hk, by rw [a3]; exact hl.put _ hln, a1, a2, hnc, hcm, .here⟩) hgz⟩
          · cases ha
      · cases ha
end
end
section
open Go
section
variable {P : Program} {ρ : Names} {W w : World} {R : Nat → Prop} {st st' : St} {l : Ents}
/-- append, computed. -/
noncomputable def aapp (P : Program) (t tx : TypeId) (s x : Value) (st : St) : Option (Value × St) :=
  match P.underlying t with
  | some (.slice e) => match P.info? e with
    | some i => match i.zero with
      | some z => match Nat.beq z.cells.size i.size with
        | true => match asrc P i.size tx x st.H with
          | some (news, 0) => match s with
            | .slice none n c => if Nat.ble n c then some (s, st) else none
            | .slice (some ⟨_, _, none⟩) _ _ => some (s, st)
            | _ => none
          | some (news, m + 1) => match s with
            | .slice none 0 c => agrow e i.size i.bytes [] news (0 + (m + 1)) c st
            | .slice (some ⟨k, o, none⟩) n c =>
              if Nat.blt c openCap then
                if Nat.ble (n + (m + 1)) c then aroom i.size k o n c (m + 1) news st
                else match readO o (n * i.size) (findO k st.H) with
                  | some olds => agrow e i.size i.bytes olds news (n + (m + 1)) c st
                  | none => none
              else if Nat.beq c openCap then agrown e i.size i.bytes k n (m + 1) news st
              else none
            | _ => none
          | none => none
        | false => none
      | none => none
    | none => none
  | _ => none
theorem aapp_sound (hs : Sim W R w ρ st l) (t tx ty : TypeId) {s s' x x' v : Value} (hsv : VR ρ s s') (hx : VR ρ x x') (ha : aapp P t tx s x st = some (v, st')) :
    ∃ ρ' v' l' w', (Builtin.append_ #[t, tx] ty #[s', x']).run P w = .ok v' w' ∧ NLe ρ ρ' ∧ VR ρ' v v' ∧ Sim W R w' ρ' st' l' := by
  unfold aapp at ha
  split at ha
  · rename_i e ht
    split at ha
    · rename_i i hi
      split at ha
      · rename_i z hz
        split at ha
        · rename_i hzs
          have hzs := Nat.eq_of_beq_eq_true hzs
          split at ha
          · rename_i news hsr
            obtain ⟨news', hsrc, _⟩ := asrc_sound hs hx hsr
            split at ha
            · split at ha
              · rename_i hb
                cases hsv
                cases ha
                exact ⟨ρ, _, l, w, run_append_zero w t tx ty e i ht hi none _ _ x' news' hsrc (Nat.le_of_ble_eq_true hb), .refl _, .slice0 _ _, hs⟩
              · cases ha
            · cases hsv with
              | slice hk hoff hn hm he ho =>
                cases ha
                exact ⟨ρ, _, l, w, run_append_zero w t tx ty e i ht hi _ _ _ x' news' hsrc hn, .refl _, .slice hk hoff hn hm he ho, hs⟩
            · cases ha
          · rename_i news m hsr
            obtain ⟨news', hsrc, hln⟩ := asrc_sound hs hx hsr
            split at ha
            · cases hsv
              exact agrow_sound hs t tx ty e i z ht hi hz hzs none 0 _ (.nil ρ) (by simp) (run_firstCells_none w.drew _ _ _ _) x' hsrc hln ha
            · rename_i k o n c
              split at ha
              · rename_i hc
                have hc : c < openCap := Nat.le_of_ble_eq_true hc
                split at ha
                · exact aroom_sound hs t tx ty e i ht hi hc hsv (Nat.succ_pos _) hsrc hln ha
                · split at ha
                  · rename_i olds hr
                    cases hsv with
                    | slice hk hoff hn hm he ho =>
                      obtain ⟨ds, hl, hlen, h1, hcell⟩ := hs.read hk hr
                      rw [he hc]
                      by_cases hn0 : n = 0
                      · subst hn0
                        rw [Nat.zero_mul] at hlen
                        have hds := List.eq_nil_of_length_eq_zero hlen
                        subst hds
                        exact agrow_sound hs t tx ty e i z ht hi hz hzs _ 0 c hl (by simp) (run_firstCells_some w.drew i.size 0 _ 0 c [] (by simp) (fun j u hu => by simp at hu)) x' hsrc hln ha
                      rw [hoff (.inl (by omega))]
                      exact agrow_sound hs t tx ty e i z ht hi hz hzs _ n c hl hlen (run_firstCells_some w.drew i.size n _ n c ds hlen (fun j u hu => by rw [Addr.add_lit]; exact hcell j u hu)) x' hsrc hln ha
                  · cases ha
              · split at ha
                · rename_i hc
                  have := Nat.eq_of_beq_eq_true hc
                  subst this
                  exact agrown_sound hs t tx ty e i z ht hi hz hzs hsv (Nat.succ_pos _) hsrc hln ha
                · cases ha
            · cases ha
          · cases ha
        · cases ha
      · cases ha
    · cases ha
  · cases ha
end
end
section
open Go
section
variable {P : Program} {ρ : Names} {W w : World} {R : Nat → Prop} {st st' : St} {l : Ents}
/-- Operations that the model itself runs over the computed memory, and their operands. -/
def memOps (P : Program) : Op → Option (List Operand)
  | .move x => some [x]
  | .assign x => some [x]
  | .pick c a b => some [c, a, b]
  | .alloc t => if zeroAt P t then some [] else none
  | .box _ x => some [x]
  | .build t ps => if zeroAt P t then some (ps.toList.map (·.2)) else none
  | .buildSlice t len ps => if Nat.blt len openCap && elemAt P t then some (ps.toList.map (·.2)) else none
  | .load _ a => some [a]
  | .store _ a x => some [a, x]
  | .makeInterface _ x => some [x]
  | .makeFunc _ a b => some (a.toList ++ b.toList)
  | .fieldAddr _ x _ => some [x]
  | .field _ x _ => some [x]
  | .indexAddr _ x y => some [x, y]
  | .extract x _ => some [x]
  | _ => none
theorem pr_parts {ev ev' : Operand → Value} : ∀ ps : List (Nat × Operand), (∀ x ∈ ps.map (·.2), VR ρ (ev x) (ev' x)) → PR ρ (ps.map fun (i, x) => (i, ev x)) (ps.map fun (i, x) => (i, ev' x))
  | [], _ => .nil
  | (i, x) :: ps, h => .cons (h x (by simp)) (pr_parts ps fun y hy => h y (by simp [hy]))
theorem ar_map {ev ev' : Operand → Value} (a : Array Operand) (h : ∀ x ∈ a.toList, VR ρ (ev x) (ev' x)) : AR ρ (a.map ev) (a.map ev') := by
  refine ⟨by simp, fun i x x' hx hx' => ?_⟩
  rw [Array.getElem?_map] at hx hx'
  cases ha : a[i]? with
  | none => rw [ha] at hx; cases hx
  | some y =>
    rw [ha] at hx hx'
    cases hx
    cases hx'
    exact h y (by simpa using Array.mem_of_getElem? ha)
theorem sr_makeInterface (t : TypeId) {v v' : Value} (h : VR ρ v v') : SR P VRr ρ (Instr.makeInterface t v) (Instr.makeInterface t v') := by
  refine sr_eq (sr_und t) fun ρ1 hle d => ?_
  cases d <;> first | exact .pure (.iface t (h.mono hle)) | exact .halt
theorem sr_exec {o : Oper} {ev ev' : Operand → Value} {ops : List Operand} (hp : memOps P o.op = some ops) (h : ∀ x ∈ ops, VR ρ (ev x) (ev' x)) : SR P NxR ρ (execOp ev o) (execOp ev' o) := by
  obtain ⟨dst, op, ty, pos, after, guard⟩ := o
  cases op with
  | move x => cases hp; exact .pure (h x (by simp))
  | assign x => cases hp; exact .pure (h x (by simp))
  | pick c a b =>
    cases hp
    have hc := h c (by simp)
    have ha := h a (by simp)
    have hb := h b (by simp)
    show SR P NxR ρ (Sem.bind (asBool (ev c)) _) (Sem.bind (asBool (ev' c)) _)
    generalize ev c = x at hc ⊢
    generalize ev' c = x' at hc ⊢
    cases hc with
    | bool q => cases q; exact .pure hb; exact .pure ha
    | _ => exact .halt
  | alloc t =>
    simp only [memOps] at hp
    split at hp
    · rename_i hz
      exact sr_v (sr_alloc t hz)
    · cases hp
  | box t x => cases hp; exact sr_v (sr_box t (h x (by simp)))
  | build t ps =>
    simp only [memOps] at hp
    split at hp
    · rename_i hz
      cases hp
      exact sr_v (sr_build t hz (by simp only [Array.toList_map]; exact pr_parts _ h))
    · cases hp
  | buildSlice t len ps =>
    simp only [memOps] at hp
    split at hp
    · rename_i hb
      cases hp
      rw [Bool.and_eq_true] at hb
      have hz := hb.2
      have hb : len < openCap := Nat.le_of_ble_eq_true hb.1
      exact sr_v (sr_buildSlice t hz len ⟨by simp only [maxLen]; unfold openCap at hb; omega, hb⟩ (by simp only [Array.toList_map]; exact pr_parts _ h))
    · cases hp
  | load t a => cases hp; exact sr_v (sr_loadAt t (h a (by simp)))
  | store t a x => cases hp; exact sr_u (sr_storeAt t (h a (by simp)) (h x (by simp)))
  | makeInterface t x => cases hp; exact sr_v (sr_makeInterface t (h x (by simp)))
  | makeFunc f a b =>
    cases hp
    have ha := ar_map a fun x hx => h x (by simp [hx])
    have hb := ar_map b fun x hx => h x (by simp [hx])
    exact .pure (.func f ha.1 ha.2 hb.1 hb.2)
  | fieldAddr t x i => cases hp; exact sr_v (sr_fieldAt t (h x (by simp)) i)
  | field t x i => cases hp; exact sr_v (sr_field t (h x (by simp)) i)
  | indexAddr t x y => cases hp; exact sr_v (sr_indexAt t (h x (by simp)) (h y (by simp)))
  | extract x i => cases hp; exact sr_v (sr_extract (h x (by simp)) i)
  | _ => cases hp
end
end
end Go.Proofs.YtbgdjcoliiinjaaGreat
