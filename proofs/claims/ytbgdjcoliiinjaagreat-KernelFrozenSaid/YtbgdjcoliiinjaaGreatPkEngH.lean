/- Merged: GA, FR, FS, FT, FU, FV, FX, TA, TE, FW, FL, FM, TB. -/
import Derived.Test.YtbgdjcoliiinjaaGreatPkEngF
import Derived.Test.YtbgdjcoliiinjaaGreatPkGenJ
import Derived.Great.BuildSlice
set_option linter.unusedVariables false
set_option linter.unusedSimpArgs false
set_option linter.unusedSectionVars false
namespace Go.Proofs.YtbgdjcoliiinjaaGreat
section
open Go
def FnsOkP (P : Program) (G : Nat) (F : Fns) : Prop :=
  ∀ f args st k, F f args st k = true → ∀ W R ρ (args' : Array Value) w l, LR ρ (args.map X.toV) args'.toList → Glob G ρ → Sim W R w ρ st l →
    Calls P f args' w fun e w' => ∃ x st' ρ' v' l', k x st' = true ∧ e = .returned v' ∧ NLe ρ ρ' ∧ VR ρ' x.toV v' ∧ Sim W R w' ρ' st' l'
theorem FnsOk.p {P : Program} {G : Nat} {F : Fns} (h : FnsOk P G F) : FnsOkP P G F := fun f args st k hf W R ρ args' w l hl hG hs => by
  obtain ⟨x, st', hk, hx⟩ := h f args st k hf
  exact Calls.mono (hx W R ρ args' w l hl hG hs) fun e w' ⟨ρ', v', l', he, hle, hv, hs'⟩ => ⟨x, st', ρ', v', l', hk, he, hle, hv, hs'⟩
abbrev LoudP (D : Nat) := Fns → Fns → Sl D → St → (X → St → Bool) → Bool
def LoudOkP (P : Program) (G D : Nat) (o : Oper) (f : LoudP D) : Prop :=
  ∀ F Fp T st k, FnsOk P G F → FnsOkP P G Fp → f F Fp T st k = true → ∀ W R ρ a w l, OpR ρ T a o → Glob G ρ → Sim W R w ρ st l → ∀ (K : Act → World → Prop) (Q : Exit → Act → World → Prop),
    (∀ x st' ρ' v' w' l', k x st' = true → NLe ρ ρ' → VR ρ' x.toV v' → Sim W R w' ρ' st' l' → K (a.put o.dst v') w') → o.wp P a w K Q
/-! ### Intervals -/
/-- An int's kind (its number) and an interval that it lies in. -/
def ivV : Value → Option (Nat × Int × Int)
  | .int k n => some (kidx k, n, n)
  | .float .f64 i => some (i, -18446744073709551616, 18446744073709551616)
  | .complex .f64 a b => some (a % 8, Int.ofNat (a / 8), Int.ofNat b)
  | .float .f32 n => cond (Nat.beq (n % 2) 1) (some (3, -18446744073709551616, 18446744073709551616)) none
  | _ => none
theorem kidx_lt (k : IntKind) : kidx k < 8 := by cases k <;> decide
theorem kidx_inj {j k : IntKind} (h : kidx j = kidx k) : j = k := by cases j <;> cases k <;> first | rfl | cases h
theorem wrap_bounds {k : IntKind} {n : Int} (h : k.wrap n = n) : -18446744073709551616 ≤ n ∧ n ≤ 18446744073709551616 := by
  rw [← h]
  cases k <;> simp only [IntKind.wrap, IntKind.bits, IntKind.signed] <;> simp <;> omega
theorem ivV_sound {ρ : Names} {v v' : Value} (h : VR ρ v v') {i : Nat} {lo hi : Int} (he : ivV v = some (i, lo, hi)) : ∃ k n, v' = .int k n ∧ kidx k = i ∧ lo ≤ n ∧ n ≤ hi := by
  cases h with
  | int k n => cases he; exact ⟨k, _, rfl, rfl, Int.le_refl _, Int.le_refl _⟩
  | @anyI k n hw =>
    cases he
    exact ⟨k, n, rfl, rfl, (wrap_bounds hw).1, (wrap_bounds hw).2⟩
  | @rng k a b n h1 h2 hw =>
    have he : some ((a * 8 + kidx k) % 8, Int.ofNat ((a * 8 + kidx k) / 8), Int.ofNat b) = some (i, lo, hi) := he
    have hk := kidx_lt k
    rw [show (a * 8 + kidx k) % 8 = kidx k by omega, show (a * 8 + kidx k) / 8 = a by omega] at he
    cases he
    exact ⟨k, n, rfl, rfl, Int.ofNat_le.2 h1, Int.ofNat_le.2 h2⟩
  | @ptrU k g o lo hi' c hk h1 h2 hl hh =>
    have he : cond (Nat.beq ((((k * 4096 + lo) * 4096 + hi') * 2) % 2) 1) (some (3, (-18446744073709551616 : Int), (18446744073709551616 : Int))) none = some (i, _, _) := he
    rw [show (((k * 4096 + lo) * 4096 + hi') * 2) % 2 = 0 by omega] at he
    cases he
  | @symN k p hk hw =>
    have he : cond (Nat.beq ((k * 2 + 1) % 2) 1) (some (3, (-18446744073709551616 : Int), (18446744073709551616 : Int))) none = some (i, _, _) := he
    rw [show (k * 2 + 1) % 2 = 1 by omega] at he
    cases he
    exact ⟨.i64, _, rfl, rfl, (wrap_bounds hw).1, (wrap_bounds hw).2⟩
  | _ => cases he
/-- One way, the other, or both. -/
inductive Way
  | t | f | both
def ltW (h1 l2 h2 l1 : Int) : Way := cond (decide (h1 < l2)) .t (cond (decide (h2 ≤ l1)) .f .both)
def leW (h1 l2 h2 l1 : Int) : Way := cond (decide (h1 ≤ l2)) .t (cond (decide (h2 < l1)) .f .both)
def eqW (l1 h1 l2 h2 : Int) : Way := cond (decide (h1 < l2) || decide (h2 < l1)) .f (cond (decide (l1 = h1) && (decide (l2 = h2) && decide (l1 = l2))) .t .both)
def Way.not : Way → Way
  | .t => .f
  | .f => .t
  | .both => .both
def Way.has : Way → Bool → Prop
  | .t, b => b = true
  | .f, b => b = false
  | .both, _ => True
def wayOf (op : BinOp) (l1 h1 l2 h2 : Int) : Option Way := match op with
  | .lss => some (ltW h1 l2 h2 l1)
  | .leq => some (leW h1 l2 h2 l1)
  | .gtr => some (ltW h2 l1 h1 l2)
  | .geq => some (leW h2 l1 h1 l2)
  | .eql => some (eqW l1 h1 l2 h2)
  | .neq => some (eqW l1 h1 l2 h2).not
  | _ => none
theorem Way.has_not {w : Way} {b : Bool} (h : w.has b) : w.not.has (!b) := by
  cases w <;> cases b <;> first | rfl | trivial | cases h
theorem ltW_has {m n l1 h1 l2 h2 : Int} (a : l1 ≤ m) (b : m ≤ h1) (c : l2 ≤ n) (d : n ≤ h2) : (ltW h1 l2 h2 l1).has (decide (m < n)) := by
  unfold ltW
  by_cases h : h1 < l2
  · rw [decide_eq_true h]; exact decide_eq_true (by omega)
  · rw [decide_eq_false h]
    by_cases h' : h2 ≤ l1
    · rw [decide_eq_true h']; exact decide_eq_false (by omega)
    · rw [decide_eq_false h']; trivial
theorem leW_has {m n l1 h1 l2 h2 : Int} (a : l1 ≤ m) (b : m ≤ h1) (c : l2 ≤ n) (d : n ≤ h2) : (leW h1 l2 h2 l1).has (decide (m ≤ n)) := by
  unfold leW
  by_cases h : h1 ≤ l2
  · rw [decide_eq_true h]; exact decide_eq_true (by omega)
  · rw [decide_eq_false h]
    by_cases h' : h2 < l1
    · rw [decide_eq_true h']; exact decide_eq_false (by omega)
    · rw [decide_eq_false h']; trivial
theorem eqW_has {m n l1 h1 l2 h2 : Int} (a : l1 ≤ m) (b : m ≤ h1) (c : l2 ≤ n) (d : n ≤ h2) : (eqW l1 h1 l2 h2).has (m == n) := by
  unfold eqW
  by_cases h : h1 < l2 ∨ h2 < l1
  · have e : (decide (h1 < l2) || decide (h2 < l1)) = true := by simpa using h
    rw [e]
    show (m == n) = false
    simp only [beq_eq_false_iff_ne, ne_eq]; omega
  · have e : (decide (h1 < l2) || decide (h2 < l1)) = false := by simpa using h
    rw [e]
    by_cases h' : l1 = h1 ∧ l2 = h2 ∧ l1 = l2
    · have e' : (decide (l1 = h1) && (decide (l2 = h2) && decide (l1 = l2))) = true := by simpa using h'
      rw [e']
      show (m == n) = true
      simp only [beq_iff_eq]; omega
    · have e' : (decide (l1 = h1) && (decide (l2 = h2) && decide (l1 = l2))) = false := by simpa using h'
      rw [e']; trivial
theorem wayOf_has {P : Program} {op : BinOp} {t : TypeId} {k : IntKind} {m n l1 h1 l2 h2 : Int} {q : Way} (h : wayOf op l1 h1 l2 h2 = some q) (a : l1 ≤ m) (b : m ≤ h1) (c : l2 ≤ n) (d : n ≤ h2) :
    ∃ r, q.has r ∧ ∀ w, (binOp op t (.int k m) (.int k n)).run P w = .ok (.bool r) w := by
  cases op <;> first | (cases h; done) | skip
  · cases h
    exact ⟨_, eqW_has a b c d, fun w => by rw [run_int2 _ _ _ _ _ (by intro q; cases q) (by intro q; cases q)]; rfl⟩
  · cases h
    exact ⟨_, Way.has_not (eqW_has a b c d), fun w => by rw [run_int2 _ _ _ _ _ (by intro q; cases q) (by intro q; cases q)]; rfl⟩
  · cases h
    exact ⟨_, ltW_has a b c d, fun w => by rw [run_int2 _ _ _ _ _ (by intro q; cases q) (by intro q; cases q)]; rfl⟩
  · cases h
    exact ⟨_, leW_has a b c d, fun w => by rw [run_int2 _ _ _ _ _ (by intro q; cases q) (by intro q; cases q)]; rfl⟩
  · cases h
    exact ⟨_, ltW_has c d a b, fun w => by rw [run_int2 _ _ _ _ _ (by intro q; cases q) (by intro q; cases q)]; rfl⟩
  · cases h
    exact ⟨_, leW_has c d a b, fun w => by rw [run_int2 _ _ _ _ _ (by intro q; cases q) (by intro q; cases q)]; rfl⟩
end
section
open Go
def symV : Value → Bool
  | .float .. | .complex .. => true
  | _ => false
noncomputable def symX (x : X) : Bool := X.rec (motive := fun _ => Bool) (fun v => V.rec (motive := fun _ => Bool) (fun _ => false) (fun _ _ => false) (fun _ _ => false) (fun _ _ => false) (fun _ _ _ _ => false) (fun u => symV u) v) (fun _ => false) (fun _ _ _ => false) false (fun _ _ _ _ => false) (fun _ => false) x
/-- The kind of that number. -/
def kofI : Nat → IntKind
  | 0 => .i8
  | 1 => .i16
  | 2 => .i32
  | 3 => .i64
  | 4 => .u8
  | 5 => .u16
  | 6 => .u32
  | _ => .u64
theorem kofI_kidx (k : IntKind) : kofI (kidx k) = k := by cases k <;> rfl
/-- An interval of what the operation answers, before it is wrapped. -/
def arI (op : BinOp) (l1 h1 l2 h2 : Int) : Option (Int × Int) := match op with
  | .add => some (l1 + l2, h1 + h2)
  | .sub => some (l1 - h2, h1 - l2)
  | .rem => cond (decide (0 < l2)) (cond (decide (0 ≤ l1)) (some (0, h2 - 1)) (some (-h2, h2))) none
  | .mul | .and | .or | .xor | .andNot => some (-18446744073709551616, 18446744073709551616)
  | .quo => cond (decide (0 < l2)) (some (-Int.ofNat (Nat.add l1.natAbs h1.natAbs), Int.ofNat (Nat.add l1.natAbs h1.natAbs))) none
  | _ => none
/-- The value of an interval. -/
def ofIv (i : Nat) (lo hi : Int) : V := cond (decide (0 ≤ lo) && decide (hi < (kcap (kofI i) : Int))) (cond (decide (lo = hi)) (.int (kofI i) lo.toNat) (.oth (.complex .f64 (lo.toNat * 8 + i) hi.toNat))) (.oth (.float .f64 i))
theorem wrap_wrap (k : IntKind) (n : Int) : k.wrap (k.wrap n) = k.wrap n := by
  cases k <;> simp only [IntKind.wrap, IntKind.bits, IntKind.signed] <;> simp <;> omega
theorem ofIv_rel {ρ : Names} {k : IntKind} {n m lo hi : Int} (h1 : lo ≤ n) (h2 : n ≤ hi) (hm : m = k.wrap n ∨ (m = n ∧ k.wrap n = n)) : VR ρ (ofIv (kidx k) lo hi).toV (.int k m) := by
  have hw : k.wrap m = m := by
    rcases hm with h | ⟨h, h'⟩
    · rw [h, wrap_wrap]
    · rw [h]; exact h'
  unfold ofIv
  rw [kofI_kidx]
  cases hb : (decide (0 ≤ lo) && decide (hi < (kcap k : Int))) with
  | false => exact .anyI hw
  | true =>
    rw [Bool.and_eq_true] at hb
    have b1 := of_decide_eq_true hb.1
    have b2 := of_decide_eq_true hb.2
    have hn : m = ((n.toNat : Nat) : Int) := by
      have e : ((n.toNat : Nat) : Int) = n := Int.toNat_of_nonneg (by omega)
      rcases hm with h | ⟨h, _⟩
      · rw [h, ← e]; exact wrap_nat (by omega)
      · rw [h, e]
    rw [hn] at hw ⊢
    by_cases he : lo = hi
    · rw [decide_eq_true he]
      have e2 : lo.toNat = n.toNat := by omega
      show VR ρ (.int k (lo.toNat : Int)) _
      rw [e2]
      exact .int k _
    · rw [decide_eq_false he]
      exact .rng (by omega) (by omega) hw
theorem emod_le0 {a b : Int} (ha : 0 ≤ a) (hb : 0 < b) : a % b ≤ a := by
  have h1 := Int.emod_add_mul_ediv a b
  have h2 : 0 ≤ b * (a / b) := Int.mul_nonneg (by omega) (Int.ediv_nonneg ha (by omega))
  omega
theorem tmod_wrap {k : IntKind} {m n : Int} (h : k.wrap m = m) (h0 : 0 < n) : k.wrap (m.tmod n) = m.tmod n := by
  have hb : (0 ≤ m → 0 ≤ m.tmod n ∧ m.tmod n ≤ m) ∧ (m ≤ 0 → m ≤ m.tmod n ∧ m.tmod n ≤ 0) := by
    constructor
    · intro h
      exact ⟨Int.tmod_nonneg _ h, by rw [Int.tmod_eq_emod_of_nonneg h]; exact emod_le0 h h0⟩
    · intro h
      have e : m.tmod n = -((-m).tmod n) := by rw [Int.neg_tmod, Int.neg_neg]
      have h2 : 0 ≤ -m := by omega
      have h3 := Int.tmod_nonneg n h2
      have h4 : (-m).tmod n ≤ -m := by rw [Int.tmod_eq_emod_of_nonneg h2]; exact emod_le0 h2 h0
      rw [e]
      constructor <;> omega
  generalize m.tmod n = r at hb ⊢
  by_cases hm : 0 ≤ m
  · have := hb.1 hm
    revert h
    cases k <;> simp only [IntKind.wrap, IntKind.bits, IntKind.signed] <;> simp <;> omega
  · have := hb.2 (by omega)
    revert h
    cases k <;> simp only [IntKind.wrap, IntKind.bits, IntKind.signed] <;> simp <;> omega
/-! ### Operations on what is unknown -/
noncomputable def wayV (w : Option Way) (k : X → Bool) : Bool := match w with
  | some .t => k (.sc (.bool true))
  | some .f => k (.sc (.bool false))
  | _ => false
noncomputable def arV (op : BinOp) (x y : X) (k : X → Bool) : Bool := match ivV x.toV, ivV y.toV with
  | some (i, l1, h1), some (j, l2, h2) => match op with
    | .shl => cond (decide (0 ≤ l2) || Nat.ble 4 j) (k (.sc (.oth (.float .f64 i)))) false
    | op => cond (Nat.beq i j) (match arI op l1 h1 l2 h2 with
      | some (lo, hi) => k (.sc (ofIv i lo hi))
      | none => wayV (wayOf op l1 h1 l2 h2) k) false
  | _, _ => false
section
variable {P : Program} {G D : Nat} {o : Oper} {a : Act}
theorem run_bin2 {op : BinOp} {t t2 : TypeId} {x y : Operand} (hop : o.op = .binOp op t x y t2) {k k' : IntKind} {m n : Int} (hx : a.eval x = .int k m) (hy : a.eval y = .int k' n) {v : Value} (h : ∀ w, (binOp op t (.int k m) (.int k' n)).run P w = .ok v w) (w : World) : (execOp a.eval o).run P w = .ok (.value v) w := by
  unfold execOp
  simp only [hop, hx, hy]
  rw [Sem.run_bind, Sem.run_bind]
  have e : (eqGuard op t x y (.int k m) (.int k' n)).run P w = .ok () w := by
    unfold eqGuard
    cases op <;> rfl
  rw [e, Result.andThen_ok, h w]
  rfl
theorem arI_sound {P : Program} {op : BinOp} {t : TypeId} {k : IntKind} {m n l1 h1 l2 h2 lo hi : Int} (h : arI op l1 h1 l2 h2 = some (lo, hi)) (hm : k.wrap m = m) (a : l1 ≤ m) (b : m ≤ h1) (c : l2 ≤ n) (d : n ≤ h2) :
    ∃ r q : Int, lo ≤ r ∧ r ≤ hi ∧ (q = k.wrap r ∨ (q = r ∧ k.wrap r = r)) ∧ ∀ w, (binOp op t (.int k m) (.int k n)).run P w = .ok (.int k q) w := by
  cases op <;> first | (cases h; done) | skip
  · cases h
    exact ⟨m + n, k.wrap (m + n), by omega, by omega, .inl rfl, fun w => by rw [run_int2 _ _ _ _ _ (by intro q; cases q) (by intro q; cases q)]; rfl⟩
  · cases h
    exact ⟨m - n, k.wrap (m - n), by omega, by omega, .inl rfl, fun w => by rw [run_int2 _ _ _ _ _ (by intro q; cases q) (by intro q; cases q)]; rfl⟩
  · cases h
    exact ⟨k.wrap (m * n), k.wrap (m * n), (wrap_bounds (wrap_wrap k _)).1, (wrap_bounds (wrap_wrap k _)).2, .inr ⟨rfl, wrap_wrap k _⟩, fun w => by rw [run_int2 _ _ _ _ _ (by intro q; cases q) (by intro q; cases q)]; rfl⟩
  · unfold arI at h
    dsimp only at h
    by_cases h0 : 0 < l2
    · rw [decide_eq_true h0, cond_true] at h
      have hn : 0 < n := by omega
      cases h
      have hq : (m.tdiv n).natAbs ≤ m.natAbs := by rw [Int.natAbs_tdiv]; exact Nat.div_le_self _ _
      have hm2 : m.natAbs ≤ l1.natAbs + h1.natAbs := by omega
      refine ⟨m.tdiv n, k.wrap (m.tdiv n), ?_, ?_, .inl rfl, fun w => ?_⟩
      · show -(((l1.natAbs + h1.natAbs : Nat)) : Int) ≤ _
        omega
      · show _ ≤ (((l1.natAbs + h1.natAbs : Nat)) : Int)
        omega
      · rw [run_int2 _ _ _ _ _ (by intro q; cases q) (by intro q; cases q)]
        show (Op.intDiv .quo k m n).run P w = _
        unfold Op.intDiv
        rw [if_neg (by omega)]
        rfl
    · rw [decide_eq_false h0] at h; cases h
  · unfold arI at h
    dsimp only at h
    by_cases h0 : 0 < l2
    · rw [decide_eq_true h0, cond_true] at h
      have hn : 0 < n := by omega
      have b1 : m.tmod n < n := Int.tmod_lt_of_pos m hn
      have b2 : -n < m.tmod n := Int.lt_tmod_of_pos m hn
      refine ⟨m.tmod n, m.tmod n, ?_, ?_, .inr ⟨rfl, tmod_wrap hm hn⟩, fun w => ?_⟩
      · by_cases h3 : 0 ≤ l1
        · rw [decide_eq_true h3] at h
          cases h
          exact Int.tmod_nonneg _ (by omega)
        · rw [decide_eq_false h3] at h
          cases h; omega
      · by_cases h3 : 0 ≤ l1
        · rw [decide_eq_true h3] at h
          cases h; omega
        · rw [decide_eq_false h3] at h
          cases h; omega
      · rw [run_int2 _ _ _ _ _ (by intro q; cases q) (by intro q; cases q)]
        show (Op.intDiv .rem k m n).run P w = _
        unfold Op.intDiv
        rw [if_neg (by omega)]
        rfl
    · rw [decide_eq_false h0] at h; cases h
  · cases h
    exact ⟨k.wrap (((BitVec.ofInt k.bits m &&& BitVec.ofInt k.bits n).toNat : Int)), k.wrap (((BitVec.ofInt k.bits m &&& BitVec.ofInt k.bits n).toNat : Int)), (wrap_bounds (wrap_wrap k _)).1, (wrap_bounds (wrap_wrap k _)).2, .inr ⟨rfl, wrap_wrap k _⟩, fun w => by rw [run_int2 _ _ _ _ _ (by intro q; cases q) (by intro q; cases q)]; rfl⟩
  · cases h
    exact ⟨k.wrap (((BitVec.ofInt k.bits m ||| BitVec.ofInt k.bits n).toNat : Int)), k.wrap (((BitVec.ofInt k.bits m ||| BitVec.ofInt k.bits n).toNat : Int)), (wrap_bounds (wrap_wrap k _)).1, (wrap_bounds (wrap_wrap k _)).2, .inr ⟨rfl, wrap_wrap k _⟩, fun w => by rw [run_int2 _ _ _ _ _ (by intro q; cases q) (by intro q; cases q)]; rfl⟩
  · cases h
    exact ⟨k.wrap (((BitVec.ofInt k.bits m ^^^ BitVec.ofInt k.bits n).toNat : Int)), k.wrap (((BitVec.ofInt k.bits m ^^^ BitVec.ofInt k.bits n).toNat : Int)), (wrap_bounds (wrap_wrap k _)).1, (wrap_bounds (wrap_wrap k _)).2, .inr ⟨rfl, wrap_wrap k _⟩, fun w => by rw [run_int2 _ _ _ _ _ (by intro q; cases q) (by intro q; cases q)]; rfl⟩
  · cases h
    exact ⟨k.wrap (((BitVec.ofInt k.bits m &&& ~~~(BitVec.ofInt k.bits n)).toNat : Int)), k.wrap (((BitVec.ofInt k.bits m &&& ~~~(BitVec.ofInt k.bits n)).toNat : Int)), (wrap_bounds (wrap_wrap k _)).1, (wrap_bounds (wrap_wrap k _)).2, .inr ⟨rfl, wrap_wrap k _⟩, fun w => by rw [run_int2 _ _ _ _ _ (by intro q; cases q) (by intro q; cases q)]; rfl⟩
theorem ivV_wf {ρ : Names} {x : X} {v' : Value} (hs : symX x = true) (h : VR ρ x.toV v') {i : Nat} {lo hi : Int} (he : ivV x.toV = some (i, lo, hi)) : ∃ k n, v' = .int k n ∧ kidx k = i ∧ lo ≤ n ∧ n ≤ hi ∧ k.wrap n = n := by
  generalize hx : x.toV = v at h he
  cases h with
  | int k n =>
    exfalso
    cases x with
    | sc u =>
      cases u with
      | oth q =>
        have hs : symV q = true := hs
        have hx : cond q.oneCell' q (.bool false) = .int k n := hx
        cases ho : q.oneCell' with
        | false => rw [ho] at hx; cases hx
        | true => rw [ho] at hx; have hx : q = .int k n := hx; rw [hx] at hs; cases hs
      | _ => cases hs
    | _ => cases hs
  | @anyI k n hw =>
    cases he
    exact ⟨k, n, rfl, rfl, (wrap_bounds hw).1, (wrap_bounds hw).2, hw⟩
  | @rng k a b n h1 h2 hw =>
    have he : some ((a * 8 + kidx k) % 8, Int.ofNat ((a * 8 + kidx k) / 8), Int.ofNat b) = some (i, lo, hi) := he
    have hk := kidx_lt k
    rw [show (a * 8 + kidx k) % 8 = kidx k by omega, show (a * 8 + kidx k) / 8 = a by omega] at he
    cases he
    exact ⟨k, n, rfl, rfl, Int.ofNat_le.2 h1, Int.ofNat_le.2 h2, hw⟩
  | @ptrU k g o lo hi' c hk h1 h2 hl hh =>
    have he : cond (Nat.beq ((((k * 4096 + lo) * 4096 + hi') * 2) % 2) 1) (some (3, (-18446744073709551616 : Int), (18446744073709551616 : Int))) none = some (i, _, _) := he
    rw [show (((k * 4096 + lo) * 4096 + hi') * 2) % 2 = 0 by omega] at he
    cases he
  | @symN k p hk hw =>
    have he : cond (Nat.beq ((k * 2 + 1) % 2) 1) (some (3, (-18446744073709551616 : Int), (18446744073709551616 : Int))) none = some (i, _, _) := he
    rw [show (k * 2 + 1) % 2 = 1 by omega] at he
    cases he
    exact ⟨.i64, _, rfl, rfl, (wrap_bounds hw).1, (wrap_bounds hw).2, hw⟩
  | _ => cases he
/-- A known int of the kind. -/
noncomputable def litX (x : X) : Bool := match x with
  | .sc (.int k n) => Nat.blt n (kcap k)
  | _ => false
theorem lit_wf {ρ : Names} {x : X} {v' : Value} (hs : litX x = true) (h : VR ρ x.toV v') {i : Nat} {lo hi : Int} (he : ivV x.toV = some (i, lo, hi)) : ∃ k n, v' = .int k n ∧ kidx k = i ∧ lo ≤ n ∧ n ≤ hi ∧ k.wrap n = n := by
  unfold litX at hs
  split at hs
  · rename_i k n
    have h : VR ρ (.int k (n : Int)) v' := h
    have he : some (kidx k, (n : Int), (n : Int)) = some (i, lo, hi) := he
    cases he
    cases h
    exact ⟨k, _, rfl, rfl, Int.le_refl _, Int.le_refl _, wrap_nat (Nat.le_of_ble_eq_true hs)⟩
  · cases hs
noncomputable def okX (x : X) : Bool := symX x || litX x
theorem ok_wf {ρ : Names} {x : X} {v' : Value} (hs : okX x = true) (h : VR ρ x.toV v') {i : Nat} {lo hi : Int} (he : ivV x.toV = some (i, lo, hi)) : ∃ k n, v' = .int k n ∧ kidx k = i ∧ lo ≤ n ∧ n ≤ hi ∧ k.wrap n = n := by
  unfold okX at hs
  cases h1 : symX x with
  | true => exact ivV_wf h1 h he
  | false => rw [h1] at hs; exact lit_wf hs h he
theorem uns_pos {k : IntKind} {n : Int} (h : 4 ≤ kidx k) (hw : k.wrap n = n) : 0 ≤ n := by
  cases k <;> simp only [kidx] at h <;> first | omega | (simp only [IntKind.wrap, IntKind.bits, IntKind.signed] at hw; simp at hw; omega)
theorem arV_ok {op : BinOp} {t t2 : TypeId} {x y : Operand} (hop : o.op = .binOp op t x y t2) {T : Sl D} {k : X → Bool} (h : cond (okX (evX T x) && okX (evX T y)) (arV op (evX T x) (evX T y) k) false = true) :
    ∃ u, k u = true ∧ Ans P G D o T u := by
  cases hw : (okX (evX T x) && okX (evX T y)) with
  | false => rw [hw] at h; cases h
  | true =>
    rw [hw, cond_true] at h
    rw [Bool.and_eq_true] at hw
    unfold arV at h
    split at h
    · rename_i i l1 u1 j l2 u2 e1 e2
      have ops : ∀ {ρ : Names} {a : Act}, OpR ρ T a o → (∃ k m, a.eval x = .int k m ∧ kidx k = i ∧ l1 ≤ m ∧ m ≤ u1 ∧ k.wrap m = m) ∧ (∃ k n, a.eval y = .int k n ∧ kidx k = j ∧ l2 ≤ n ∧ n ≤ u2 ∧ k.wrap n = n) := fun hO =>
        ⟨ok_wf hw.1 (hO x (by rw [hop]; simp [Op.operands])) e1, ok_wf hw.2 (hO y (by rw [hop]; simp [Op.operands])) e2⟩
      split at h
      · cases h0 : (decide (0 ≤ l2) || Nat.ble 4 j) with
        | true =>
          rw [h0] at h
          refine ⟨_, h, fun ρ a hO hG => ?_⟩
          obtain ⟨⟨kd, m, ex, hk, _, _, hm⟩, ⟨kd2, n, ey, hk2, hn, _, hw2⟩⟩ := ops hO
          have h0 : ¬ n < 0 := by
            rw [Bool.or_eq_true] at h0
            rcases h0 with h0 | h0
            · have := of_decide_eq_true h0; omega
            · have := uns_pos (k := kd2) (by rw [hk2]; exact Nat.le_of_ble_eq_true h0) hw2; omega
          refine ⟨.int kd (kd.wrap (m * 2 ^ (min n.toNat kd.bits))), by rw [← hk]; exact .anyI (wrap_wrap _ _), fun w => run_bin2 hop ex ey (fun w => ?_) w⟩
          show (Op.shift .shl kd m kd2 n).run P w = _
          unfold Op.shift
          rw [if_neg h0]
          rfl
        | false => rw [h0] at h; cases h
      · rename_i op' hne
        cases hb : Nat.beq i j with
        | false => rw [hb] at h; cases h
        | true =>
          rw [hb, cond_true] at h
          have hij := Nat.eq_of_beq_eq_true hb
          split at h
          · rename_i lo hi har
            refine ⟨_, h, fun ρ a hO hG => ?_⟩
            obtain ⟨⟨kd, m, ex, hk, a1, a2, hm⟩, ⟨kd2, n, ey, hk2, b1, b2, _⟩⟩ := ops hO
            have : kd = kd2 := kidx_inj (by rw [hk, hk2, hij])
            subst this
            obtain ⟨r, q, c1, c2, hq, hrun⟩ := arI_sound (P := P) (t := t) har hm a1 a2 b1 b2
            exact ⟨_, by rw [← hk]; exact ofIv_rel c1 c2 hq, fun w => run_bin2 hop ex ey hrun w⟩
          · unfold wayV at h
            have fin : ∀ (q : Way) (b : Bool), wayOf op l1 u1 l2 u2 = some q → (∀ r, q.has r → r = b) → k (.sc (.bool b)) = true → ∃ u, k u = true ∧ Ans P G D o T u := by
              intro q b hq hu hk
              refine ⟨_, hk, fun ρ a hO hG => ?_⟩
              obtain ⟨⟨kd, m, ex, hk, a1, a2, hm⟩, ⟨kd2, n, ey, hk2, b1, b2, _⟩⟩ := ops hO
              have : kd = kd2 := kidx_inj (by rw [hk, hk2, hij])
              subst this
              obtain ⟨r, hr, hrun⟩ := wayOf_has (P := P) (t := t) hq a1 a2 b1 b2
              rw [hu r hr] at hrun
              exact ⟨_, .bool b, fun w => run_bin2 hop ex ey hrun w⟩
            split at h
            · rename_i hq; exact fin .t true hq (fun r hr => hr) h
            · rename_i hq; exact fin .f false hq (fun r hr => hr) h
            · cases h
    · cases h
/-- The int kind of a type. -/
def intKindOf (P : Program) (t : TypeId) : Option IntKind := match P.underlying t with
  | some (.int k) => some k
  | _ => none
def hasType (P : Program) (t : TypeId) : Bool := (P.underlying t).isSome
noncomputable def cvV (kd : IntKind) (x : X) (k : X → Bool) : Bool := match ivV x.toV with
  | some (_, lo, hi) => k (.sc (ofIv (kidx kd) lo hi))
  | none => false
noncomputable def pureT (P : Program) (G D : Nat) (o : Oper) : Box (PureC D) := match o.op with
  | .binOp op _ x y _ => bx (pureS P G D o) fun f => bx (evC D x) fun ex => bx (evC D y) fun ey => ⟨fun T k => cond (symX (ex T) || symX (ey T)) (cond (okX (ex T) && okX (ey T)) (arV op (ex T) (ey T) k) false) (f T k)⟩
  | .convert s t x => match intKindOf P t with
    | some kd => cond (hasType P s) (bx (pureS P G D o) fun f => bx (evC D x) fun ex => ⟨fun T k => cond (symX (ex T)) (cvV kd (ex T) k) (f T k)⟩) (pureS P G D o)
    | none => pureS P G D o
  | _ => pureS P G D o
theorem pureT_ok (hs : notSelect o = true) : PureOk P G D o (pureT P G D o).f := by
  have gen := pureS_ok (P := P) (G := G) (D := D) (o := o) hs
  unfold pureT
  split
  · rename_i op t x y t2 hop
    rw [bx_f, bx_f, bx_f]
    intro T k h
    have h : cond (symX (evX T x) || symX (evX T y)) (cond (okX (evX T x) && okX (evX T y)) (arV op (evX T x) (evX T y) k) false) ((pureS P G D o).f T k) = true := h
    cases hb : (symX (evX T x) || symX (evX T y)) with
    | false => rw [hb] at h; exact gen T k h
    | true => rw [hb, cond_true] at h; exact arV_ok hop h
  · rename_i s t x hop
    split
    · rename_i kd hkd
      cases hht : hasType P s with
      | false => exact gen
      | true =>
        rw [cond_true, bx_f, bx_f]
        intro T k h
        have h : cond (symX (evX T x)) (cvV kd (evX T x) k) ((pureS P G D o).f T k) = true := h
        cases hb : symX (evX T x) with
        | false => rw [hb] at h; exact gen T k h
        | true =>
          rw [hb, cond_true] at h
          unfold cvV at h
          split at h
          · rename_i i lo hi he
            refine ⟨_, h, fun ρ a hO hG => ?_⟩
            obtain ⟨k2, n, ex, _, a1, a2, _⟩ := ivV_wf hb (hO x (by rw [hop]; simp [Op.operands])) he
            refine ⟨.int kd (kd.wrap n), ofIv_rel a1 a2 (.inl rfl), fun w => ?_⟩
            unfold intKindOf at hkd
            split at hkd
            · rename_i k3 hu
              cases hkd
              unfold hasType at hht
              cases hq : P.underlying s with
              | none => rw [hq] at hht; cases hht
              | some us =>
                simp only [execOp, hop, ex]
                refine exec_v ?_
                unfold convert
                simp only [Sem.run_bind, run_underlying hq, run_underlying hu, Result.andThen_ok]
                rfl
            · cases hkd
          · cases h
    · exact gen
  · exact gen
end
end
section
open Go
section
variable {P : Program} {G D : Nat} {o : Oper}
def isMakeMap : Op → Bool
  | .makeMap _ none => true
  | _ => false
end
end
section
open Go
section
variable {P : Program} {ρ : Names} {G D : Nat} {o : Oper}
noncomputable def onBool (x : X) (kn : Bool → Bool) (d : Bool) : Bool := X.rec (motive := fun _ => Bool) (fun v => V.rec (motive := fun _ => Bool) (fun b => kn b) (fun _ _ => d) (fun _ _ => d) (fun _ _ => d) (fun _ _ _ _ => d) (fun _ => d) v) (fun _ => d) (fun _ _ _ => d) d (fun _ _ _ _ => d) (fun _ => d) x
theorem onBool_ways {x : X} {kn : Bool → Bool} {d : Bool} (h : onBool x kn d = true) : (∃ b, x = .sc (.bool b) ∧ kn b = true) ∨ d = true := by
  cases x with
  | sc v => cases v with
    | bool b => exact .inl ⟨_, rfl, h⟩
    | _ => exact .inr h
  | _ => exact .inr h
noncomputable def nilU (u : Value) (kn : Nat → Bool) (d : Bool) : Bool := match u with
  | .slice none n _ => kn n
  | _ => d
noncomputable def onNil (x : X) (kn : Nat → Bool) (d : Bool) : Bool := X.rec (motive := fun _ => Bool) (fun v => V.rec (motive := fun _ => Bool) (fun _ => d) (fun _ _ => d) (fun _ _ => d) (fun _ _ => d) (fun _ _ _ _ => d) (fun u => nilU u kn d) v) (fun _ => d) (fun _ _ _ => d) d (fun _ _ _ _ => d) (fun _ => d) x
theorem onNil_ways {x : X} {kn : Nat → Bool} {d : Bool} (h : onNil x kn d = true) : (∃ n c, x.toV = .slice none n c ∧ kn n = true) ∨ d = true := by
  cases x with
  | sc v => cases v with
    | oth u =>
      have h : nilU u kn d = true := h
      unfold nilU at h
      split at h
      · exact .inl ⟨_, _, rfl, h⟩
      · exact .inr h
    | _ => exact .inr h
  | _ => exact .inr h
noncomputable def nthX (x : X) (kn : X → Bool) (d : Bool) : Nat → Bool := X.rec (motive := fun _ => Nat → Bool) (fun _ _ => d) (fun _ _ => d) (fun _ _ _ _ => d) (fun _ => d) (fun h _ _ ih i => Nat.rec (motive := fun _ => Bool) (kn h) (fun i _ => ih i) i) (fun _ _ => d) x
theorem nthX_ways {kn : X → Bool} {d : Bool} : ∀ {x : X} {i : Nat}, nthX x kn d i = true → (∃ y, x.both.2[i]? = some y.toV ∧ kn y = true) ∨ d = true := by
  intro x
  induction x with
  | cons h t _ ih =>
    intro i hh
    cases i with
    | zero => exact .inl ⟨h, rfl, hh⟩
    | succ i => exact ih hh
  | _ => intro i hh; exact .inr hh
theorem bool_of {x : X} {b : Bool} {v : Value} (e : x = .sc (.bool b)) (h : VR ρ x.toV v) : v = .bool b := by
  subst e
  have h : VR ρ (.bool b) v := h
  cases h; rfl
/-! ### A struct that is built -/
theorem lay_put : ∀ (vs : List Value) (k off : Nat) (cs : Array Value), off + k + vs.length ≤ cs.size → ((vs.zipIdx k).foldl (fun cs x => cs.setIfInBounds (off + x.2) x.1) cs).toList = put cs.toList (off + k) vs
  | [], k, off, cs, h => by
    show cs.toList = _
    unfold put
    simp
  | v :: vs, k, off, cs, h => by
    have h : off + k + (vs.length + 1) ≤ cs.size := h
    rw [List.zipIdx_cons, List.foldl_cons, lay_put vs (k + 1) off _ (by rw [Array.size_setIfInBounds]; omega)]
    apply List.ext_getElem?
    intro j
    have e1 : ((cs.setIfInBounds (off + k) v).toList).length = cs.size := by simp
    rw [put_get _ _ _ (by rw [e1]; omega), put_get _ _ _ (by simp; omega)]
    simp only [Array.toList_setIfInBounds, List.length_cons]
    by_cases h1 : off + (k + 1) ≤ j ∧ j < off + (k + 1) + vs.length
    · rw [if_pos h1, if_pos (by omega), show j - (off + k) = (j - (off + (k + 1))) + 1 from by omega, List.getElem?_cons_succ]
    · rw [if_neg h1, List.getElem?_set]
      by_cases h2 : off + k = j
      · rw [if_pos h2, if_pos (by simp; omega), if_pos (by omega), show j - (off + k) = 0 from by omega]
        rfl
      · rw [if_neg h2, if_neg (by omega)]
/-- A part's cells go into a tree. -/
noncomputable def layX {d : Nat} (x : X) (off sz : Nat) (t : Nd V d) (k : Nd V d → Bool) : Bool := X.rec (motive := fun _ => Bool) (fun v => cond (Nat.beq sz 1) (k (set off v t)) false) (fun l => cond (Nat.beq l.length sz) (k (fillT l off t)) false) (fun _ m t' => cond (Nat.beq m sz) (k (fillT (rng t' m 0) off t)) false) false (fun _ _ _ _ => false) (fun _ => false) x
theorem layX_ok {d n : Nat} {x : X} {off sz : Nat} {t : Nd V d} {k : Nd V d → Bool} (h : layX x off sz t k = true) (ho : off + sz ≤ n) (hn : n ≤ 8 ^ d) : ∃ t', k t' = true ∧ x.toV.cells.size = sz ∧ lst t' n = put (lst t n) off x.toV.cells.toList := by
  cases x with
  | sc v =>
    have h : cond (Nat.beq sz 1) (k (set off v t)) false = true := h
    cases hb : Nat.beq sz 1 with
    | false => rw [hb] at h; cases h
    | true =>
      rw [hb] at h
      have e := Nat.eq_of_beq_eq_true hb
      have hc : (X.sc v).toV.cells = #[v.toV] := one_cells v.one
      refine ⟨_, h, by rw [hc, e]; rfl, ?_⟩
      rw [hc]
      exact lst_fillT [v] t (by simp; omega) hn
  | agg l =>
    have h : cond (Nat.beq l.length sz) (k (fillT l off t)) false = true := h
    cases hb : Nat.beq l.length sz with
    | false => rw [hb] at h; cases h
    | true =>
      rw [hb] at h
      have e := Nat.eq_of_beq_eq_true hb
      refine ⟨_, h, by show (l.map V.toV).toArray.size = sz; simpa using e, ?_⟩
      show _ = put (lst t n) off (l.map V.toV).toArray.toList
      exact lst_fillT l t (by omega) hn
  | tree d' m t' =>
    have h : cond (Nat.beq m sz) (k (fillT (rng t' m 0) off t)) false = true := h
    cases hb : Nat.beq m sz with
    | false => rw [hb] at h; cases h
    | true =>
      rw [hb] at h
      have e := Nat.eq_of_beq_eq_true hb
      have hr : (rng t' m 0).map V.toV = lst t' m := by rw [rng_map t' (m := m) (by omega), List.drop_zero, List.take_of_length_le (by rw [lst_length]; exact Nat.le_refl _)]
      refine ⟨_, h, by show (lst t' m).toArray.size = sz; simp [lst_length, e], ?_⟩
      show _ = put (lst t n) off (lst t' m).toArray.toList
      rw [← hr]
      exact lst_fillT (rng t' m 0) t (by rw [rng_length]; omega) hn
  | _ => cases h
noncomputable def layC (D : Nat) {d : Nat} (n : Nat) (places : List (Nat × Nat)) (parts : List (Nat × Operand)) : Box (Sl D → Nd V d → (Nd V d → Bool) → Bool) :=
  List.rec (motive := fun _ => Box (Sl D → Nd V d → (Nd V d → Bool) → Bool)) ⟨fun _ t k => k t⟩ (fun q _ ih => match places[q.1]? with
    | some (off, sz) => cond (Nat.ble (Nat.add off sz) n) (bx (evC D q.2) fun e => bx ih fun g => ⟨fun T t k => layX (e T) off sz t fun t' => g T t' k⟩) ⟨fun _ _ _ => false⟩
    | none => ⟨fun _ _ _ => false⟩) parts
theorem layC_ok {d n : Nat} (hn : n ≤ 8 ^ d) {places : List (Nat × Nat)} {T : Sl D} : ∀ {parts : List (Nat × Operand)} {t : Nd V d} {k : Nd V d → Bool}, (layC D n places parts).f T t k = true →
    ∃ t', k t' = true ∧ ∀ cs : Array Value, cs.toList = lst t n → ∃ r, Instr.fill (places.toArray[·]?) cs (parts.map fun q => (q.1, (evX T q.2).toV)) = some r ∧ r.toList = lst t' n
  | [], t, k, h => ⟨t, h, fun cs hc => ⟨cs, rfl, hc⟩⟩
  | q :: parts, t, k, h => by
    have h : (match places[q.1]? with
      | some (off, sz) => cond (Nat.ble (Nat.add off sz) n) (bx (evC D q.2) fun e => bx (layC D n places parts) fun g => (⟨fun T t k => layX (e T) off sz t fun t' => g T t' k⟩ : Box (Sl D → Nd V d → (Nd V d → Bool) → Bool))) ⟨fun _ _ _ => false⟩
      | none => ⟨fun _ _ _ => false⟩).f T t k = true := h
    cases hp : places[q.1]? with
    | none => rw [hp] at h; cases h
    | some os =>
      obtain ⟨off, sz⟩ := os
      rw [hp] at h
      dsimp only at h
      cases hb : Nat.ble (Nat.add off sz) n with
      | false => rw [hb] at h; cases h
      | true =>
        rw [hb, cond_true, bx_f, bx_f] at h
        have hle : off + sz ≤ n := Nat.le_of_ble_eq_true hb
        have h : layX (evX T q.2) off sz t (fun t' => (layC D n places parts).f T t' k) = true := h
        obtain ⟨t1, h, hsz, hl⟩ := layX_ok (x := evX T q.2) h hle hn
        obtain ⟨t2, h, hr⟩ := layC_ok hn h
        refine ⟨t2, h, fun cs hc => ?_⟩
        have hcs : cs.size = n := by rw [← Array.length_toList, hc, lst_length]
        have hsz' : (evX T q.2).toV.cells.size = sz := hsz
        obtain ⟨r, h1, h2⟩ := hr (((evX T q.2).toV.cells.toList.zipIdx 0).foldl (fun cs x => cs.setIfInBounds (off + x.2) x.1) cs) (by
          rw [lay_put _ 0 off cs (by rw [Array.length_toList]; omega), hl, hc]; rfl)
        refine ⟨r, ?_, h2⟩
        show Instr.fill (places.toArray[·]?) cs ((q.1, (evX T q.2).toV) :: parts.map fun q => (q.1, (evX T q.2).toV)) = some r
        unfold Instr.fill
        have hp' : places.toArray[q.1]? = some (off, sz) := by simpa using hp
        rw [hp']
        dsimp only
        rw [if_neg (by rw [hsz', hcs]; simp; omega)]
        rw [← Array.foldl_toList, Array.toList_zipIdx]
        exact h1
structure BInf where
  n : Nat
  z : Value
  places : List (Nat × Nat)
def bInf (P : Program) (t : TypeId) : Option BInf := match P.info? t, P.underlying t with
  | some it, some (.struct fields) => match it.zero, fields.toList.mapM (fun f => (P.info? f.type).map fun i => (f.offset, i.size)) with
    | some z, some places => cond (selfOk z && (Nat.ble z.cells.size 4096 && z.cells.toList.all (·.oneCell'))) (some ⟨z.cells.size, z, places⟩) none
    | _, _ => none
  | _, _ => none
theorem bInf_built {t : TypeId} {b : BInf} (h : bInf P t = some b) : b.n = b.z.cells.size ∧ selfOk b.z = true ∧ b.n ≤ 4096 ∧ b.z.cells.toList.all (·.oneCell') = true ∧ ∀ parts, P.built t parts = Instr.fill (b.places.toArray[·]?) b.z.cells parts := by
  unfold bInf at h
  split at h
  · rename_i it fields hi hu
    split at h
    · rename_i z places hz hp
      cases hb : (selfOk z && (Nat.ble z.cells.size 4096 && z.cells.toList.all (·.oneCell'))) with
      | false => rw [hb] at h; cases h
      | true =>
        rw [hb] at h
        rw [Bool.and_eq_true, Bool.and_eq_true] at hb
        cases h
        refine ⟨rfl, hb.1, Nat.le_of_ble_eq_true hb.2.1, hb.2.2, fun parts => ?_⟩
        unfold Program.built
        simp only [hi, hu, hz, hp]
    · cases h
  · cases h
noncomputable def buildC (P : Program) (D : Nat) (t : TypeId) (parts : Array (Nat × Operand)) (gen : PureC D) : Box (PureC D) := match bInf P t with
  | some b => bx (layC D (d := dep b.n) b.n b.places parts.toList) fun g => ⟨fun T k => g T (treeOf (dep b.n) (b.z.cells.toList.map V.ofV)) fun t' => k (.tree (dep b.n) b.n t')⟩
  | none => ⟨gen⟩
theorem pr_of {T : Sl D} {a : Act} : ∀ {parts : List (Nat × Operand)}, (∀ x ∈ parts.map (·.2), VR ρ (evX T x).toV (a.eval x)) → PR ρ (parts.map fun q => (q.1, (evX T q.2).toV)) (parts.map fun q => (q.1, a.eval q.2))
  | [], _ => .nil
  | q :: parts, h => .cons (h _ (by simp)) (pr_of fun x hx => h x (by simp only [List.map_cons, List.mem_cons]; exact .inr hx))
theorem buildC_ok {t : TypeId} {parts : Array (Nat × Operand)} (hop : o.op = .build t parts) {gen : PureC D} (hgen : PureOk P G D o gen) : PureOk P G D o (buildC P D t parts gen).f := by
  unfold buildC
  cases hb : bInf P t with
  | none => exact hgen
  | some b =>
    dsimp only
    rw [bx_f]
    intro T k h
    obtain ⟨e1, e2, e3, e4, e5⟩ := bInf_built hb
    have hd : b.n ≤ 8 ^ dep b.n := dep_le e3
    obtain ⟨t', h, hr⟩ := layC_ok hd h
    have hlz : (b.z.cells.toList.map V.ofV).length = b.n := by simp [e1]
    obtain ⟨r, h1, h2⟩ := hr b.z.cells (by
      have := lst_treeOf (d := dep b.n) (b.z.cells.toList.map V.ofV) (by rw [hlz]; exact hd)
      rw [hlz, map_ofV e4] at this
      exact this.symm)
    refine ⟨_, h, fun ρ a hO _ => ?_⟩
    obtain ⟨r', h3, h4⟩ := fill_rel (pr_of (ρ := ρ) (T := T) (a := a) (parts := parts.toList) fun x hx => hO x (by
      rw [hop]
      obtain ⟨q, hq, rfl⟩ := List.mem_map.1 hx
      simp only [Op.operands]
      rw [List.mem_toArray]
      exact List.mem_map.2 ⟨q, hq, rfl⟩)) (VR.of_self ρ e2).cells h1
    have hbuilt : P.built t (parts.map fun (i, x) => (i, a.eval x)).toList = some r' := by
      rw [e5, Array.toList_map]
      exact h3
    refine ⟨.agg r', ?_, fun w => ?_⟩
    · show VR ρ (.agg (lst t' b.n).toArray) (.agg r')
      rw [← h2]
      exact .agg h4.1 h4.2
    · simp only [execOp, hop]
      exact exec_v (run_build w t _ r' hbuilt)
/-! ### The class -/
noncomputable def pureQ (P : Program) (G D : Nat) (o : Oper) : Box (PureC D) := match o.op with
  | .pick c a b => bx (pureT P G D o) fun f => bx (evC D c) fun ec => bx (evC D a) fun ea => bx (evC D b) fun eb => ⟨fun T k => onBool (ec T) (fun q => cond q (k (ea T)) (k (eb T))) (f T k)⟩
  | .unOp .not _ x => bx (pureT P G D o) fun f => bx (evC D x) fun e => ⟨fun T k => onBool (e T) (fun q => k (.sc (.bool (cond q false true)))) (f T k)⟩
  | .extract x i => bx (pureT P G D o) fun f => bx (evC D x) fun e => ⟨fun T k => nthX (e T) k (f T k) i⟩
  | .call ⟨.builtin .len, ⟨[x]⟩, ⟨[t]⟩⟩ => cond (isSl P t) (bx (pureT P G D o) fun f => bx (evC D x) fun e => ⟨fun T k => onNil (e T) (fun n => k (.sc (.int .i64 n))) (f T k)⟩) (pureT P G D o)
  | .build t parts => bx (pureT P G D o) fun f => buildC P D t parts f
  | _ => pureT P G D o
theorem pureQ_ok (hs : notSelect o = true) : PureOk P G D o (pureQ P G D o).f := by
  have gen := pureT_ok (P := P) (G := G) (D := D) (o := o) hs
  unfold pureQ
  split
  · rename_i c x y hop
    rw [bx_f, bx_f, bx_f, bx_f]
    intro T k h
    rcases onBool_ways h with ⟨q, e, h⟩ | h
    · have hc : ∀ {ρ : Names} {a : Act}, OpR ρ T a o → a.eval c = .bool q := fun hO => bool_of e (hO c (by rw [hop]; simp [Op.operands]))
      cases q with
      | true => exact ⟨_, h, fun ρ a hO _ => ⟨_, hO x (by rw [hop]; simp [Op.operands]), fun w => by simp only [execOp, hop, hc hO]; rfl⟩⟩
      | false => exact ⟨_, h, fun ρ a hO _ => ⟨_, hO y (by rw [hop]; simp [Op.operands]), fun w => by simp only [execOp, hop, hc hO]; rfl⟩⟩
    · exact gen T k h
  · rename_i t x hop
    rw [bx_f, bx_f]
    intro T k h
    rcases onBool_ways h with ⟨q, e, h⟩ | h
    · refine ⟨_, h, fun ρ a hO _ => ⟨.bool (!q), ?_, fun w => ?_⟩⟩
      · cases q <;> exact .bool _
      · simp only [execOp, hop, bool_of e (hO x (by rw [hop]; simp [Op.operands]))]
        rfl
    · exact gen T k h
  · rename_i x i hop
    rw [bx_f, bx_f]
    intro T k h
    rcases nthX_ways h with ⟨y, hy, h⟩ | h
    · refine ⟨_, h, fun ρ a hO _ => ?_⟩
      have hx := hO x (by rw [hop]; simp [Op.operands])
      have hx : VR ρ (evX T x).toV (a.eval x) := hx
      have hy : (evX T x).both.2[i]? = some y.toV := hy
      have ht : ∃ vs : Array Value, (evX T x).toV = .tuple vs ∧ vs[i]? = some y.toV := by
        generalize evX T x = z at hy
        cases z with
        | cons h t => exact ⟨_, rfl, by rw [List.getElem?_toArray]; exact hy⟩
        | _ => simp [X.both] at hy
      obtain ⟨vs, ht, hvi⟩ := ht
      rw [ht] at hx
      generalize hev : a.eval x = u at hx
      cases hx with
      | @tuple _ vs' h1 h2 =>
        obtain ⟨y', hy', hr⟩ := AR.get ⟨h1, h2⟩ hvi
        refine ⟨y', hr, fun w => ?_⟩
        simp only [execOp, hop, hev]
        refine exec_v ?_
        unfold Instr.extract
        simp only [hy']
        rfl
    · exact gen T k h
  · rename_i x t hop
    cases hb : isSl P t with
    | false => exact gen
    | true =>
      rw [cond_true, bx_f, bx_f]
      intro T k h
      rcases onNil_ways h with ⟨n, c, e, h⟩ | h
      · refine ⟨_, h, Ans.of1 (x := x) (by rw [hop]; simp [Op.operands, Call.operands]) fun ρ a hx => ?_⟩
        rw [show (evX T x).toV = _ from e] at hx
        have hv := hx.plain_eq rfl
        refine ⟨.int .i64 (n : Int), .int _ _, fun w => ?_⟩
        unfold isSl at hb
        split at hb
        · rename_i el hu
          simp only [execOp, hop, resolve, invoke, builtin, hv, Builtin.len_, Sem.run_bind, Sem.run_pure, Result.andThen_ok, List.map_toArray, List.map_cons, List.map_nil]
          simp [run_underlying hu w]
          rfl
        · cases hb
      · exact gen T k h
  · rename_i t parts hop
    rw [bx_f]
    exact buildC_ok hop gen
  · exact gen
end
end
section
open Go
section
variable {P : Program} {ρ : Names} {G D : Nat} {o : Oper}
/-! ### append -/
structure AInf where
  e : TypeId
  sz : Nat
  bytes : Nat
def appInf (P : Program) (t tx : TypeId) : Option AInf := match P.underlying t, P.underlying tx with
  | some (.slice e), some (.slice _) => match P.info? e with
    | some i => match i.zero with
      | some z => cond (Nat.beq z.cells.size i.size) (some ⟨e, i.size, i.bytes⟩) none
      | none => none
    | none => none
  | _, _ => none
/-- Room for more cells. -/
noncomputable def upT {d : Nat} (t : Nd V d) : Nd V (d + 1) := (⟨t, leafs nov d, leafs nov d, leafs nov d, leafs nov d, leafs nov d, leafs nov d, leafs nov d⟩ : N8 (Nd V d))
theorem get_upT {d : Nat} (t : Nd V d) {i : Nat} (h : i < 8 ^ d) : get (upT t) i = get t i := by
  have e := get_succ i d (upT t)
  have hd : dig i d = 0 := by
    show i / 8 ^ d % 8 = 0
    rw [Nat.div_eq_of_lt h]
  rw [hd] at e
  exact e
theorem lst_upT {d : Nat} (t : Nd V d) {n : Nat} (h : n ≤ 8 ^ d) : lst (upT t) n = lst t n := by
  unfold lst
  exact List.map_congr_left fun i hi => by rw [get_upT t (by have := List.mem_range.1 hi; omega)]
/-- The source's rows: how many, the tree, where they begin, how many cells the tree has. -/
noncomputable def srcQ (sz : Nat) (x : X) (H : Heap) (kn : Nat → (d : Nat) → Nd V d → Nat → Nat → Bool) (d : Bool) : Bool := onSlice x (fun b q m _ => cond (Nat.beq m 0) d (onBlk H b
  (fun dd n t _ => cond (Nat.ble (Nat.add q (Nat.mul m sz)) n) (kn m dd t q n) d)
  (fun dd t _ sz' n => cond (Nat.ble (Nat.add q (Nat.mul m sz)) (Nat.mul n sz')) (kn m dd t q (Nat.mul n sz')) d) d)) d
noncomputable def newQ (A : AInf) (st : St) (m : Nat) (dd : Nat) (t : Nd V dd) (q tot : Nat) (k : X → St → Bool) : Bool :=
  cond (Nat.ble m maxLen && (Nat.ble (Builtin.nextslicecap m 0 * A.bytes) 281474976710656 && Nat.blt st.n 32768))
    (cond (Nat.beq q 0 && Nat.beq tot (Nat.mul m A.sz)) (k (.sc (.slice st.n 0 m openCap)) ⟨set st.n (.grown dd t A.e A.sz m) st.H, Nat.add st.n 1⟩)
      (cond (Nat.ble (Nat.mul m A.sz) 4096) (k (.sc (.slice st.n 0 m openCap)) ⟨set st.n (.grown (dep (Nat.mul m A.sz)) (treeOf (dep (Nat.mul m A.sz)) (rng t (Nat.mul m A.sz) q)) A.e A.sz m) st.H, Nat.add st.n 1⟩) false)) false
noncomputable def putQ (A : AInf) (st : St) (b n m : Nat) (dd : Nat) (t : Nd V dd) (q : Nat) (d0 : Nat) (t0 : Nd V d0) (k : X → St → Bool) : Bool :=
  cond (Nat.ble (Nat.mul (Nat.add n m) A.sz) (Nat.pow 8 d0)) (k (.sc (.slice st.n 0 (Nat.add n m) openCap)) ⟨set st.n (.grown d0 (fillT (rng t (Nat.mul m A.sz) q) (Nat.mul n A.sz) t0) A.e A.sz (Nat.add n m)) (set b .gone st.H), Nat.add st.n 1⟩) false
noncomputable def moreQ (A : AInf) (st : St) (b n m : Nat) (dd : Nat) (t : Nd V dd) (q : Nat) (k : X → St → Bool) : Bool := onBlk st.H b (fun _ _ _ _ => false) (fun d0 t0 T sz' n' =>
  cond ((Nat.beq T A.e && Nat.beq sz' A.sz) && (Nat.beq n n' && (Nat.ble (Nat.add n m) maxLen && (Nat.ble (Nat.mul (Nat.add n m) A.bytes) 140737488355328 && Nat.blt st.n 32768))))
    (cond (Nat.ble (Nat.mul (Nat.add n m) A.sz) (Nat.pow 8 d0)) (putQ A st b n m dd t q d0 t0 k) (cond (Nat.ble (Nat.mul n A.sz) (Nat.pow 8 d0)) (putQ A st b n m dd t q (Nat.add d0 1) (upT t0) k) false)) false) false
noncomputable def nil0 (u : Value) (kn d : Bool) : Bool := match u with
  | .slice none 0 0 => kn
  | _ => d
noncomputable def onNil0 (x : X) (kn d : Bool) : Bool := X.rec (motive := fun _ => Bool) (fun v => V.rec (motive := fun _ => Bool) (fun _ => d) (fun _ _ => d) (fun _ _ => d) (fun _ _ => d) (fun _ _ _ _ => d) (fun u => nil0 u kn d) v) (fun _ => d) (fun _ _ _ => d) d (fun _ _ _ _ => d) (fun _ => d) x
theorem onNil0_ways {x : X} {kn d : Bool} (h : onNil0 x kn d = true) : (x.toV = .slice none 0 0 ∧ kn = true) ∨ d = true := by
  cases x with
  | sc v => cases v with
    | oth u =>
      have h : nil0 u kn d = true := h
      unfold nil0 at h
      split at h
      · exact .inl ⟨rfl, h⟩
      · exact .inr h
    | _ => exact .inr h
  | _ => exact .inr h
/-- append: onto nil, or onto all of what has grown. -/
noncomputable def appQ (A : AInf) (s x : X) (st : St) (k : X → St → Bool) (d : Bool) : Bool :=
  onNil0 x (onNil0 s (k s st) d) (srcQ A.sz x st.H (fun m dd t q tot => onNil0 s (newQ A st m dd t q tot k) (onSlice s (fun b _ n c => cond (Nat.beq c openCap) (moreQ A st b n m dd t q k) d) d)) d)
/-- The computed append answers so. -/
def AppIs (P : Program) (t tx : TypeId) (s x : X) (st : St) (y : X) (st' : St) : Prop := ∃ v st1, aapp P t tx s.toV x.toV st = some (v, st1) ∧ y.toV = v ∧ st'.n = st1.n ∧ ∀ j, findO j st'.H = findO j st1.H
structure AFacts (P : Program) (t tx : TypeId) (A : AInf) (i : TypeInfo) (z : Value) (e' : TypeId) : Prop where
  ht : P.underlying t = some (.slice A.e)
  htx : P.underlying tx = some (.slice e')
  hi : P.info? A.e = some i
  hz : i.zero = some z
  hzs : Nat.beq z.cells.size i.size = true
  hsz : A.sz = i.size
  hby : A.bytes = i.bytes
theorem appInf_facts {t tx : TypeId} {A : AInf} (h : appInf P t tx = some A) : ∃ i z e', AFacts P t tx A i z e' := by
  unfold appInf at h
  split at h
  · rename_i e e' h1 h2
    split at h
    · rename_i i hi
      split at h
      · rename_i z hz
        cases hb : Nat.beq z.cells.size i.size with
        | false => rw [hb] at h; cases h
        | true =>
          rw [hb] at h
          cases h
          exact ⟨i, z, e', h1, h2, hi, hz, hb, rfl, rfl⟩
      · cases h
    · cases h
  · cases h
theorem srcQ_ways {sz : Nat} {x : X} {H : Heap} {kn : Nat → (d : Nat) → Nd V d → Nat → Nat → Bool} {d : Bool} (h : srcQ sz x H kn d = true) :
    (∃ b q m c dd t tot, x = .sc (.slice b q (m + 1) c) ∧ kn (m + 1) dd t q tot = true ∧ contO (findO b H) = some (lst t tot) ∧ q + (m + 1) * sz ≤ tot) ∨ d = true := by
  unfold srcQ at h
  rcases onSlice_ways h with ⟨b, q, m, c, rfl, h⟩ | h
  · cases m with
    | zero => exact .inr h
    | succ m =>
      have h : onBlk H b _ _ d = true := h
      rcases onBlk_ways h with ⟨dd, n, t, T, _, _, hf, h⟩ | ⟨dd, t, T, sz', n, _, _, hf, h⟩ | h
      · cases hb : Nat.ble (Nat.add q (Nat.mul (m + 1) sz)) n with
        | false => rw [hb] at h; exact .inr h
        | true => rw [hb] at h; exact .inl ⟨b, q, m, c, dd, t, n, rfl, h, by rw [hf]; rfl, Nat.le_of_ble_eq_true hb⟩
      · cases hb : Nat.ble (Nat.add q (Nat.mul (m + 1) sz)) (Nat.mul n sz') with
        | false => rw [hb] at h; exact .inr h
        | true => rw [hb] at h; exact .inl ⟨b, q, m, c, dd, t, n * sz', rfl, h, by rw [hf]; rfl, Nat.le_of_ble_eq_true hb⟩
      · exact .inr h
  · exact .inr h
theorem asrc_of {sz : Nat} {tx e' : TypeId} (htx : P.underlying tx = some (.slice e')) {H : Heap} {b q m c tot : Nat} {dd : Nat} {t : Nd V dd} (hc : contO (findO b H) = some (lst t tot)) (hle : q + (m + 1) * sz ≤ tot) :
    asrc P sz tx (X.sc (.slice b q (m + 1) c)).toV H = some ((rng t ((m + 1) * sz) q).map V.toV, m + 1) := by
  have hr : readO q ((m + 1) * sz) (findO b H) = some ((rng t ((m + 1) * sz) q).map V.toV) := by
    unfold readO
    rw [hc]
    dsimp only
    rw [← rng_map t hle, if_pos]
    rw [Bool.and_eq_true, lst_length]
    exact ⟨Nat.ble_eq_true_of_le hle, all_one _⟩
  show asrc P sz tx (.slice (some ⟨b, q, none⟩) (m + 1) c) H = _
  unfold asrc
  simp only [htx, hr]
theorem appQ_ways {t tx : TypeId} {A : AInf} (hA : appInf P t tx = some A) {s x : X} {st : St} {k : X → St → Bool} {d : Bool} (h : appQ A s x st k d = true) : (∃ y st', k y st' = true ∧ AppIs P t tx s x st y st') ∨ d = true := by
  obtain ⟨i, z, e', F⟩ := appInf_facts hA
  have ht := F.ht; have htx := F.htx; have hi := F.hi; have hz := F.hz; have hzs := F.hzs; have hsz := F.hsz; have hby := F.hby
  unfold appQ at h
  rcases onNil0_ways h with ⟨hx, h⟩ | h
  · rcases onNil0_ways h with ⟨hs, h⟩ | h
    · refine .inl ⟨s, st, h, .slice none 0 0, st, ?_, hs, rfl, fun _ => rfl⟩
      rw [hs, hx]
      unfold aapp
      simp only [ht, hi, hz, hzs]
      have : asrc P i.size tx (.slice none 0 0) st.H = some ([], 0) := by unfold asrc; simp only [htx]
      simp only [this]
      rfl
    · exact .inr h
  · rcases srcQ_ways h with ⟨b, q, m, c, dd, ts, tot, rfl, h, hc, hle⟩ | h
    · have hsrc := asrc_of (P := P) (sz := A.sz) (c := c) htx hc hle
      rw [hsz] at hsrc
      rcases onNil0_ways h with ⟨hs, h⟩ | h
      · unfold newQ at h
        cases hb : (Nat.ble (m + 1) maxLen && (Nat.ble (Builtin.nextslicecap (m + 1) 0 * A.bytes) 281474976710656 && Nat.blt st.n 32768)) with
        | false => rw [hb] at h; cases h
        | true =>
          rw [hb, cond_true] at h
          have hb' := hb
          rw [Bool.and_eq_true, Bool.and_eq_true] at hb
          have hlt : st.n < 32768 := Nat.le_of_ble_eq_true hb.2.2
          have key : aapp P t tx s.toV (X.sc (.slice b q (m + 1) c)).toV st = some (.slice (some ⟨st.n, 0, none⟩) (m + 1) openCap, ⟨setO st.n (.grown ((rng ts ((m + 1) * A.sz) q).map V.toV) A.e A.sz (m + 1)) st.H, st.n + 1⟩) := by
            rw [hs]
            unfold aapp
            simp only [ht, hi, hz, hzs, hsrc]
            unfold agrow
            rw [Nat.zero_add, if_pos, List.nil_append, hsz]
            rw [Bool.and_eq_true, Bool.and_eq_true, Bool.and_eq_true, ← hby]
            exact ⟨hb.1, hb.2.1, Nat.ble_eq_true_of_le (Nat.succ_pos m), hb.2.2⟩
          cases hq : (Nat.beq q 0 && Nat.beq tot (Nat.mul (m + 1) A.sz)) with
          | true =>
            rw [hq, cond_true] at h
            rw [Bool.and_eq_true] at hq
            have e1 := Nat.eq_of_beq_eq_true hq.1
            have e2 : tot = (m + 1) * A.sz := Nat.eq_of_beq_eq_true hq.2
            refine .inl ⟨_, _, h, _, _, key, rfl, rfl, fun j => ?_⟩
            rw [find_set hlt]
            show findO j (set st.n _ st.H) = _
            rw [find_set2 hlt]
            have : (rng ts ((m + 1) * A.sz) q).map V.toV = lst ts ((m + 1) * A.sz) := by
              rw [rng_map ts hle, e1, e2, List.drop_zero, List.take_of_length_le (by rw [lst_length]; exact Nat.le_refl _)]
            rw [this]
            rfl
          | false =>
            rw [hq, cond_false] at h
            cases hm : Nat.ble (Nat.mul (m + 1) A.sz) 4096 with
            | false => rw [hm] at h; cases h
            | true =>
              rw [hm, cond_true] at h
              have hm' : (m + 1) * A.sz ≤ 4096 := Nat.le_of_ble_eq_true hm
              refine .inl ⟨_, _, h, _, _, key, rfl, rfl, fun j => ?_⟩
              rw [find_set hlt]
              show findO j (set st.n _ st.H) = _
              rw [find_set2 hlt]
              have := lst_treeOf (d := dep ((m + 1) * A.sz)) (rng ts ((m + 1) * A.sz) q) (by rw [rng_length]; exact dep_le hm')
              rw [rng_length] at this
              rw [← this]
              rfl
      · rcases onSlice_ways h with ⟨b0, q0, n, c0, rfl, h9⟩ | h
        · clear h
          have h := h9
          clear h9
          cases ho : Nat.beq c0 openCap with
          | false => rw [ho] at h; exact .inr h
          | true =>
            rw [ho, cond_true] at h
            have hc0 := Nat.eq_of_beq_eq_true ho
            have h : moreQ A st b0 n (m + 1) dd ts q k = true := h
            unfold moreQ at h
            rcases onBlk_ways h with ⟨_, _, _, _, _, _, _, h⟩ | ⟨d0, t0, T, sz', n', hlt0, _, hf, h⟩ | h
            · cases h
            · cases hb : ((Nat.beq T A.e && Nat.beq sz' A.sz) && (Nat.beq n n' && (Nat.ble (Nat.add n (m + 1)) maxLen && (Nat.ble (Nat.mul (Nat.add n (m + 1)) A.bytes) 140737488355328 && Nat.blt st.n 32768)))) with
              | false => rw [hb] at h; cases h
              | true =>
                rw [hb, cond_true] at h
                rw [Bool.and_eq_true, Bool.and_eq_true, Bool.and_eq_true, Bool.and_eq_true, Bool.and_eq_true] at hb
                have g1 := Nat.eq_of_beq_eq_true hb.1.1
                have g2 := Nat.eq_of_beq_eq_true hb.1.2
                have g3 := Nat.eq_of_beq_eq_true hb.2.1
                subst g1; subst g2; subst g3
                have hlt : st.n < 32768 := Nat.le_of_ble_eq_true hb.2.2.2.2
                have key : aapp P t tx (X.sc (.slice b0 q0 n c0)).toV (X.sc (.slice b q (m + 1) c)).toV st = some (.slice (some ⟨st.n, 0, none⟩) (n + (m + 1)) openCap, ⟨setO st.n (.grown (lst t0 (n * A.sz) ++ (rng ts ((m + 1) * A.sz) q).map V.toV) A.e A.sz (n + (m + 1))) (setO b0 .gone st.H), st.n + 1⟩) := by
                  show aapp P t tx (.slice (some ⟨b0, q0, none⟩) n c0) _ st = _
                  unfold aapp
                  simp only [ht, hi, hz, hzs, hsrc]
                  have hnb : Nat.blt c0 openCap = false := by
                    cases hq : Nat.blt c0 openCap with
                    | false => rfl
                    | true => have := Nat.le_of_ble_eq_true hq; omega
                  rw [if_neg (by rw [hnb]; simp), if_pos ho]
                  unfold agrown
                  rw [hf]
                  dsimp only
                  rw [if_pos (by rw [← hsz]; simp), if_pos (Nat.beq_refl _), if_pos]
                  · rw [← hsz]
                  · rw [Bool.and_eq_true, Bool.and_eq_true, ← hby]
                    exact ⟨hb.2.2.1, hb.2.2.2.1, hb.2.2.2.2⟩
                have fin : ∀ {d1 : Nat} (t1 : Nd V d1), lst t1 (n * A.sz) = lst t0 (n * A.sz) → putQ A st b0 n (m + 1) dd ts q d1 t1 k = true → ∃ y st', k y st' = true ∧ AppIs P t tx (.sc (.slice b0 q0 n c0)) (.sc (.slice b q (m + 1) c)) st y st' := by
                  intro d1 t1 h1 hp
                  unfold putQ at hp
                  cases hz2 : Nat.ble (Nat.mul (Nat.add n (m + 1)) A.sz) (Nat.pow 8 d1) with
                  | false => rw [hz2] at hp; cases hp
                  | true =>
                    rw [hz2, cond_true] at hp
                    have hz3 : (n + (m + 1)) * A.sz ≤ 8 ^ d1 := Nat.le_of_ble_eq_true hz2
                    have hadd : (n + (m + 1)) * A.sz = n * A.sz + (m + 1) * A.sz := Nat.add_mul _ _ _
                    refine ⟨_, _, hp, _, _, key, rfl, rfl, fun j => ?_⟩
                    rw [find_set hlt, find_set hlt0]
                    show findO j (set st.n _ (set b0 .gone st.H)) = _
                    rw [find_set2 hlt, find_set2 hlt0]
                    have hl := lst_fillT (rng ts ((m + 1) * A.sz) q) (q := n * A.sz) (m := (n + (m + 1)) * A.sz) t1 (by rw [rng_length]; omega) hz3
                    have e : (O2.grown d1 (fillT (rng ts ((m + 1) * A.sz) q) (n * A.sz) t1) A.e A.sz (n + (m + 1))).toO = .grown (lst t0 (n * A.sz) ++ (rng ts ((m + 1) * A.sz) q).map V.toV) A.e A.sz (n + (m + 1)) := by
                      show AObj.grown (lst _ ((n + (m + 1)) * A.sz)) _ _ _ = _
                      rw [hl]
                      have e1 : (lst t1 ((n + (m + 1)) * A.sz)).take (n * A.sz) = lst t0 (n * A.sz) := by
                        rw [← h1]
                        unfold lst
                        rw [← List.map_take, List.take_range, Nat.min_eq_left (by omega)]
                      unfold put
                      rw [e1, List.drop_eq_nil_of_le (by rw [lst_length, List.length_map, rng_length]; omega), List.append_nil]
                    by_cases h5 : j = st.n
                    · rw [if_pos h5, if_pos h5]; exact e
                    · rw [if_neg h5, if_neg h5]; rfl
                cases hz1 : Nat.ble (Nat.mul (Nat.add n (m + 1)) A.sz) (Nat.pow 8 d0) with
                | true => rw [hz1, cond_true] at h; exact .inl (fin t0 rfl h)
                | false =>
                  rw [hz1, cond_false] at h
                  cases hz4 : Nat.ble (Nat.mul n A.sz) (Nat.pow 8 d0) with
                  | false => rw [hz4] at h; cases h
                  | true => rw [hz4, cond_true] at h; exact .inl (fin (upT t0) (lst_upT t0 (Nat.le_of_ble_eq_true hz4)) h)
            · cases h
        · exact .inr h
    · exact .inr h
noncomputable def appC (P : Program) (G D : Nat) (o : Oper) : Box (LoudC D) := match isAppend o.op with
  | some (s, x, t, tx) => match appInf P t tx with
    | some A => bx (evC D s) fun es => bx (evC D x) fun ex => ⟨fun F T st k => appQ A (es T) (ex T) st k (genAppend P G D o F T st k)⟩
    | none => ⟨genAppend P G D o⟩
  | none => ⟨fun _ _ _ _ => false⟩
theorem appC_ok (hs : notSelect o = true) : LoudOk P G D o (appC P G D o).f := by
  unfold appC
  cases hop : isAppend o.op with
  | none => intro F T st k _ h; cases h
  | some q =>
    obtain ⟨s, x, t, tx⟩ := q
    dsimp only
    have hop := isAppend_eq hop
    cases hA : appInf P t tx with
    | none => exact genAppend_ok hs
    | some A =>
      dsimp only
      rw [bx_f, bx_f]
      intro F T st k hF h
      rcases appQ_ways hA h with ⟨y, st', h, v, st1, ha, hy, hn, hH⟩ | h
      · refine ⟨y, st', h, fun W R ρ a w l hO hG hsim K Q hK => ?_⟩
        have hs1 := hO s (by rw [hop]; simp [Op.operands, Call.operands])
        have hx1 := hO x (by rw [hop]; simp [Op.operands, Call.operands])
        obtain ⟨ρ', v', l', w', hr, hle, hvr, hs'⟩ := aapp_sound hsim t tx o.type hs1 hx1 ha
        unfold Oper.wp
        have e : (execOp a.eval o).run P w = .ok (.value v') w' := by
          obtain ⟨dst, op, ty, pos, after, guard⟩ := o
          dsimp only at hop
          subst hop
          simp only [execOp, resolve, invoke, builtin, Sem.run_bind, Sem.run_pure, Result.andThen_ok, List.map_toArray, List.map_cons, List.map_nil, hr]
        rw [e]
        exact hK ρ' v' w' l' hle (by rw [hy]; exact hvr) (hs'.congr (fun j => hH j) hn)
      · exact genAppend_ok hs F T st k hF h
end
end
section
open Go
section
variable {P : Program} {ρ : Names} {G D : Nat} {o : Oper}
noncomputable def sizeX (x : X) : Nat := X.rec (motive := fun _ => Nat) (fun _ => 1) (fun l => l.length) (fun _ n _ => n) 0 (fun _ _ _ _ => 0) (fun _ => 0) x
theorem sizeX_eq {x : X} {n : Nat} (h : sizeX x = n) (h0 : 0 < n) : x.toV.cells.size = n := by
  cases x with
  | sc v =>
    have h : 1 = n := h
    rw [show (X.sc v).toV.cells = #[v.toV] from one_cells v.one, ← h]; rfl
  | agg l =>
    have h : l.length = n := h
    show (l.map V.toV).toArray.size = n
    simpa using h
  | tree d m t =>
    have h : m = n := h
    show (lst t m).toArray.size = n
    simp [lst_length, h]
  | nil => have h : 0 = n := h; omega
  | cons a b => have h : 0 = n := h; omega
  | raw v => have h : 0 = n := h; omega
structure SInf where
  e : TypeId
  sz : Nat
  x : Operand
def oneInf (P : Program) (t : TypeId) (len : Nat) (parts : Array (Nat × Operand)) : Option SInf := match P.underlying t with
  | some (.slice e) => match P.info? e with
    | some ie => match ie.zero, parts.toList with
      | some _, [(0, x)] => cond (Nat.beq len 1 && (Nat.ble ie.size 4096 && Nat.blt 0 ie.size)) (some ⟨e, ie.size, x⟩) none
      | _, _ => none
    | none => none
  | _ => none
noncomputable def oneC (P : Program) (D : Nat) (t : TypeId) (len : Nat) (parts : Array (Nat × Operand)) (gen : NewC D) : Box (NewC D) := match oneInf P t len parts with
  | some b => bx (evC D b.x) fun ex => ⟨fun T nm k => cond (Nat.beq (sizeX (ex T)) b.sz) (boxX b.e (ex T) (fun o2 => k (.sc (.slice nm 0 1 1)) o2) (gen T nm k)) (gen T nm k)⟩
  | none => ⟨gen⟩
theorem oneC_ok {t : TypeId} {len : Nat} {parts : Array (Nat × Operand)} (hop : o.op = .buildSlice t len parts) {gen : NewC D} (hgen : NewOk P G D o gen) : NewOk P G D o (oneC P D t len parts gen).f := by
  unfold oneC
  cases hb : oneInf P t len parts with
  | none => exact hgen
  | some b =>
    dsimp only
    rw [bx_f]
    intro T nm k hn h
    have h : cond (Nat.beq (sizeX (evX T b.x)) b.sz) (boxX b.e (evX T b.x) (fun o2 => k (.sc (.slice nm 0 1 1)) o2) (gen T nm k)) (gen T nm k) = true := h
    cases hz : Nat.beq (sizeX (evX T b.x)) b.sz with
    | false => rw [hz] at h; exact hgen T nm k hn h
    | true =>
      rw [hz, cond_true] at h
      rcases boxX_ways h with ⟨o2, hk0, ho⟩ | h
      · clear h
        unfold oneInf at hb
        split at hb
        · rename_i e hu
          split at hb
          · rename_i ie hie
            split at hb
            · rename_i z x hzz hparts
              cases hc : (Nat.beq len 1 && (Nat.ble ie.size 4096 && Nat.blt 0 ie.size)) with
              | false => rw [hc] at hb; cases hb
              | true =>
                rw [hc] at hb
                rw [Bool.and_eq_true, Bool.and_eq_true] at hc
                cases hb
                have hlen := Nat.eq_of_beq_eq_true hc.1
                have h4 := Nat.le_of_ble_eq_true hc.2.1
                have h0 : 0 < ie.size := Nat.le_of_ble_eq_true hc.2.2
                subst hlen
                have hsz : (evX T x).toV.cells.size = ie.size := sizeX_eq (Nat.eq_of_beq_eq_true hz) h0
                refine ⟨_, o2, _, e, hk0, ho, fun ρ a hO _ => ?_⟩
                have hx := hO x (by
                  rw [hop]
                  simp only [Op.operands]
                  rw [List.mem_toArray]
                  exact List.mem_map.2 ⟨(0, x), by rw [hparts]; simp, rfl⟩)
                have hcl := hx.cells
                have hsz' : (a.eval x).cells.size = ie.size := by rw [← hcl.1]; exact hsz
                have hz0 : ((Array.range (1 * ie.size)).map (z.cells[· % z.cells.size]!)).size = ie.size := by simp
                generalize hcs : ((Array.range (1 * ie.size)).map (z.cells[· % z.cells.size]!)) = cs0 at hz0
                have hfill : Instr.fill (fun i => some (i * ie.size, ie.size)) cs0 (parts.map fun (i, x) => (i, a.eval x)).toList = some (((a.eval x).cells.toList.zipIdx 0).foldl (fun cs x => cs.setIfInBounds (0 * ie.size + x.2) x.1) cs0) := by
                  rw [Array.toList_map, hparts]
                  show Instr.fill _ cs0 [(0, a.eval x)] = _
                  unfold Instr.fill
                  dsimp only
                  rw [if_neg (by rw [hsz', hz0]; simp), ← Array.foldl_toList, Array.toList_zipIdx]
                  rfl
                refine ⟨((a.eval x).cells.toList.zipIdx 0).foldl (fun cs x => cs.setIfInBounds (0 * ie.size + x.2) x.1) cs0, ?_, fun w ρ' hle hk => ⟨.slice (some ⟨w.heap.size, 0, none⟩) 1 1, ?_, ?_⟩⟩
                · rw [lay_put _ 0 (0 * ie.size) cs0 (by rw [Array.length_toList, hsz', hz0]; omega)]
                  have : put cs0.toList (0 * ie.size + 0) (a.eval x).cells.toList = (a.eval x).cells.toList := by
                    rw [Nat.zero_mul]
                    exact put_all (by rw [Array.length_toList, Array.length_toList, hsz', hz0])
                  rw [this]
                  exact hcl.list
                · simp only [execOp, hop]
                  exact exec_v2 (run_buildSlice w t e 1 _ _ ie z hu hie hzz (by omega) (by omega) (by rw [hcs]; exact hfill))
                · show VR ρ' (.slice (some ⟨nm, 0, none⟩) 1 1) _
                  exact .slice hk (fun _ => rfl) (Nat.le_refl _) (by unfold maxLen; omega) (fun _ => rfl) (fun h => by unfold openCap at h; omega)
            · cases hb
          · cases hb
        · cases hb
      · exact hgen T nm k hn h
end
end
section
open Go
section
variable {P : Program} {G D : Nat} {o : Oper}
noncomputable def exactC (P : Program) (D : Nat) (o : Oper) : PureC D := fun T k =>
  cond (o.op.operands.toList.all fun x => selfOk (evX T x).toV) (match prun P (execOp (fun x => (evX T x).toV) o) with
    | some (.value v) => cond (selfOk v) (k (X.ofV v)) false
    | _ => false) false
theorem exactC_ok (hs : notSelect o = true) : PureOk P G D o (exactC P D o) := by
  intro T k h
  unfold exactC at h
  cases ha : (o.op.operands.toList.all fun x => selfOk (evX T x).toV) with
  | false => rw [ha] at h; cases h
  | true =>
    rw [ha, cond_true] at h
    split at h
    · rename_i v hv
      cases hz : selfOk v with
      | false => rw [hz] at h; cases h
      | true =>
        rw [hz] at h
        refine ⟨_, h, fun ρ a hO _ => ⟨v, by rw [X.toV_ofV]; exact .of_self ρ hz, fun w => ?_⟩⟩
        have e : execOp (fun x => (evX T x).toV) o = execOp a.eval o := by
          refine execOp_congr o (fun cs b he => by unfold notSelect at hs; rw [he] at hs; cases hs) fun x hx => ?_
          exact ((hO x hx).self_eq (List.all_eq_true.1 ha x (by simpa using hx))).symm
        rw [← e]
        exact prun_run hv w
    · cases h
def isNilX : X → Bool
  | .sc (.oth (.slice none _ _)) => true
  | _ => false
noncomputable def slice3 (P : Program) (G D : Nat) (o : Oper) : Box (ReadC D) := match o.op with
  | .slice _ x _ _ (some _) => bx (sliceC P G D o) fun f => bx (evC D x) fun e => ⟨fun T st k => cond (isNilX (e T)) (exactC P D o T k) (f T st k)⟩
  | _ => sliceC P G D o
theorem slice3_ok (hs : notSelect o = true) : ReadOk P G D o (slice3 P G D o).f := by
  have gen := sliceC_ok (P := P) (G := G) (D := D) (o := o) hs
  unfold slice3
  split
  · rw [bx_f, bx_f]
    intro T st k h
    cases hn : isNilX (evX T _) with
    | true =>
      have h : cond (isNilX (evX T _)) (exactC P D o T k) ((sliceC P G D o).f T st k) = true := h
      rw [hn, cond_true] at h
      obtain ⟨x, hk, hx⟩ := exactC_ok (G := G) hs T k h
      refine ⟨x, hk, fun W R ρ a w l hO hG _ => ?_⟩
      obtain ⟨v', h1, h2⟩ := hx ρ a hO hG
      exact ⟨v', h1, h2 w⟩
    | false =>
      have h : cond (isNilX (evX T _)) (exactC P D o T k) ((sliceC P G D o).f T st k) = true := h
      rw [hn, cond_false] at h
      exact gen T st k h
  · exact gen
end
end
section
open Go
section
variable {P : Program} {G D : Nat} {o : Oper}
/-- A slice of n rows of type j. -/
def bslOf (x : X) : Option (Nat × Nat) := match x with
  | .sc (.oth (.complex .f32 a b)) => cond (Nat.beq (a % 8) 6) (some (a / 8, b)) none
  | _ => none
/-- A place in a row of type j, at cell o. -/
def bptrOf (x : X) : Option (Nat × Nat) := match x with
  | .sc (.oth (.complex .f32 a b)) => cond (Nat.beq (a % 8) 0 && Nat.ble 8 a) (some (a / 8 - 1, b)) none
  | _ => none
def bslX (j n : Nat) : X := .sc (.oth (.complex .f32 (j * 8 + 6) n))
def bptrX (j o : Nat) : X := .sc (.oth (.complex .f32 (j * 8 + 8) o))
theorem bsl_real {ρ : Names} {x : X} {v : Value} {j n : Nat} (h : bslOf x = some (j, n)) (hr : VR ρ x.toV v) : BS ρ.z j n v := by
  unfold bslOf at h
  split at h
  · rename_i a b
    cases hb : Nat.beq (a % 8) 6 with
    | false => rw [hb] at h; cases h
    | true =>
      rw [hb] at h
      have hm := Nat.eq_of_beq_eq_true hb
      have hr : VR ρ (.complex .f32 a b) v := hr
      cases hr with
      | any hs => simp at hm
      | @bsl j' _ _ hh =>
        rw [cond_true, show (j' * 8 + 6) / 8 = j' by omega] at h
        cases h
        exact hh
      | _ => omega
  · cases h
theorem bptr_real {ρ : Names} {x : X} {v : Value} {j o : Nat} (h : bptrOf x = some (j, o)) (hr : VR ρ x.toV v) : ∃ g b, v = .pointer (some ⟨g, b, none⟩) ∧ BRow ρ.z j o g b := by
  unfold bptrOf at h
  split at h
  · rename_i a b
    cases hb : (Nat.beq (a % 8) 0 && Nat.ble 8 a) with
    | false => rw [hb] at h; cases h
    | true =>
      rw [hb] at h
      rw [Bool.and_eq_true] at hb
      have hm := Nat.eq_of_beq_eq_true hb.1
      have hle := Nat.le_of_ble_eq_true hb.2
      have hr : VR ρ (.complex .f32 a b) v := hr
      cases hr with
      | any hs => omega
      | @bptr j' _ g q hh =>
        rw [cond_true, show (j' * 8 + 8) / 8 - 1 = j' by omega] at h
        cases h
        exact ⟨_, _, rfl, hh⟩
      | _ => omega
  · cases h
/-- A slice of at most mx rows. -/
def bslUOf (x : X) : Option Nat := match x with
  | .sc (.oth (.complex .f32 a b)) => cond (Nat.beq (a % 8) 7) (some b) none
  | _ => none
theorem bslU_real {ρ : Names} {x : X} {v : Value} {mx : Nat} (h : bslUOf x = some mx) (hr : VR ρ x.toV v) : ∃ j n, n ≤ mx ∧ BS ρ.z j n v := by
  unfold bslUOf at h
  split at h
  · rename_i a b
    cases hb : Nat.beq (a % 8) 7 with
    | false => rw [hb] at h; cases h
    | true =>
      rw [hb] at h
      cases h
      have hm := Nat.eq_of_beq_eq_true hb
      have hr : VR ρ (.complex .f32 a mx) v := hr
      cases hr with
      | any hs => simp at hm
      | bslU hh hn => exact ⟨_, _, hn, hh⟩
      | _ => omega
  · cases h
theorem bptrX_rel {ρ : Names} {j o g b : Nat} (h : BRow ρ.z j o g b) : VR ρ (bptrX j o).toV (.pointer (some ⟨g, b, none⟩)) := .bptr h
theorem bslX_rel {ρ : Names} {j n : Nat} {v : Value} (h : BS ρ.z j n v) : VR ρ (bslX j n).toV v := .bsl h
/-- An index that is unknown: the greatest that it may be. -/
def topOf (x : X) : Option Nat := match x with
  | .sc (.oth (.complex .f64 _ b)) => some b
  | _ => none
theorem topOf_real {ρ : Names} {x : X} {v : Value} {hi : Nat} (h : topOf x = some hi) (hr : VR ρ x.toV v) : ∃ (k : IntKind) (n : Nat), v = .int k (n : Int) ∧ n ≤ hi := by
  unfold topOf at h
  split at h
  · rename_i a b
    cases h
    have hr : VR ρ (.complex .f64 a hi) v := hr
    cases hr with
    | @rng k' a' _ n h1 h2 hw => exact ⟨k', n, rfl, h2⟩
  · cases h
/-- An index within bounds into a slice of a named block, whose elements are one cell: the block, from where to where. -/
def ptrUOfI (sz : Nat) (x y : X) : Option (Nat × Nat × Nat) := match x, y with
  | .sc (.slice b q n _), .sc (.oth (.complex .f64 a hi)) => cond (Nat.beq sz 1 && (Nat.blt hi n && Nat.blt (Nat.add q hi) 4096)) (some (b, Nat.add q (Nat.div a 8), Nat.add q hi)) none
  | _, _ => none
def ptrUX (k lo hi : Nat) : X := .sc (.oth (.float .f32 (((k * 4096 + lo) * 4096 + hi) * 2)))
theorem ptrUX_rel {ρ : Names} {k g o lo hi : Nat} {c : Option Nat} (h : ρ k = some (g, c)) (h1 : lo ≤ o) (h2 : o ≤ hi) (hl : lo < 4096) (hh : hi < 4096) : VR ρ (ptrUX k lo hi).toV (.pointer (some ⟨g, o, none⟩)) := VR.ptrU h h1 h2 hl hh
/-- A place in a named block. -/
def ptrUOf (x : X) : Option (Nat × Nat × Nat) := match x with
  | .sc (.oth (.float .f32 n)) => cond (Nat.beq (n % 2) 0) (some (Nat.div (Nat.div n 2) 16777216, Nat.mod (Nat.div (Nat.div n 2) 4096) 4096, Nat.mod (Nat.div n 2) 4096)) none
  | _ => none
theorem dec_k {k lo hi : Nat} (hl : lo < 4096) (hh : hi < 4096) : Nat.div ((k * 4096 + lo) * 4096 + hi) 16777216 = k := by show ((k * 4096 + lo) * 4096 + hi) / 16777216 = k; omega
theorem dec_lo {k lo hi : Nat} (hl : lo < 4096) (hh : hi < 4096) : Nat.mod (Nat.div ((k * 4096 + lo) * 4096 + hi) 4096) 4096 = lo := by show ((k * 4096 + lo) * 4096 + hi) / 4096 % 4096 = lo; omega
theorem dec_hi {k lo hi : Nat} (hl : lo < 4096) (hh : hi < 4096) : Nat.mod ((k * 4096 + lo) * 4096 + hi) 4096 = hi := by show ((k * 4096 + lo) * 4096 + hi) % 4096 = hi; omega
theorem ptrU_real {ρ : Names} {x : X} {v : Value} {k lo hi : Nat} (h : ptrUOf x = some (k, lo, hi)) (hr : VR ρ x.toV v) : ∃ g o c, ρ k = some (g, c) ∧ v = .pointer (some ⟨g, o, none⟩) ∧ lo ≤ o ∧ o ≤ hi := by
  unfold ptrUOf at h
  split at h
  · rename_i n
    cases hb : Nat.beq (n % 2) 0 with
    | false => rw [hb] at h; cases h
    | true =>
      rw [hb] at h
      cases h
      have h0 := Nat.eq_of_beq_eq_true hb
      have hr : VR ρ (.float .f32 n) v := hr
      cases hr with
      | @ptrU k' g o lo' hi' c hk h1 h2 hl hh =>
        clear h0 hb
        have e0 : Nat.div (((k' * 4096 + lo') * 4096 + hi') * 2) 2 = (k' * 4096 + lo') * 4096 + hi' := Nat.mul_div_cancel _ (by decide)
        rw [e0]
        rw [dec_k hl hh, dec_lo hl hh, dec_hi hl hh]
        exact ⟨_, _, _, hk, rfl, h1, h2⟩
      | symN hk hw => omega
  · cases h
/-- An i64 int. -/
def isI64 (x : X) : Bool := match x with
  | .sc (.int .i64 n) => Nat.ble n 9223372036854775807
  | .sc (.oth (.float .f64 t)) => Nat.beq t 3
  | .sc (.oth (.complex .f64 a _)) => Nat.beq (a % 8) 3
  | .sc (.oth (.float .f32 n)) => Nat.beq (n % 2) 1
  | _ => false
theorem isI64_rel {v : V} (h : isI64 (.sc v) = true) {ρ : Names} {v' : Value} (hr : VR ρ v.toV v') : VR ρ (.float .f64 3) v' := by
  unfold isI64 at h
  split at h
  · rename_i n e
    cases e
    have hr : VR ρ (.int .i64 (n : Int)) v' := hr
    rw [hr.plain_eq rfl]
    exact .anyI (k := .i64) (wrap_nat (k := .i64) (by have := Nat.le_of_ble_eq_true h; show n < 9223372036854775808; omega))
  · rename_i t e
    cases e
    have := Nat.eq_of_beq_eq_true h
    subst this
    exact hr
  · rename_i a b e
    cases e
    have h3 := Nat.eq_of_beq_eq_true h
    have hr : VR ρ (.complex .f64 a b) v' := hr
    cases hr with
    | @rng k a b n h1 h2 hw =>
      have := kidx_lt k
      have : k = .i64 := kidx_inj (by show kidx k = 3; omega)
      subst this
      exact .anyI (k := .i64) hw
  · rename_i n e
    cases e
    have h1 := Nat.eq_of_beq_eq_true h
    have hr : VR ρ (.float .f32 n) v' := hr
    cases hr with
    | ptrU hk _ _ _ _ => omega
    | symN hk hw => exact .anyI (k := .i64) hw
  · cases h
noncomputable def intsFrom (H : Heap) (k lo cnt : Nat) : Bool := Nat.rec (motive := fun _ => Bool) true (fun i ih => cond ih (load1 H k (Nat.add lo i) isI64 false) false) cnt
theorem intsFrom_get {H : Heap} {k lo : Nat} : ∀ {cnt : Nat}, intsFrom H k lo cnt = true → ∀ i, i < cnt → load1 H k (lo + i) isI64 false = true
  | 0, _, i, hi => absurd hi (Nat.not_lt_zero i)
  | n + 1, h, i, hi => by
    have h : cond (intsFrom H k lo n) (load1 H k (Nat.add lo n) isI64 false) false = true := h
    cases hb : intsFrom H k lo n with
    | false => rw [hb] at h; cases h
    | true =>
      rw [hb, cond_true] at h
      by_cases e : i = n
      · subst e; exact h
      · exact intsFrom_get hb i (by omega)
noncomputable def pureB (P : Program) (G D : Nat) (o : Oper) : Box (PureC D) := match o.op with
  | .indexAddr t x y => match elemSz P t with
    | some (sz, none) => bx (pureQ P G D o) fun f => bx (evC D x) fun e => bx (evC D y) fun e2 => ⟨fun T k => match bslOf (e T) with
      | some (j, n) => cond (Nat.beq sz (RT j).length) (match topOf (e2 T) with
        | some hi => cond (Nat.blt hi n) (k (bptrX j 0)) false
        | none => onInt (e2 T) (fun i => cond (Nat.blt i n) (k (bptrX j 0)) false) false) false
      | none => match ptrUOfI sz (e T) (e2 T) with
        | some (b, lo, hi) => k (ptrUX b lo hi)
        | none => f T k⟩
    | _ => pureQ P G D o
  | .fieldAddr t x i => match fieldOff P t i with
    | some off => bx (pureQ P G D o) fun f => bx (evC D x) fun e => ⟨fun T k => match bptrOf (e T) with
      | some (j, q) => k (bptrX j (Nat.add q off))
      | none => f T k⟩
    | none => pureQ P G D o
  | .nilCheck x => bx (pureQ P G D o) fun f => bx (evC D x) fun e => ⟨fun T k => match bptrOf (e T) with
      | some (j, q) => k (bptrX j q)
      | none => f T k⟩
  | .call ⟨.builtin .len, ⟨[x]⟩, ⟨[t]⟩⟩ => cond (isSl P t) (bx (pureQ P G D o) fun f => bx (evC D x) fun e => ⟨fun T k => match bslOf (e T) with
      | some (_, n) => k (.sc (.int .i64 n))
      | none => match bslUOf (e T) with
        | some mx => k (.sc (.oth (.complex .f64 3 mx)))
        | none => f T k⟩) (pureQ P G D o)
  | _ => pureQ P G D o
theorem pureB_ok (hs : notSelect o = true) : PureOk P G D o (pureB P G D o).f := by
  have gen := pureQ_ok (P := P) (G := G) (D := D) (o := o) hs
  unfold pureB
  split
  · rename_i t x y hop
    split
    · rename_i sz hsz
      rw [bx_f, bx_f, bx_f]
      intro T k h
      have h : (match bslOf (evX T x) with
        | some (j, n) => cond (Nat.beq sz (RT j).length) (match topOf (evX T y) with
          | some hi => cond (Nat.blt hi n) (k (bptrX j 0)) false
          | none => onInt (evX T y) (fun i => cond (Nat.blt i n) (k (bptrX j 0)) false) false) false
        | none => match ptrUOfI sz (evX T x) (evX T y) with
          | some (b, lo, hi) => k (ptrUX b lo hi)
          | none => (pureQ P G D o).f T k) = true := h
      split at h
      · rename_i j n hx0
        cases hb : Nat.beq sz (RT j).length with
        | false => rw [hb] at h; cases h
        | true =>
          rw [hb, cond_true] at h
          have hzz := Nat.eq_of_beq_eq_true hb
          have fin : k (bptrX j 0) = true → (∀ {ρ : Names} {a : Act}, VR ρ (evX T y).toV (a.eval y) → ∃ (kd : IntKind) (i : Nat), a.eval y = .int kd (i : Int) ∧ i < n) → ∃ x, k x = true ∧ Ans P G D o T x := fun hk hidx => by
            refine ⟨_, hk, fun ρ a hO _ => ?_⟩
            have hx := hO x (by rw [hop]; simp [Op.operands])
            have hy := hO y (by rw [hop]; simp [Op.operands])
            obtain ⟨kd, i, hi, hj⟩ := hidx hy
            obtain ⟨ad, c, hv, _, _, hrow⟩ := (bsl_real hx0 hx).row
            obtain ⟨g, q, rfl, hin⟩ := hrow (by omega)
            unfold elemSz at hsz
            split at hsz
            · rename_i el hu
              split at hsz
              · rename_i inf hinf
                cases hsz
                refine ⟨.pointer (some ⟨g, q + i * inf.size, none⟩), ?_, fun w => ?_⟩
                · have := hin i hj
                  rw [← hzz] at this
                  exact bptrX_rel this
                · simp only [execOp, hop, hv, hi]
                  exact exec_v (run_indexSlice hu hinf (by omega) w)
              · cases hsz
            · split at hsz <;> cases hsz
            · cases hsz
          split at h
          · rename_i hi ht
            cases hb2 : Nat.blt hi n with
            | false => rw [hb2] at h; cases h
            | true =>
              rw [hb2] at h
              have := Nat.le_of_ble_eq_true hb2
              exact fin h fun hy => by
                obtain ⟨kd, i, e, hle⟩ := topOf_real ht hy
                exact ⟨kd, i, e, by omega⟩
          · rcases onInt_ways h with ⟨kd, i, e2, h⟩ | h
            · cases hb2 : Nat.blt i n with
              | false => rw [hb2] at h; cases h
              | true =>
                rw [hb2] at h
                exact fin h fun hy => by
                  rw [show evX T y = _ from e2] at hy
                  exact ⟨kd, i, int_real hy, Nat.le_of_ble_eq_true hb2⟩
            · cases h
      · split at h
        · rename_i b lo hi hq
          unfold ptrUOfI at hq
          split at hq
          · rename_i b' q n c a hi' hxe hye
            cases hb : (Nat.beq sz 1 && (Nat.blt hi' n && Nat.blt (Nat.add q hi') 4096)) with
            | false => rw [hb] at hq; cases hq
            | true =>
              rw [hb] at hq
              cases hq
              simp only [Bool.and_eq_true] at hb
              obtain ⟨b1, b2, b3⟩ := hb
              have b1 := Nat.eq_of_beq_eq_true b1
              have b2 : hi' < n := Nat.le_of_ble_eq_true b2
              have b3 : q + hi' < 4096 := Nat.le_of_ble_eq_true b3
              refine ⟨_, h, fun ρ a2 hO _ => ?_⟩
              have hx := hO x (by rw [hop]; simp [Op.operands])
              have hy := hO y (by rw [hop]; simp [Op.operands])
              rw [hxe] at hx
              rw [hye] at hy
              obtain ⟨g, q', c', d, hk, hv, hoff⟩ := slice_real hx
              have hoff := hoff (by omega)
              subst hoff
              have hy : VR ρ (.complex .f64 a hi') (a2.eval y) := hy
              obtain ⟨kd, i, hi, hlo, hhi⟩ : ∃ (kd : IntKind) (i : Nat), a2.eval y = .int kd (i : Int) ∧ a / 8 ≤ i ∧ i ≤ hi' := by
                generalize a2.eval y = vv at hy
                cases hy with
                | @rng k' a' _ n' h1 h2 hw =>
                  have := kidx_lt k'
                  exact ⟨k', n', rfl, by omega, h2⟩
              unfold elemSz at hsz
              split at hsz
              · rename_i el hu
                split at hsz
                · rename_i inf hinf
                  cases hsz
                  refine ⟨.pointer (some ⟨g, q' + i * inf.size, none⟩), ?_, fun w => ?_⟩
                  · rw [b1, Nat.mul_one]
                    exact ptrUX_rel hk (show q' + a / 8 ≤ q' + i by omega) (show q' + i ≤ q' + hi' by omega) (show q' + a / 8 < 4096 by omega) b3
                  · simp only [execOp, hop, hv, hi]
                    exact exec_v (run_indexSlice hu hinf (by omega) w)
                · cases hsz
              · split at hsz <;> cases hsz
              · cases hsz
          · cases hq
        · exact gen T k h
    · exact gen
  · rename_i t x i hop
    split
    · rename_i off hoff
      rw [bx_f, bx_f]
      intro T k h
      have h : (match bptrOf (evX T x) with
        | some (j, q) => k (bptrX j (Nat.add q off))
        | none => (pureQ P G D o).f T k) = true := h
      split at h
      · rename_i j q hx0
        refine ⟨_, h, Ans.of1 (x := x) (by rw [hop]; simp [Op.operands]) fun ρ a hx => ?_⟩
        obtain ⟨g, b, hv, hrow⟩ := bptr_real hx0 hx
        unfold fieldOff at hoff
        split at hoff
        · rename_i fields hu
          split at hoff
          · rename_i f hf
            split at hoff
            · rename_i inf hi
              cases hb : Nat.beq inf.size 0 with
              | true => rw [hb] at hoff; cases hoff
              | false =>
                rw [hb] at hoff
                cases hoff
                refine ⟨.pointer (some ⟨g, b + f.offset, none⟩), bptrX_rel (hrow.part f.offset), fun w => ?_⟩
                simp only [execOp, hop, hv]
                exact exec_v (run_fieldAt hu hf hi (Nat.ne_of_beq_eq_false hb) g b w)
            · cases hoff
          · cases hoff
        · cases hoff
      · exact gen T k h
    · exact gen
  · rename_i x hop
    rw [bx_f, bx_f]
    intro T k h
    have h : (match bptrOf (evX T x) with
        | some (j, q) => k (bptrX j q)
        | none => (pureQ P G D o).f T k) = true := h
    split at h
    · rename_i j q hx0
      refine ⟨_, h, Ans.of1 (x := x) (by rw [hop]; simp [Op.operands]) fun ρ a hx => ?_⟩
      obtain ⟨g, b, hv, hrow⟩ := bptr_real hx0 hx
      refine ⟨_, bptrX_rel hrow, fun w => ?_⟩
      simp only [execOp, hop, hv]
      rfl
    · exact gen T k h
  · rename_i x t hop
    cases hb : isSl P t with
    | false => exact gen
    | true =>
      rw [cond_true, bx_f, bx_f]
      intro T k h
      have h : (match bslOf (evX T x) with
        | some (_, n) => k (.sc (.int .i64 n))
        | none => match bslUOf (evX T x) with
          | some mx => k (.sc (.oth (.complex .f64 3 mx)))
          | none => (pureQ P G D o).f T k) = true := h
      split at h
      · rename_i j n hx0
        refine ⟨_, h, Ans.of1 (x := x) (by rw [hop]; simp [Op.operands, Call.operands]) fun ρ a hx => ?_⟩
        obtain ⟨ad, c, hv, _⟩ := (bsl_real hx0 hx).row
        refine ⟨.int .i64 (n : Int), .int _ _, fun w => ?_⟩
        unfold isSl at hb
        split at hb
        · rename_i el hu
          simp only [execOp, hop, resolve, invoke, builtin, hv, Builtin.len_, Sem.run_bind, Sem.run_pure, Result.andThen_ok, List.map_toArray, List.map_cons, List.map_nil]
          simp [run_underlying hu w]
          rfl
        · cases hb
      · split at h
        · rename_i mx hx0
          refine ⟨_, h, Ans.of1 (x := x) (by rw [hop]; simp [Op.operands, Call.operands]) fun ρ a hx => ?_⟩
          obtain ⟨j, n, hle, hbs⟩ := bslU_real hx0 hx
          obtain ⟨ad, c, hv, hnc, hcm, _⟩ := hbs.row
          refine ⟨.int .i64 (n : Int), .rng (k := .i64) (a := 0) (Nat.zero_le _) hle (wrap_nat (k := .i64) (by unfold maxLen at hcm; show n < 9223372036854775808; omega)), fun w => ?_⟩
          unfold isSl at hb
          split at hb
          · rename_i el hu
            simp only [execOp, hop, resolve, invoke, builtin, hv, Builtin.len_, Sem.run_bind, Sem.run_pure, Result.andThen_ok, List.map_toArray, List.map_cons, List.map_nil]
            simp [run_underlying hu w]
            rfl
          · cases hb
        · exact gen T k h
  · exact gen
/-! ### Loads, slices -/
theorem brow_cell {W w : World} {R : Nat → Prop} {ρ : Names} {H : Nat → AObj} {l : Ents} (hrk : Rk W R w ρ H l) {j o g b : Nat} (h : BRow ρ.z j o g b) : ∃ f : Nat → Value, ∀ i ct, (RT j)[o + i]? = some ct → w.cell? ⟨g, b + i, none⟩ = some (f i) ∧ VR ρ ct.toV.toV (f i) := by
  obtain ⟨f, hf⟩ := h
  refine ⟨f, fun i ct hi => ?_⟩
  obtain ⟨h1, h2⟩ := hf i ct hi
  exact ⟨hrk.zcell h1, h2.rel⟩
/-- n cells of a row of type j from o on. -/
def rowT (j o n : Nat) : Option (List V) := cond (Nat.ble (o + n) (RT j).length) (some ((((RT j).drop o).take n).map CT.toV)) none
theorem rowT_get {j o n : Nat} {l : List V} (h : rowT j o n = some l) : l.length = n ∧ ∀ i v, l[i]? = some v → i < n ∧ ∃ ct, (RT j)[o + i]? = some ct ∧ v = ct.toV := by
  unfold rowT at h
  cases hb : Nat.ble (o + n) (RT j).length with
  | false => rw [hb] at h; cases h
  | true =>
    rw [hb] at h
    cases h
    have := Nat.le_of_ble_eq_true hb
    refine ⟨by rw [List.length_map, List.length_take, List.length_drop]; omega, fun i v hv => ?_⟩
    rw [List.getElem?_map, List.getElem?_take] at hv
    by_cases hi : i < n
    · rw [if_pos hi, List.getElem?_drop] at hv
      cases hq : (RT j)[o + i]? with
      | none => rw [hq] at hv; cases hv
      | some ct => rw [hq] at hv; cases hv; exact ⟨hi, ct, rfl, rfl⟩
    · rw [if_neg hi] at hv; cases hv
noncomputable def readB (P : Program) (G D : Nat) (old : Box (ReadC D)) (o : Oper) : Box (ReadC D) := match o.op with
  | .load t x => match loadKind P t with
    | some none => bx old fun f => bx (evC D x) fun e => ⟨fun T st k => match bptrOf (e T) with
      | some (j, q) => match (RT j)[q]? with
        | some ct => k (.sc ct.toV)
        | none => false
      | none => match ptrUOf (e T) with
        | some (b, lo, hi) => cond (intsFrom st.H b lo (Nat.add (Nat.sub hi lo) 1)) (k (.sc (.oth (.float .f64 3)))) false
        | none => f T st k⟩
    | some (some n) => bx old fun f => bx (evC D x) fun e => ⟨fun T st k => match bptrOf (e T) with
      | some (j, q) => match rowT j q n with
        | some l => k (.agg l)
        | none => false
      | none => f T st k⟩
    | none => old
  | .slice t x lo hi none => match elemSz P t with
    | some (sz, none) => bx old fun f => bx (evC D x) fun e => bx (optC D lo) fun fl => bx (optC D hi) fun fh => ⟨fun T st k => match bslOf (e T) with
      | some (j, n) => fl T fun l => fh T fun h => cond (Nat.beq sz (RT j).length && (Nat.ble (l.getD 0) (h.getD n) && Nat.ble (h.getD n) n)) (k (bslX j (Nat.sub (h.getD n) (l.getD 0)))) false
      | none => f T st k⟩
    | _ => old
  | _ => old
theorem readB_ok {old : Box (ReadC D)} (gen : ReadOk P G D o old.f) : ReadOk P G D o (readB P G D old o).f := by
  unfold readB
  split
  · rename_i t x hop
    split
    · rename_i hk
      obtain ⟨d, inf, hu, hd, hi⟩ := loadKind_one hk
      rw [bx_f, bx_f]
      intro T st k h
      have h : (match bptrOf (evX T x) with
        | some (j, q) => match (RT j)[q]? with
          | some ct => k (.sc ct.toV)
          | none => false
        | none => match ptrUOf (evX T x) with
          | some (b, lo, hi) => cond (intsFrom st.H b lo (Nat.add (Nat.sub hi lo) 1)) (k (.sc (.oth (.float .f64 3)))) false
          | none => old.f T st k) = true := h
      split at h
      · rename_i j q hx0
        split at h
        · rename_i ct hct
          refine ⟨_, h, fun W R ρ a w l hO _ hrk => ?_⟩
          have hx := hO x (by rw [hop]; simp [Op.operands])
          obtain ⟨g, b, hv, hrow⟩ := bptr_real hx0 hx
          obtain ⟨f, hf⟩ := brow_cell hrk hrow
          obtain ⟨hc, hr⟩ := hf 0 ct (by rw [Nat.add_zero]; exact hct)
          refine ⟨f 0, hr, ?_⟩
          simp only [execOp, hop, hv]
          rw [Nat.add_zero] at hc
          exact exec_v (run_loadVar1 hc hu hd)
        · cases h
      · split at h
        · rename_i b lo hi2 hq
          cases hb : intsFrom st.H b lo (Nat.add (Nat.sub hi2 lo) 1) with
          | false => rw [hb] at h; cases h
          | true =>
            rw [hb, cond_true] at h
            refine ⟨_, h, fun W R ρ a w l hO _ hrk => ?_⟩
            have hx := hO x (by rw [hop]; simp [Op.operands])
            obtain ⟨g, o2, c, hk2, hv, h1, h2⟩ := ptrU_real hq hx
            have hl := intsFrom_get hb (o2 - lo) (by show o2 - lo < hi2 - lo + 1; omega)
            rw [show lo + (o2 - lo) = o2 by omega] at hl
            rcases load1_ways hl with ⟨v, hv2, hc⟩ | hf
            · obtain ⟨v', hv', hr⟩ := hrk.cell hk2 hc
              refine ⟨v', isI64_rel hv2 hr, ?_⟩
              simp only [execOp, hop, hv]
              exact exec_v (run_loadVar1 hv' hu hd)
            · cases hf
        · exact gen T st k h
    · rename_i n hk
      obtain ⟨d, inf, hu, hd, hi, hsz⟩ := loadKind_row hk
      rw [bx_f, bx_f]
      intro T st k h
      have h : (match bptrOf (evX T x) with
        | some (j, q) => match rowT j q n with
          | some l => k (.agg l)
          | none => false
        | none => old.f T st k) = true := h
      split at h
      · rename_i j q hx0
        split at h
        · rename_i vl hvl
          obtain ⟨hlen, hget⟩ := rowT_get hvl
          refine ⟨_, h, fun W R ρ a w l hO _ hrk => ?_⟩
          have hx := hO x (by rw [hop]; simp [Op.operands])
          obtain ⟨g, b, hv, hrow⟩ := bptr_real hx0 hx
          obtain ⟨f, hf⟩ := brow_cell hrk hrow
          refine ⟨.agg ((List.range n).map f).toArray, ?_, ?_⟩
          · have q : LR ρ (vl.map V.toV) ((List.range n).map f) := by
              refine ⟨by simp [hlen], fun i y y' hy hy' => ?_⟩
              rw [List.getElem?_map] at hy hy'
              cases hvi : vl[i]? with
              | none => rw [hvi] at hy; cases hy
              | some u =>
                rw [hvi] at hy
                obtain ⟨hi2, ct, hct, rfl⟩ := hget i u hvi
                rw [List.getElem?_range hi2] at hy'
                cases hy; cases hy'
                exact (hf i ct hct).2
            have q := q.array
            exact .agg q.1 q.2
          · simp only [execOp, hop, hv]
            refine exec_v (run_loadAgg hu hd hi ?_ fun j2 v2 hv2 => ?_)
            · rw [List.length_map, List.length_range, hsz]
            · have hj : j2 < n := by have := (List.getElem?_eq_some_iff.1 hv2).1; simpa using this
              rw [List.getElem?_map, List.getElem?_range hj] at hv2
              cases hv2
              have hlt : j2 < vl.length := by rw [hlen]; exact hj
              obtain ⟨_, ct, hct, _⟩ := hget j2 _ (List.getElem?_eq_getElem hlt)
              exact (hf j2 ct hct).1
        · cases h
      · exact gen T st k h
    · exact gen
  · rename_i t x lo hi hop
    have mem : ∀ y, y = x ∨ lo = some y ∨ hi = some y → y ∈ o.op.operands := fun y hy => by
      rw [hop]
      simp only [Op.operands, Array.mem_append, Option.mem_toArray]
      rcases hy with rfl | h | h
      · simp
      · simp [h]
      · simp [h]
    split
    · rename_i sz hsz
      rw [bx_f, bx_f, bx_f, bx_f]
      intro T st k h
      have h : (match bslOf (evX T x) with
        | some (j, n) => (optC D lo).f T fun l => (optC D hi).f T fun h => cond (Nat.beq sz (RT j).length && (Nat.ble (l.getD 0) (h.getD n) && Nat.ble (h.getD n) n)) (k (bslX j (Nat.sub (h.getD n) (l.getD 0)))) false
        | none => old.f T st k) = true := h
      split at h
      · rename_i j n hx0
        obtain ⟨l, h, hl⟩ := optC_ways h
        obtain ⟨hh, h, hhh⟩ := optC_ways h
        cases hb : (Nat.beq sz (RT j).length && (Nat.ble (l.getD 0) (hh.getD n) && Nat.ble (hh.getD n) n)) with
        | false => rw [hb] at h; cases h
        | true =>
          rw [hb] at h
          simp only [Bool.and_eq_true] at hb
          obtain ⟨b0, b1, b2⟩ := hb
          have b0 := Nat.eq_of_beq_eq_true b0
          have b1 := Nat.le_of_ble_eq_true b1
          have b2 := Nat.le_of_ble_eq_true b2
          refine ⟨_, h, fun W R ρ a w ll hO hG hrk => ?_⟩
          have hx := hO x (mem x (.inl rfl))
          obtain ⟨ad, c, hv, hpart⟩ := (bsl_real hx0 hx).part b1 b2
          obtain ⟨ad2, c2, hv2, hnc, hmc, _⟩ := (bsl_real hx0 hx).row
          rw [hv] at hv2
          cases hv2
          unfold elemSz at hsz
          split at hsz
          · rename_i e hu
            split at hsz
            · rename_i inf hinf
              cases hsz
              have r := run_sliceSl (P := P) hu hinf (hl ρ a fun y hy => hO y (mem y (.inr (.inl hy)))) (hhh ρ a fun y hy => hO y (mem y (.inr (.inr hy)))) (mx := none) (m := none) .none (cap := c) (len := n) (a := ad) (by show c ≤ c; exact Nat.le_refl _) (by show hh.getD n ≤ c; omega) b1 (by intro q; cases q) w
              refine ⟨_, ?_, by simp only [execOp, hop, hv]; exact exec_v r⟩
              refine bslX_rel (hpart _ fun hlt g o e => ?_)
              subst e
              show (if c = l.getD 0 then (some ⟨g, o, none⟩ : Option Addr) else (some ⟨g, o, none⟩ : Option Addr).map (·.add (l.getD 0 * inf.size))) = _
              rw [if_neg (by omega)]
              show some ((⟨g, o, none⟩ : Addr).add (l.getD 0 * inf.size)) = _
              rw [add_plain, b0]
            · cases hsz
          · split at hsz <;> cases hsz
          · cases hsz
      · exact gen T st k h
    · exact gen
  · exact gen
end
end
section
open Go Go.RowKit Go.BigFrame
def likeB : Value → Bool
  | .bool _ => true
  | .complex .f32 5 0 => true
  | _ => false
theorem likeB_real {ρ : Names} {v v' : Value} (h : likeB v = true) (hr : VR ρ v v') : ∃ b, v' = .bool b := by
  unfold likeB at h
  split at h
  · cases hr; exact ⟨_, rfl⟩
  · generalize hq : (5 : Nat) = t at hr
    generalize hz : (0 : Nat) = z at hr
    cases hr with
    | any hs => cases hq
    | anyB b => exact ⟨b, rfl⟩
    | _ => omega
  · cases h
def likeI (x y : Value) : Bool := match ivV x, ivV y with
  | some (i, _, _), some (j, _, _) => Nat.beq i j
  | _, _ => false
theorem likeI_real {ρ : Names} {x y x' y' : Value} (h : likeI x y = true) (hx : VR ρ x x') (hy : VR ρ y y') : ∃ k m n, x' = .int k m ∧ y' = .int k n := by
  unfold likeI at h
  split at h
  · rename_i i l1 u1 j l2 u2 e1 e2
    have hij := Nat.eq_of_beq_eq_true h
    obtain ⟨k, m, ex, hk, _⟩ := ivV_sound hx e1
    obtain ⟨k', n, ey, hk', _⟩ := ivV_sound hy e2
    have : k = k' := kidx_inj (by rw [hk, hk', hij])
    subst this
    exact ⟨k, m, n, ex, ey⟩
  · cases h
/-- The comparison of two values of these types gives something. -/
def eqS (P : Program) : Nat → TypeId → Value → Value → Bool
  | 0, _, _, _ => false
  | d + 1, t, x, y => match P.underlying t with
    | some .bool => likeB x && likeB y
    | some (.int _) => likeI x y
    | some (.struct fs) => match x, y with
      | .agg xs, .agg ys => !P.stoodInHeld t && fs.toList.all fun f => f.name == "_" || (match partV P f.type xs f.offset, partV P f.type ys f.offset with | some a, some b => eqS P d f.type a b | _, _ => false)
      | _, _ => false
    | _ => false
theorem partV_rel {P : Program} {ρ : Names} {t : TypeId} {xs xs' : Array Value} {off : Nat} {a : Value} (h : AR ρ xs xs') (hp : partV P t xs off = some a) : ∃ a', partV P t xs' off = some a' ∧ VR ρ a a' := by
  unfold partV at hp ⊢
  cases hu : P.underlying t with
  | none => rw [hu] at hp; cases hp
  | some d =>
    rw [hu] at hp
    dsimp only at hp ⊢
    by_cases hd : d.isRow = true
    · rw [if_pos hd] at hp ⊢
      cases hi : P.info? t with
      | none => rw [hi] at hp; cases hp
      | some i =>
        rw [hi] at hp
        cases hp
        have e := h.extract off (off + i.size)
        exact ⟨_, rfl, .agg e.1 e.2⟩
    · rw [if_neg hd] at hp ⊢
      exact h.get hp
theorem eqS_ok {P : Program} {ρ : Names} : ∀ (d : Nat) (t : TypeId) {x y x' y' : Value}, eqS P d t x y = true → VR ρ x x' → VR ρ y y' → ∃ b, eqV P d t x' y' = some b
  | 0, _, _, _, _, _, h, _, _ => by simp [eqS] at h
  | d + 1, t, x, y, x', y', h, hx, hy => by
    unfold eqS at h
    unfold eqV
    cases hu : P.underlying t with
    | none => rw [hu] at h; cases h
    | some kd =>
      rw [hu] at h
      cases kd with
      | bool =>
        replace h : (likeB x && likeB y) = true := h
        rw [Bool.and_eq_true] at h
        obtain ⟨a, rfl⟩ := likeB_real h.1 hx
        obtain ⟨b, rfl⟩ := likeB_real h.2 hy
        exact ⟨_, rfl⟩
      | int q =>
        obtain ⟨k, m, n, rfl, rfl⟩ := likeI_real h hx hy
        exact ⟨_, if_pos rfl⟩
      | struct fs =>
        dsimp only at h
        split at h
        · rename_i xs ys
          rw [Bool.and_eq_true] at h
          obtain ⟨h1, h2⟩ := h
          cases hx with
          | @agg _ xs' a1 a2 =>
            cases hy with
            | @agg _ ys' b1 b2 =>
              show ∃ b, (if P.stoodInHeld t = false then eqF P (eqV P d) fs.toList xs' ys' else none) = some b
              rw [if_pos (by simpa using h1)]
              have key : ∀ l : List Field, (l.all fun f => f.name == "_" || (match partV P f.type xs f.offset, partV P f.type ys f.offset with | some a, some b => eqS P d f.type a b | _, _ => false)) = true → ∃ b, eqF P (eqV P d) l xs' ys' = some b := by
                intro l
                induction l with
                | nil => exact fun _ => ⟨true, rfl⟩
                | cons f l ih =>
                  intro hl
                  rw [List.all_cons, Bool.and_eq_true] at hl
                  obtain ⟨r, hr⟩ := ih hl.2
                  unfold eqF
                  by_cases hn : f.name = "_"
                  · rw [if_pos hn]; exact ⟨r, hr⟩
                  · rw [if_neg hn]
                    have h3 := hl.1
                    rw [Bool.or_eq_true] at h3
                    rcases h3 with h3 | h3
                    · exact absurd (by simpa using h3) hn
                    · split at h3
                      · rename_i a b ha hb
                        obtain ⟨a', ha', har⟩ := partV_rel ⟨a1, a2⟩ ha
                        obtain ⟨b', hb', hbr⟩ := partV_rel ⟨b1, b2⟩ hb
                        obtain ⟨q, hq⟩ := eqS_ok d f.type h3 har hbr
                        rw [ha', hb']
                        dsimp only
                        rw [hq, hr]
                        exact ⟨q && r, rfl⟩
                      · cases h3
              exact key _ h2
        · cases h
      | _ => cases h
/-! ### Values that are determined -/
/-- Whatever is real of both is the same. -/
noncomputable def idV (a b : V) : Bool := (eqVv a b && adrFree a.toV) || (match a, b with
  | .oth (.float .f32 n), .oth (.float .f32 m) => Nat.beq n m && Nat.beq (n % 2) 1
  | _, _ => false)
theorem idV_eq {ρ : Names} {a b : V} {v v' : Value} (h : idV a b = true) (ha : VR ρ a.toV v) (hb : VR ρ b.toV v') : v = v' := by
  unfold idV at h
  rw [Bool.or_eq_true] at h
  rcases h with h | h
  · rw [Bool.and_eq_true] at h
    have := eqVv_eq _ _ h.1
    subst this
    rw [ha.plain_eq h.2, hb.plain_eq h.2]
  · split at h
    · rename_i n m
      rw [Bool.and_eq_true] at h
      have e := Nat.eq_of_beq_eq_true h.1
      have h1 := Nat.eq_of_beq_eq_true h.2
      subst e
      have ha : VR ρ (.float .f32 n) v := ha
      have hb : VR ρ (.float .f32 n) v' := hb
      cases ha with
      | ptrU hk _ _ _ _ => omega
      | @symN k p hk hw =>
        generalize hq : k * 2 + 1 = q at hb
        cases hb with
        | ptrU hk _ _ _ _ => omega
        | @symN k' p' hk' hw' =>
          have : k' = k := by omega
          subst this
          rw [hk] at hk'
          cases hk'
          rfl
    · cases h
noncomputable def idL : List V → List V → Bool
  | [], [] => true
  | a :: l, b :: r => idV a b && idL l r
  | _, _ => false
theorem idL_eq {ρ : Names} : ∀ {l r : List V} {vs us : List Value}, idL l r = true → LR ρ (l.map V.toV) vs → LR ρ (r.map V.toV) us → vs = us
  | [], [], vs, us, _, h1, h2 => by
    have e1 : vs = [] := List.eq_nil_of_length_eq_zero (by simpa using h1.1.symm)
    have e2 : us = [] := List.eq_nil_of_length_eq_zero (by simpa using h2.1.symm)
    rw [e1, e2]
  | [], _ :: _, _, _, h, _, _ => by cases h
  | _ :: _, [], _, _, h, _, _ => by cases h
  | a :: l, b :: r, vs, us, h, h1, h2 => by
    unfold idL at h
    rw [Bool.and_eq_true] at h
    cases vs with
    | nil => have := h1.1; simp at this
    | cons v vs => cases us with
      | nil => have := h2.1; simp at this
      | cons u us =>
        have e := idV_eq h.1 (h1.2 0 _ _ rfl rfl) (h2.2 0 _ _ rfl rfl)
        have t1 : LR ρ (l.map V.toV) vs := ⟨by have := h1.1; simpa using this, fun i x y hx hy => h1.2 (i + 1) x y (by simpa using hx) (by simpa using hy)⟩
        have t2 : LR ρ (r.map V.toV) us := ⟨by have := h2.1; simpa using this, fun i x y hx hy => h2.2 (i + 1) x y (by simpa using hx) (by simpa using hy)⟩
        rw [e, idL_eq h.2 t1 t2]
noncomputable def idX (x y : X) : Bool := match aggL x, aggL y with
  | some l, some r => idL l r
  | _, _ => false
theorem idX_eq {ρ : Names} {x y : X} {v v' : Value} (h : idX x y = true) (hx : VR ρ x.toV v) (hy : VR ρ y.toV v') : v = v' := by
  unfold idX at h
  split at h
  · rename_i l r hl hr
    rw [aggL_toV hl] at hx
    rw [aggL_toV hr] at hy
    cases hx with
    | @agg _ a1 p1 p2 => cases hy with
      | @agg _ a2 q1 q2 =>
        have := idL_eq (ρ := ρ) (vs := a1.toList) (us := a2.toList) h ⟨by simpa using p1, fun i x y hx hy => p2 i x y (by simpa using hx) (by simpa using hy)⟩ ⟨by simpa using q1, fun i x y hx hy => q2 i x y (by simpa using hx) (by simpa using hy)⟩
        rw [Array.toList_inj.1 this]
  · cases h
theorem eqV_refl {P : Program} : ∀ (d : Nat) (t : TypeId) {x : Value} {b : Bool}, eqV P d t x x = some b → b = true
  | 0, _, _, _, h => by simp [eqV] at h
  | d + 1, t, x, b, h => by
    unfold eqV at h
    cases hu : P.underlying t with
    | none => rw [hu] at h; cases h
    | some kd =>
      rw [hu] at h
      cases kd with
      | bool => cases x with
        | bool a => dsimp only at h; simpa using h.symm
        | _ => cases h
      | int q => cases x with
        | int k a => dsimp only at h; simpa using h.symm
        | _ => cases h
      | string => cases x with
        | string a => dsimp only at h; simpa using h.symm
        | _ => cases h
      | struct fs => cases x with
        | agg xs =>
          dsimp only at h
          split at h
          · have key : ∀ (l : List Field) (b : Bool), eqF P (eqV P d) l xs xs = some b → b = true := by
              intro l
              induction l with
              | nil => intro b h; simp only [eqF, Option.some.injEq] at h; exact h.symm
              | cons f l ih =>
                intro b h
                unfold eqF at h
                split at h
                · exact ih b h
                · cases ha : partV P f.type xs f.offset with
                  | none => rw [ha] at h; cases h
                  | some a =>
                    rw [ha] at h
                    simp only [Option.bind_eq_some_iff, Option.map_eq_some_iff] at h
                    obtain ⟨q, hq, r, hr, rfl⟩ := h
                    rw [eqV_refl d _ hq, ih _ hr]
                    rfl
            exact key _ b h
          · cases h
        | _ => cases h
      | array n e => cases x with
        | agg xs =>
          dsimp only at h
          split at h
          · have key : ∀ (l : List Nat) (b : Bool), eqI P (eqV P d) e l xs xs = some b → b = true := by
              intro l
              induction l with
              | nil => intro b h; simp only [eqI, Option.some.injEq] at h; exact h.symm
              | cons f l ih =>
                intro b h
                unfold eqI at h
                cases ha : partV P e xs (f * P.cellsOf e) with
                | none => rw [ha] at h; cases h
                | some a =>
                  rw [ha] at h
                  simp only [Option.bind_eq_some_iff, Option.map_eq_some_iff] at h
                  obtain ⟨q, hq, r, hr, rfl⟩ := h
                  rw [eqV_refl d _ hq, ih _ hr]
                  rfl
            exact key _ b h
          · cases h
        | _ => cases h
      | _ => cases h
def isAggX (x : X) : Bool := match x with
  | .agg _ => true
  | .tree _ _ _ => true
  | _ => false
theorem isAggX_real {ρ : Names} {x : X} {v : Value} (h : isAggX x = true) (hr : VR ρ x.toV v) : ∃ cs, v = .agg cs := by
  unfold isAggX at h
  split at h
  · rename_i l
    have hr : VR ρ (.agg (l.map V.toV).toArray) v := hr
    cases hr; exact ⟨_, rfl⟩
  · rename_i d n t
    have hr : VR ρ (.agg (lst t n).toArray) v := hr
    cases hr; exact ⟨_, rfl⟩
  · cases h
def eqOp (op : BinOp) : Bool := match op with
  | .eql | .neq => true
  | _ => false
def isEql (op : BinOp) : Bool := match op with
  | .eql => true
  | _ => false
def ordOp (op : BinOp) : Bool := match op with
  | .lss | .leq | .gtr | .geq | .eql | .neq => true
  | _ => false
section
variable {P : Program} {G D : Nat} {o : Oper}
def anyBX : X := .sc (.oth (.complex .f32 5 0))
/-- A comparison where the order of operations is drawn: what is not known is any truth value. -/
noncomputable def cmpU (P : Program) (op : BinOp) (t : TypeId) (x y : X) (k : X → Bool) (d : Bool) : Bool :=
  cond (isAggX x && isAggX y) (cond (selfOk x.toV && selfOk y.toV) d (cond (eqS P 10 t x.toV y.toV) (cond (idX x y) (k (.sc (.bool (isEql op)))) (k anyBX)) false))
    (cond (symX x || symX y) (match ivV x.toV, ivV y.toV with
      | some (i, l1, h1), some (j, l2, h2) => cond (Nat.beq i j) (match wayOf op l1 h1 l2 h2 with
        | some .t => k (.sc (.bool true))
        | some .f => k (.sc (.bool false))
        | some .both => k anyBX
        | none => false) false
      | _, _ => false) d)
noncomputable def pureE (P : Program) (G D : Nat) (old : Box (PureC D)) (o : Oper) : Box (PureC D) := match o.op with
  | .binOp op t x y _ => cond (ordOp op && !P.eqGuardType P.depth t) (bx old fun f => bx (evC D x) fun ex => bx (evC D y) fun ey => ⟨fun T k => cond (eqOp op || !isAggX (ex T)) (cmpU P op t (ex T) (ey T) k (f T k)) (f T k)⟩) old
  | _ => old
theorem pureE_ok {old : Box (PureC D)} (gen : PureOk P G D o old.f) : PureOk P G D o (pureE P G D old o).f := by
  unfold pureE
  split
  · rename_i op t x y t2 hop
    cases hg : (ordOp op && !P.eqGuardType P.depth t) with
    | false => exact gen
    | true =>
      rw [Bool.and_eq_true] at hg
      have hgt : P.eqGuardType P.depth t = false := by simpa using hg.2
      rw [cond_true, bx_f, bx_f, bx_f]
      intro T k h
      have h : cond (eqOp op || !isAggX (evX T x)) (cmpU P op t (evX T x) (evX T y) k (old.f T k)) (old.f T k) = true := h
      cases hq : (eqOp op || !isAggX (evX T x)) with
      | false => rw [hq] at h; exact gen T k h
      | true =>
        rw [hq, cond_true] at h
        unfold cmpU at h
        cases ha : (isAggX (evX T x) && isAggX (evX T y)) with
        | true =>
          rw [ha, cond_true] at h
          rw [Bool.and_eq_true] at ha
          have heq : op = .eql ∨ op = .neq := by
            rw [ha.1] at hq
            have hq : eqOp op = true := by simpa using hq
            unfold eqOp at hq
            split at hq
            · exact .inl rfl
            · exact .inr rfl
            · cases hq
          cases hs : (selfOk (evX T x).toV && selfOk (evX T y).toV) with
          | true => rw [hs] at h; exact gen T k h
          | false =>
            rw [hs, cond_false] at h
            cases he : eqS P 10 t (evX T x).toV (evX T y).toV with
            | false => rw [he] at h; cases h
            | true =>
              rw [he, cond_true] at h
              cases hid : idX (evX T x) (evX T y) with
              | true =>
                rw [hid, cond_true] at h
                refine ⟨_, h, fun ρ a hO _ => ?_⟩
                have hx := hO x (by rw [hop]; simp [Op.operands])
                have hy := hO y (by rw [hop]; simp [Op.operands])
                obtain ⟨b, hv⟩ := eqS_ok 10 t he hx hy
                obtain ⟨xs, hxs⟩ := isAggX_real ha.1 hx
                obtain ⟨ys, hys⟩ := isAggX_real ha.2 hy
                have hsame := idX_eq hid hx hy
                have hb : b = true := by rw [hsame] at hv; exact eqV_refl 10 t hv
                subst hb
                rw [hxs, hys] at hv
                rcases heq with rfl | rfl
                · refine ⟨.bool true, .bool true, fun w => ?_⟩
                  unfold execOp
                  simp only [hop, hxs, hys, Sem.run_bind, run_eqGuard_agg w .eql t x y xs ys hgt, Result.andThen_ok, run_eql_V hv, Sem.run_pure]
                · refine ⟨.bool false, .bool false, fun w => ?_⟩
                  unfold execOp
                  simp only [hop, hxs, hys, Sem.run_bind, run_eqGuard_agg w .neq t x y xs ys hgt, Result.andThen_ok, run_neq_V hv, Sem.run_pure]
                  rfl
              | false =>
                rw [hid, cond_false] at h
                refine ⟨_, h, fun ρ a hO _ => ?_⟩
                have hx := hO x (by rw [hop]; simp [Op.operands])
                have hy := hO y (by rw [hop]; simp [Op.operands])
                obtain ⟨b, hv⟩ := eqS_ok 10 t he hx hy
                obtain ⟨xs, hxs⟩ := isAggX_real ha.1 hx
                obtain ⟨ys, hys⟩ := isAggX_real ha.2 hy
                rw [hxs, hys] at hv
                rcases heq with rfl | rfl
                · refine ⟨.bool b, .anyB b, fun w => ?_⟩
                  unfold execOp
                  simp only [hop, hxs, hys, Sem.run_bind, run_eqGuard_agg w .eql t x y xs ys hgt, Result.andThen_ok, run_eql_V hv, Sem.run_pure]
                · refine ⟨.bool !b, .anyB _, fun w => ?_⟩
                  unfold execOp
                  simp only [hop, hxs, hys, Sem.run_bind, run_eqGuard_agg w .neq t x y xs ys hgt, Result.andThen_ok, run_neq_V hv, Sem.run_pure]
        | false =>
          rw [ha, cond_false] at h
          cases hsy : (symX (evX T x) || symX (evX T y)) with
          | false => rw [hsy] at h; exact gen T k h
          | true =>
            rw [hsy, cond_true] at h
            split at h
            · rename_i i l1 u1 j l2 u2 e1 e2
              cases hb : Nat.beq i j with
              | false => rw [hb] at h; cases h
              | true =>
                rw [hb, cond_true] at h
                have hij := Nat.eq_of_beq_eq_true hb
                have fin : ∀ {q : Way} {r : X}, wayOf op l1 u1 l2 u2 = some q → (∀ {b : Bool}, q.has b → ∀ ρ, VR ρ r.toV (.bool b)) → k r = true → ∃ x, k x = true ∧ Ans P G D o T x := fun {q r} hw hr hk => by
                  refine ⟨_, hk, fun ρ a hO _ => ?_⟩
                  have hx := hO x (by rw [hop]; simp [Op.operands])
                  have hy := hO y (by rw [hop]; simp [Op.operands])
                  obtain ⟨k1, m, ex, hk1, a1, a2⟩ := ivV_sound hx e1
                  obtain ⟨k2, n, ey, hk2, b1, b2⟩ := ivV_sound hy e2
                  have : k1 = k2 := kidx_inj (by rw [hk1, hk2, hij])
                  subst this
                  obtain ⟨b, hb, hrun⟩ := wayOf_has (P := P) (t := t) hw a1 a2 b1 b2
                  exact ⟨.bool b, hr hb ρ, fun w => run_bin2 hop ex ey hrun w⟩
                split at h
                · rename_i hw; exact fin hw (fun hb ρ => by cases hb; exact .bool true) h
                · rename_i hw; exact fin hw (fun hb ρ => by cases hb; exact .bool false) h
                · rename_i hw; exact fin hw (fun _ ρ => .anyB _) h
                · cases h
            · cases h
  · exact gen
end
end
section
open Go
section
variable {P : Program} {ρ : Names}
/-- The entry with this key. -/
noncomputable def findM (P : Program) (t : TypeId) (key : Value) : List MapEntry → Nat → Option (Option (Nat × Value))
  | [], _ => some none
  | e :: es, i => match prun P (Op.equal t key e.key) with
    | some true => some (some (i, e.val))
    | some false => findM P t key es (i + 1)
    | none => none
/-- What was found says this of what is found. -/
def FR (ρ : Names) : Option (Nat × Value) → Option (Nat × Value) → Prop
  | none, none => True
  | some (i, v), some (j, u) => i = j ∧ VR ρ v u
  | _, _ => False
theorem findAsking_run {t : TypeId} {key : Value} : ∀ {es es' : List MapEntry} {i : Nat} {r : Option (Nat × Value)}, ER ρ es es' → findM P t key es i = some r → ∃ r', (∀ w, (Instr.findAsking t key es' i).run P w = .ok r' w) ∧ FR ρ r r'
  | [], [], i, r, _, h => by cases h; exact ⟨none, fun w => rfl, trivial⟩
  | [], _ :: _, _, _, he, _ => by have := he.1; simp at this
  | _ :: _, [], _, _, he, _ => by have := he.1; simp at this
  | e :: es, e' :: es', i, r, he, h => by
    have h0 := he.2 0 e e' rfl rfl
    have ht : ER ρ es es' := ⟨by have := he.1; simpa using this, fun j x x' hx hx' => he.2 (j + 1) x x' (by simpa using hx) (by simpa using hx')⟩
    have go : ∀ (b : Bool), prun P (Op.equal t key e.key) = some b → ∀ w, (Instr.findAsking t key (e' :: es') i).run P w = (if b then Sem.pure (some (i, e'.val)) else Instr.findAsking t key es' (i + 1)).run P w := fun b hb w => by
      have := prun_run hb w
      rw [← h0.1] at this
      show Sem.run P (Op.equal t key e'.key >>= fun b => if b then Sem.pure (some (i, e'.val)) else Instr.findAsking t key es' (i + 1)) w = _
      rw [Sem.run_bind, this, Result.andThen_ok]
    unfold findM at h
    cases hb : prun P (Op.equal t key e.key) with
    | none => rw [hb] at h; cases h
    | some b =>
      rw [hb] at h
      cases b with
      | true =>
        cases h
        exact ⟨some (i, e'.val), fun w => (go true hb w).trans rfl, rfl, h0.2.2⟩
      | false =>
        obtain ⟨r', h1, h2⟩ := findAsking_run ht h
        exact ⟨r', fun w => (go false hb w).trans (h1 w), h2⟩
def isAggV : Value → Bool
  | .agg _ => true
  | _ => false
theorem findKey_run {t : TypeId} {d : TypeDesc} {key : Value} (hk : isAggV key = true) (hd : prun P (underlying t) = some d) {es es' : List MapEntry} {r : Option (Nat × Value)} (he : ER ρ es es') (h : findM P t key es 0 = some r) :
    ∃ r', (∀ w, (Instr.findKey t key es').run P w = .ok r' w) ∧ FR ρ r r' := by
  obtain ⟨r', h1, h2⟩ := findAsking_run he h
  refine ⟨r', fun w => ?_, h2⟩
  show Sem.run P (underlying t >>= fun d => match Instr.findNow d key es' 0 with | some r => Sem.pure r | none => Instr.findAsking t key es') w = _
  rw [Sem.run_bind, prun_run hd w, Result.andThen_ok]
  cases key <;> first | (cases hk; done) | skip
  rename_i cs
  cases es' with
  | nil => exact h1 w
  | cons e' es' =>
    have : Instr.findNow d (.agg cs) (e' :: es') 0 = none := by
      unfold Instr.findNow Instr.sameNow
      cases d <;> rfl
    rw [this]
    exact h1 w
/-- The entries of the map. -/
noncomputable def entsOf (H : Nat → AObj) : Value → Option (List MapEntry)
  | .map none => some []
  | .map (some k) => match H k with
    | .mp es _ => some es
    | _ => none
  | _ => none
noncomputable def ansOf (ok : Bool) (v : Value) (b : Bool) : Value := if ok then .tuple #[v, .bool b] else v
noncomputable def lookX (P : Program) (H : Nat → AObj) (t : TypeId) (m key : Value) (ok : Bool) : Option Value :=
  match prun P (underlying t) with
  | some (.map kt et) => match entsOf H m with
    | some es => cond (isAggV key && selfOk key) (match prun P (Instr.checkKey es.isEmpty 10000 kt key) with
      | some _ => match prun P (underlying kt) with
        | some _ => match findM P kt key es 0 with
          | some (some (_, v)) => some (ansOf ok v true)
          | some none => match prun P (zeroValue et) with
            | some z => cond (selfOk z) (some (ansOf ok z false)) none
            | none => none
          | none => none
        | none => none
      | none => none) none
    | none => none
  | _ => none
theorem ansOf_vr {ok : Bool} {v u : Value} (h : VR ρ v u) (b : Bool) : VR ρ (ansOf ok v b) (ansOf ok u b) := by
  unfold ansOf
  cases ok with
  | false => exact h
  | true =>
    refine .tuple rfl fun i x x' hx hx' => ?_
    match i with
    | 0 => cases hx; cases hx'; exact h
    | 1 => cases hx; cases hx'; exact .bool b
    | n + 2 => simp at hx
variable {W w : World} {R : Nat → Prop} {st : St} {l : Ents} {G D : Nat} {o : Oper}
theorem Rk.mp {H : Nat → AObj} (hs : Rk W R w ρ H l) {k g : Nat} {c : Option Nat} (hk : ρ k = some (g, c)) {es : List MapEntry} {cl : Nat} (hf : H k = .mp es cl) : ∃ es', ER ρ es es' ∧ Has l g (MapIs es' cl) := by
  have h := hs.rel k
  rw [hf] at h
  rcases h with h | ⟨g', es', hk', hc, hh⟩
  · rw [hs.res k h] at hk; cases hk
  · rw [hk] at hk'; cases hk'; exact ⟨es', hc, hh⟩
theorem lookup_run {H : Nat → AObj} (hs : Rk W R w ρ H l) {t : TypeId} {m m' key key' : Value} {ok : Bool} {v : Value} (h : lookX P H t m key ok = some v) (hm : VR ρ m m') (hk : VR ρ key key') :
    ∃ v', VR ρ v v' ∧ (Instr.lookup t m' key' ok).run P w = .ok v' w := by
  unfold lookX at h
  cases hu : prun P (underlying t) with
  | none => rw [hu] at h; cases h
  | some d =>
    rw [hu] at h
    cases d <;> first | (cases h; done) | skip
    rename_i kt et
    dsimp only at h
    cases he : entsOf H m with
    | none => rw [he] at h; cases h
    | some es =>
      rw [he] at h
      dsimp only at h
      cases hka : (isAggV key && selfOk key) with
      | false => rw [hka] at h; cases h
      | true =>
        rw [hka, cond_true] at h
        rw [Bool.and_eq_true] at hka
        have hkk := (hk.self_eq hka.2).symm
        subst hkk
        -- the entries of the real map
        have ents : ∃ es', ER ρ es es' ∧ ((m' = .map none ∧ es' = []) ∨ ∃ g cl, m' = .map (some g) ∧ w.heap[g]? = some (.map es'.toArray cl)) := by
          unfold entsOf at he
          cases hm <;> first | (cases he; done) | skip
          · cases he
            exact ⟨[], ⟨rfl, fun i x x' hx => by simp at hx⟩, .inl ⟨rfl, rfl⟩⟩
          · rename_i k g c hkg
            dsimp only at he
            split at he
            · rename_i es0 cl hf
              cases he
              obtain ⟨es', h1, h2⟩ := hs.mp hkg hf
              obtain ⟨ob, h3, h4⟩ := hs.kn.own _ _ h2
              have h4 : ob = .map es'.toArray cl := h4
              subst h4
              exact ⟨es', h1, .inr ⟨g, cl, rfl, h3⟩⟩
            · cases he
        obtain ⟨es', her, hreal⟩ := ents
        cases hck : prun P (Instr.checkKey es.isEmpty 10000 kt key) with
        | none => rw [hck] at h; cases h
        | some u =>
          rw [hck] at h
          dsimp only at h
          cases hku : prun P (underlying kt) with
          | none => rw [hku] at h; cases h
          | some d2 =>
            rw [hku] at h
            dsimp only at h
            cases hfm : findM P kt key es 0 with
            | none => rw [hfm] at h; cases h
            | some r =>
              rw [hfm] at h
              obtain ⟨r', hr, hfr⟩ := findKey_run hka.1 hku her hfm
              have hemp : es'.toArray.isEmpty = es.isEmpty := by
                have := her.1
                cases es <;> cases es' <;> first | rfl | simp at this
              -- the model's lookup
              have run : (Instr.lookup t m' key ok).run P w = (Sem.run P (match r' with
                  | some (_, v) => pure (v, true)
                  | none => zeroValue et >>= fun z => pure (z, false)) w).andThen fun x w => .ok (ansOf ok x.1 x.2) w := by
                unfold Instr.lookup
                rw [Sem.run_bind, prun_run hu w, Result.andThen_ok]
                dsimp only
                rcases hreal with ⟨rfl, rfl⟩ | ⟨g, cl, rfl, hg⟩
                · have hck' := prun_run hck w
                  rw [← hemp] at hck'
                  dsimp only
                  rw [Sem.run_bind, Sem.run_pure, Result.andThen_ok, Sem.run_bind]
                  erw [hck']
                  rw [Result.andThen_ok, Sem.run_bind, hr w, Result.andThen_ok]
                  cases r' with
                  | some y => rfl
                  | none =>
                    dsimp only
                    rw [Sem.run_bind, Sem.run_bind]
                    cases Sem.run P (zeroValue et) w <;> rfl
                · have hck' := prun_run hck w
                  rw [← hemp] at hck'
                  dsimp only
                  have hgo : Sem.run P (getObj g) w = .ok (.map es'.toArray cl) w := by simp only [getObj, Sem.run, hg]
                  rw [Sem.run_bind, hgo, Result.andThen_ok]
                  dsimp only
                  rw [Sem.run_bind, Sem.run_pure, Result.andThen_ok, Sem.run_bind, hck', Result.andThen_ok, Sem.run_bind, hr w, Result.andThen_ok]
                  cases r' with
                  | some y => rfl
                  | none =>
                    dsimp only
                    rw [Sem.run_bind, Sem.run_bind]
                    cases Sem.run P (zeroValue et) w <;> rfl
              rw [run]
              cases r with
              | none =>
                cases r' with
                | some y => exact absurd hfr id
                | none =>
                  dsimp only at h
                  cases hz : prun P (zeroValue et) with
                  | none => rw [hz] at h; cases h
                  | some z =>
                    rw [hz] at h
                    dsimp only at h
                    cases hzs : selfOk z with
                    | false => rw [hzs] at h; cases h
                    | true =>
                      rw [hzs] at h
                      cases h
                      refine ⟨ansOf ok z false, ansOf_vr (.of_self ρ hzs) _, ?_⟩
                      dsimp only
                      rw [Sem.run_bind, prun_run hz w]
                      rfl
              | some x =>
                obtain ⟨i, u⟩ := x
                cases r' with
                | none => exact absurd hfr id
                | some y =>
                  obtain ⟨j, u'⟩ := y
                  dsimp only at h
                  cases h
                  exact ⟨ansOf ok u' true, ansOf_vr hfr.2 _, rfl⟩
def isLookup : Op → Option (TypeId × Operand × Operand × Bool)
  | .lookup t x y ok => some (t, x, y, ok)
  | _ => none
noncomputable def lookC (P : Program) (D : Nat) (o : Oper) : Box (ReadC D) := match isLookup o.op with
  | some (t, x, y, ok) => bx (evC D x) fun e => bx (evC D y) fun e2 => ⟨fun T st k => match lookX P (fnd st) t (e T).toV (e2 T).toV ok with
    | some v => k (X.ofV v)
    | none => false⟩
  | none => ⟨fun _ _ _ => false⟩
theorem lookC_ok : ReadOk P G D o (lookC P D o).f := by
  unfold lookC
  split
  · rename_i t x y ok hop
    have hop : o.op = .lookup t x y ok := by
      unfold isLookup at hop
      split at hop
      · rename_i h; cases hop; exact h
      · cases hop
    rw [bx_f, bx_f]
    intro T st k h
    have h : (match lookX P (fnd st) t (evX T x).toV (evX T y).toV ok with
      | some v => k (X.ofV v)
      | none => false) = true := h
    split at h
    · rename_i v hv
      refine ⟨_, h, fun W R ρ a w l hO _ hrk => ?_⟩
      obtain ⟨v', h1, h2⟩ := lookup_run hrk hv (hO x (by rw [hop]; simp [Op.operands])) (hO y (by rw [hop]; simp [Op.operands]))
      refine ⟨v', by rw [X.toV_ofV]; exact h1, ?_⟩
      simp only [execOp, hop]
      exact exec_v h2
    · cases h
  · intro T st k h; cases h
/-! ### Updates -/
noncomputable def updX (P : Program) (H : Nat → AObj) (t : TypeId) (m key v : Value) : Option (Nat × List MapEntry × Nat) :=
  match prun P (underlying t) with
  | some (.map kt _) => match m with
    | .map (some k) => match H k with
      | .mp es cl => cond (isAggV key && selfOk key) (match prun P (Instr.checkKey false 10000 kt key) with
        | some _ => match prun P (underlying kt) with
          | some _ => match findM P kt key es 0 with
            | some (some (i, _)) => cond (Instr.sameBits 10000 (((es[i]?).map (·.key)).getD key) key) (some (k, es.modify i (fun e => { e with key := key, val := v }), cl)) none
            | some none => some (k, es ++ [{ key := key, val := v, born := cl }], cl + 1)
            | none => none
          | none => none
        | none => none) none
      | _ => none
    | _ => none
  | _ => none
theorem ER.app {es es' : List MapEntry} (h : ER ρ es es') {e e' : MapEntry} (h1 : e'.key = e.key) (h2 : e'.born = e.born) (h3 : VR ρ e.val e'.val) : ER ρ (es ++ [e]) (es' ++ [e']) := by
  refine ⟨by simp [h.1], fun i x x' hx hx' => ?_⟩
  rw [List.getElem?_append] at hx hx'
  rw [← h.1] at hx'
  split at hx
  · rename_i hi
    rw [if_pos hi] at hx'
    exact h.2 i x x' hx hx'
  · rename_i hi
    rw [if_neg hi] at hx'
    cases hj : i - es.length with
    | zero => rw [hj] at hx hx'; cases hx; cases hx'; exact ⟨h1, h2, h3⟩
    | succ n => rw [hj] at hx; simp at hx
theorem ER.mod {es es' : List MapEntry} (h : ER ρ es es') (i : Nat) (key : Value) {v v' : Value} (hv : VR ρ v v') : ER ρ (es.modify i fun e => { e with key := key, val := v }) (es'.modify i fun e => { e with key := key, val := v' }) := by
  refine ⟨by simp [h.1], fun j x x' hx hx' => ?_⟩
  rw [List.getElem?_modify] at hx hx'
  cases he : es[j]? with
  | none => rw [he] at hx; cases hx
  | some e =>
    cases he' : es'[j]? with
    | none => rw [he'] at hx'; cases hx'
    | some e' =>
      rw [he] at hx
      rw [he'] at hx'
      have q := h.2 j e e' he he'
      by_cases hij : i = j
      · simp [hij] at hx hx'
        subst hx; subst hx'
        exact ⟨rfl, q.2.1, hv⟩
      · simp [hij] at hx hx'
        subst hx; subst hx'
        exact q
/-- Another content of a map. -/
theorem set_mp (hs : Sim W R w ρ st l) {k g : Nat} {c : Option Nat} (hk : ρ k = some (g, c)) {es : List MapEntry} {cl : Nat} (hf : findO k st.H = .mp es cl) {es2 es2' : List MapEntry} {cl2 : Nat} (he : ER ρ es2 es2') :
    ∃ l', Sim W R { w with heap := w.heap.setIfInBounds g (.map es2'.toArray cl2) } ρ ⟨set k (.raw (.mp es2 cl2)) st.H, st.n⟩ l' := by
  obtain ⟨es', _, hh⟩ := hs.rd.mp hk (show fnd st k = .mp es cl from hf)
  have hlt : k < 32768 := find_ge (H := st.H) (by rw [hf]; intro q; cases q)
  obtain ⟨l', rp⟩ := hh.repl (MapIs es2' cl2)
  have hg := hs.kn.lt hh
  have hc : ρ k = some (g, none) := by
    have h := hs.rel k
    rw [hf] at h
    rcases h with h | ⟨g', es', hk', _, _⟩
    · rw [hs.res k h] at hk; cases hk
    · rw [hk] at hk'; cases hk'; exact hk
  have fs : ∀ j, findO j (set k (.raw (.mp es2 cl2)) st.H) = if j = k then .mp es2 cl2 else findO j st.H := fun j => find_set2 hlt _ _ j
  refine ⟨l', hs.kn.upd rfl rfl rfl (by simp) (fun j _ hj => ?_) rp ⟨_, ?_, rfl⟩, fun j => ?_, fun j j' q c c' h h' => ?_, hs.res, hs.rlt, hs.top, hs.base, fun q ob hq => (hs.sn q ob hq).imp id fun hh => rp.keep_ hh (fun e => by rw [e, hs.sd k g none (by rw [hf]; intro q; cases q) hc] at hq; cases hq), fun j q c h hj => hs.sd j q c (by
    rw [fs] at h
    by_cases e : j = k
    · rw [e, hf]; intro q; cases q
    · rw [if_neg e] at h; exact h) hj⟩
  · show (w.heap.setIfInBounds g _)[j]? = _
    rw [Array.getElem?_setIfInBounds, if_neg (fun e => hj e.symm)]
  · show (w.heap.setIfInBounds g _)[g]? = _
    rw [Array.getElem?_setIfInBounds, if_pos rfl, if_pos hg]
  · show ORel R ρ l' j (findO j (set k _ st.H))
    rw [fs]
    by_cases hj : j = k
    · rw [if_pos hj, hj]
      exact .inr ⟨g, es2', hc, he, rp.new_⟩
    · rw [if_neg hj]
      cases ho : findO j st.H with
      | gone => trivial
      | _ =>
        refine ho ▸ (hs.rel j).imp id (.refl _) fun q c Φ hq hhq => rp.keep_ hhq fun e => hj ?_
        exact hs.inj j k g c _ (by rw [ho]; intro q; cases q) (by rw [hf]; intro q; cases q) (e ▸ hq) hk
  · have live : ∀ j, findO j (set k (.raw (.mp es2 cl2)) st.H) ≠ .gone → findO j st.H ≠ .gone := fun j h => by
      rw [fs] at h
      by_cases hj : j = k
      · rw [hj, hf]; intro q; cases q
      · rw [if_neg hj] at h; exact h
    exact hs.inj j j' q c c' (live j h) (live j' h')
theorem update_run (hs : Sim W R w ρ st l) {t : TypeId} {m m' key key' v v' : Value} {k : Nat} {es2 : List MapEntry} {cl2 : Nat} (h : updX P (fnd st) t m key v = some (k, es2, cl2)) (hm : VR ρ m m') (hk : VR ρ key key') (hv : VR ρ v v') :
    ∃ w' l', (Instr.mapUpdate t m' key' v').run P w = .ok () w' ∧ Sim W R w' ρ ⟨set k (.raw (.mp es2 cl2)) st.H, st.n⟩ l' := by
  unfold updX at h
  cases hu : prun P (underlying t) with
  | none => rw [hu] at h; cases h
  | some d =>
    rw [hu] at h
    cases d <;> first | (cases h; done) | skip
    rename_i kt et
    dsimp only at h
    split at h
    case h_2 => cases h
    rename_i m0 k0
    split at h
    case h_2 => cases h
    rename_i es cl hf
    cases hka : (isAggV key && selfOk key) with
    | false => rw [hka] at h; cases h
    | true =>
      rw [hka, cond_true] at h
      rw [Bool.and_eq_true] at hka
      have hkk := (hk.self_eq hka.2).symm
      subst hkk
      cases hm with
      | @map _ g c hkg =>
      have hf : findO k0 st.H = .mp es cl := hf
      obtain ⟨es', her, hh⟩ := hs.rd.mp hkg (show fnd st k0 = .mp es cl from hf)
      obtain ⟨ob, hg, hob⟩ := hs.kn.own _ _ hh
      have hob : ob = .map es'.toArray cl := hob
      subst hob
      cases hck : prun P (Instr.checkKey false 10000 kt key) with
      | none => rw [hck] at h; cases h
      | some u =>
        rw [hck] at h
        dsimp only at h
        cases hku : prun P (underlying kt) with
        | none => rw [hku] at h; cases h
        | some d2 =>
          rw [hku] at h
          dsimp only at h
          cases hfm : findM P kt key es 0 with
          | none => rw [hfm] at h; cases h
          | some r =>
            rw [hfm] at h
            obtain ⟨r', hr, hfr⟩ := findKey_run hka.1 hku her hfm
            have run : (Instr.mapUpdate t (.map (some g)) key v').run P w = (match r' with
                | some (i, _) => Instr.keyThatStays (((es'.toArray[i]?).map fun e : MapEntry => e.key).getD key) key >>= fun key => setObj g (.map (es'.toArray.modify i fun e => { e with key, val := v' }) cl)
                | none => setObj g (.map (es'.toArray.push { key, val := v', born := cl }) (cl + 1))).run P w := by
              have hgo : Sem.run P (getObj g) w = .ok (.map es'.toArray cl) w := by simp only [getObj, Sem.run, hg]
              unfold Instr.mapUpdate
              rw [Sem.run_bind, prun_run hu w, Result.andThen_ok]
              dsimp only
              rw [Sem.run_bind, hgo, Result.andThen_ok]
              dsimp only
              rw [Sem.run_bind, prun_run hck w, Result.andThen_ok, Sem.run_bind, hr w, Result.andThen_ok]
              cases r' <;> rfl
            rw [run]
            cases r with
            | none =>
              cases r' with
              | some y => exact absurd hfr id
              | none =>
                dsimp only at h
                cases h
                obtain ⟨l', hs'⟩ := set_mp (cl2 := cl + 1) hs hkg hf (her.app (e := { key := key, val := v, born := cl }) (e' := { key := key, val := v', born := cl }) rfl rfl hv)
                refine ⟨_, l', ?_, hs'⟩
                simp only [setObj, Sem.run, hg]
                simp
            | some x =>
              obtain ⟨i, u⟩ := x
              cases r' with
              | none => exact absurd hfr id
              | some y =>
                obtain ⟨j, u'⟩ := y
                obtain ⟨hij, _⟩ := hfr
                subst hij
                dsimp only at h
                cases hsb : Instr.sameBits 10000 (((es[i]?).map (·.key)).getD key) key with
                | false => rw [hsb] at h; cases h
                | true =>
                  rw [hsb] at h
                  cases h
                  obtain ⟨l', hs'⟩ := set_mp (cl2 := cl2) hs hkg hf (her.mod i key hv)
                  refine ⟨_, l', ?_, hs'⟩
                  have hold : ((es'.toArray[i]?).map fun e : MapEntry => e.key).getD key = ((es[i]?).map fun e : MapEntry => e.key).getD key := by
                    cases he : es[i]? with
                    | none =>
                      have : es'.toArray[i]? = none := by
                        rw [List.getElem?_eq_none_iff] at he
                        simp [← her.1, he]
                      rw [this]
                    | some e =>
                      obtain ⟨e', he'⟩ : ∃ e', es'[i]? = some e' := ⟨es'[i]'(by rw [← her.1]; exact (List.getElem?_eq_some_iff.1 he).1), List.getElem?_eq_getElem _⟩
                      have : es'.toArray[i]? = some e' := by simpa using he'
                      rw [this]
                      exact (her.2 i e e' he he').1
                  have hks : (Instr.keyThatStays (((es'.toArray[i]?).map fun e : MapEntry => e.key).getD key) key).run P w = .ok key w := by
                    unfold Instr.keyThatStays
                    rw [hold, hsb]
                    rfl
                  dsimp only
                  rw [Sem.run_bind, hks, Result.andThen_ok]
                  simp only [setObj, Sem.run, hg]
                  simp
def isUpd : Op → Option (TypeId × Operand × Operand × Operand)
  | .mapUpdate t m x y => some (t, m, x, y)
  | _ => none
noncomputable def updC (P : Program) (D : Nat) (o : Oper) : Box (LoudC D) := match isUpd o.op with
  | some (t, m, x, y) => bx (evC D m) fun e => bx (evC D x) fun e2 => bx (evC D y) fun e3 => ⟨fun _ T st k => match updX P (fnd st) t (e T).toV (e2 T).toV (e3 T).toV with
    | some (b, es, cl) => k .nil ⟨set b (.raw (.mp es cl)) st.H, st.n⟩
    | none => false⟩
  | none => ⟨fun _ _ _ _ => false⟩
theorem updC_ok : LoudOk P G D o (updC P D o).f := by
  unfold updC
  split
  · rename_i t m x y hop
    have hop : o.op = .mapUpdate t m x y := by
      unfold isUpd at hop
      split at hop
      · rename_i h; cases hop; exact h
      · cases hop
    rw [bx_f, bx_f, bx_f]
    intro F T st k _ h
    have h : (match updX P (fnd st) t (evX T m).toV (evX T x).toV (evX T y).toV with
      | some (b, es, cl) => k .nil ⟨set b (.raw (.mp es cl)) st.H, st.n⟩
      | none => false) = true := h
    split at h
    · rename_i b es cl hx
      refine ⟨_, _, h, fun W R ρ a w l hO _ hs K Q hK => ?_⟩
      obtain ⟨w', l', h1, h2⟩ := update_run hs hx (hO m (by rw [hop]; simp [Op.operands])) (hO x (by rw [hop]; simp [Op.operands])) (hO y (by rw [hop]; simp [Op.operands]))
      have e : (execOp a.eval o).run P w = .ok .skip w' := by
        simp only [execOp, hop]
        show Sem.run P (Instr.mapUpdate t (a.eval m) (a.eval x) (a.eval y) >>= fun _ => Sem.pure Next.skip) w = _
        rw [Sem.run_bind, h1, Result.andThen_ok]
        rfl
      unfold Oper.wp
      rw [e]
      exact hK ρ undef w' l' (.refl _) (.undef ρ) h2
    · cases h
  · intro F T st k _ h; cases h
/-! ### A map that is made -/
noncomputable def mapC2 (o : Oper) : Box (LoudC D) := cond (isMakeMap o.op) ⟨fun _ _ st k => cond (Nat.blt st.n 32768) (k (.sc (.oth (.map (some st.n)))) ⟨set st.n (.raw (.mp [] 0)) st.H, Nat.add st.n 1⟩) false⟩ ⟨fun _ _ _ _ => false⟩
theorem mapC2_ok : LoudOk P G D o (mapC2 o).f := by
  intro F T st k _ h
  unfold mapC2 at h
  cases hb : isMakeMap o.op with
  | false => rw [hb] at h; cases h
  | true =>
    rw [hb] at h
    have h : cond (Nat.blt st.n 32768) (k (.sc (.oth (.map (some st.n)))) ⟨set st.n (.raw (.mp [] 0)) st.H, Nat.add st.n 1⟩) false = true := h
    cases hn : Nat.blt st.n 32768 with
    | false => rw [hn] at h; cases h
    | true =>
      rw [hn, cond_true] at h
      have hlt : st.n < 32768 := Nat.le_of_ble_eq_true hn
      refine ⟨_, _, h, fun W R ρ a w l hO hG hs K Q hK => ?_⟩
      have hop : ∃ t, o.op = .makeMap t none := by
        unfold isMakeMap at hb
        split at hb
        · rename_i t ht; exact ⟨t, ht⟩
        · cases hb
      obtain ⟨t, hop⟩ := hop
      unfold Oper.wp
      have e : (execOp a.eval o).run P w = .ok (.value (.map (some w.heap.size))) (w.alloc (.map #[] 0)) := by
        unfold execOp
        simp only [hop]
        rfl
      rw [e]
      have hkn : Kn [] W (w.alloc (.map #[] 0)) ((w.heap.size, MapIs [] 0) :: l) := hs.kn.alloc (Φ := MapIs [] 0) (.map #[] 0) rfl
      have h1 := hs.new1 (cap := none) (o := .mp [] 0) (Φ := MapIs [] 0) hlt hkn (.inr ⟨_, [], ρ.add_self _ _, ⟨rfl, fun i x x' hx => by simp at hx⟩, .here⟩)
      exact hK (ρ.add st.n (w.heap.size, none)) _ _ _ (NLe.add (hs.top _ (Nat.le_refl _)) _) (.map (ρ.add_self _ _)) h1
end
end
section
open Go
section
variable {P : Program} {G D : Nat} {o : Oper}
noncomputable def loudC (P : Program) (G D : Nat) (o : Oper) : Box (LoudC D) := match o.op with
  | .store .. => storeC P G D o
  | .call ⟨.builtin .append, _, _⟩ => appC P G D o
  | .call ⟨.builtin .copy, _, _⟩ => copyC P G D o
  | .call ⟨.builtin .clear, _, _⟩ => clearC P G D o
  | .call ⟨.value _, _, _⟩ => genCall P D o
  | .makeMap .. => mapC2 o
  | .mapUpdate .. => updC P D o
  | _ => ⟨fun _ _ _ _ => false⟩
noncomputable def newC2 (P : Program) (G D : Nat) (o : Oper) : Box (NewC D) := match o.op with
  | .makeSlice .. => makeC P G D o
  | .buildSlice t len parts => bx (newC P G D o) fun f => oneC P D t len parts f
  | _ => newC P G D o
noncomputable def readC2 (P : Program) (G D : Nat) (o : Oper) : Box (ReadC D) := match o.op with
  | .slice .. => slice3 P G D o
  | .lookup .. => lookC P D o
  | _ => readS P G D o
noncomputable def fastCls (P : Program) (hN : NoNum P) (G D : Nat) : Cls P G D where
  pure_ o := pureE P G D (pureB P G D o) o
  read_ o := readB P G D (readC2 P G D o) o
  new_ := newC2 P G D
  loud_ := loudC P G D
  pureOk o hs := pureE_ok (pureB_ok hs)
  readOk o hs := readB_ok <| by
    unfold readC2
    split
    · exact slice3_ok hs
    · exact lookC_ok
    · exact readS_ok hs
  newOk o hs := by
    unfold newC2
    split
    · exact makeC_ok
    · rename_i hop
      rw [bx_f]
      exact oneC_ok hop (newC_ok hs)
    · exact newC_ok hs
  loudOk o hs := by
    unfold loudC
    split
    · exact storeC_ok
    · exact appC_ok hs
    · exact copyC_ok
    · exact clearC_ok
    · exact genCall_ok hN
    · exact mapC2_ok
    · exact updC_ok
    · intro F T st k _ h; cases h
/-- The functions of a program, computed. -/
noncomputable def runF (P : Program) (hN : NoNum P) (G K : Nat) (hook : FuncId → Option FnC) (n : Nat) : Fns := evalFun P G K (fun D => fastCls P hN G D) (fun N D c ops => drawC N D c ops) hook n
theorem runF_ok (hN : NoNum P) (hm : P.follows .mixedOrders = true) {G K : Nat} {hook : FuncId → Option FnC} (hh : ∀ f h, hook f = some h → FnOk P G f h) (n : Nat) : FnsOk P G (runF P hN G K hook n) :=
  evalFun_ok _ (fun _ _ hND c ops => drawC_ok hm hND c ops) hh n
end
end
section
open Go Go.RowKit Go.BigFrame
/-- What must hold of a program, as it is computed. -/
def progOk (P : Program) : Bool := P.funcs.toList.all (fun fn => !(fn.name == "runtime.NumGoroutine"))
theorem noNum_of {P : Program} (h : progOk P = true) : NoNum P := by
  intro f fn hf
  have hm : fn ∈ P.funcs.toList := Array.mem_toList_iff.2 (Array.mem_of_getElem? hf)
  have := List.all_eq_true.1 h fn hm
  simpa using this
/-- No name is given yet. -/
def noNames (W : World) : Names := ⟨fun _ => none, (W, fun _ => undef), fun _ => none⟩
noncomputable def st0 : St := ⟨noHeap, 0⟩
theorem sim0 (W : World) (s : Nat → Value) : Sim W (fun _ => False) W ⟨fun _ => none, (W, s), fun _ => none⟩ st0 [] :=
  ⟨Kn.start W, fun k => by show ORel _ _ _ k (findO k noHeap); rw [find_none]; trivial, fun k k' g c c' h => absurd (find_none k) h, fun _ _ => rfl, fun _ h => h.elim, fun _ _ => rfl, rfl, (fun _ _ h => (by cases h)), fun _ _ _ _ _ => rfl⟩
theorem Sim.below {W w : World} {R : Nat → Prop} {ρ : Names} {st : St} {l : Ents} (h : Sim W R w ρ st l) : Below W.heap.size W w := h.kn.toBelow
/-- Is the answer true? -/
noncomputable def isTrue (x : X) (_ : St) : Bool := match x with
  | .sc (.bool b) => b
  | _ => false
theorem isTrue_eq {x : X} {st : St} (h : isTrue x st = true) : x = .sc (.bool true) := by
  unfold isTrue at h
  split at h
  · rw [h]
  · cases h
theorem bool_real {ρ : Names} {b : Bool} {v : Value} (h : VR ρ (X.sc (.bool b)).toV v) : v = .bool b := by
  have h : VR ρ (.bool b) v := h
  cases h; rfl
/-- A function without arguments that answers true. -/
theorem calls_true {P : Program} {F : Fns} (hF : FnsOk P 0 F) {f : FuncId} (h : F f [] st0 isTrue = true) (w : World) : Calls P f #[] w fun e w' => e = .returned (.bool true) ∧ Below w.heap.size w w' := by
  obtain ⟨x, st', hk, hx⟩ := hF f [] st0 _ h
  have := isTrue_eq hk
  subst this
  refine Calls.mono (hx w (fun _ => False) (noNames w) #[] w [] (.nil _) (fun g hg => absurd hg (Nat.not_lt_zero g)) (sim0 w _)) fun e w' hh => ?_
  obtain ⟨ρ', v', l', rfl, hle, hv, hs⟩ := hh
  rw [bool_real hv]
  exact ⟨rfl, hs.below⟩
end
section
open Go Go.RowKit Go.BigFrame
/-- Slices of steps, of raw ints and of raw entries are not parted. -/
def partK (a : Nat) : Bool := cond (Nat.beq a 39 || (Nat.beq a 63 || Nat.beq a 71)) false (Nat.beq (a % 8) 7)
theorem partK_mod {a : Nat} (h : partK a = true) : Nat.beq (a % 8) 7 = true := by
  unfold partK at h
  cases hb : (Nat.beq a 39 || (Nat.beq a 63 || Nat.beq a 71)) with
  | true => rw [hb] at h; cases h
  | false => rw [hb] at h; exact h
/-- A value of which two or more things may be true is parted. -/
def splitU (bo al : Bool) (u : Value) (v : V) (k : V → Bool) : Bool := match u with
  | .complex .f32 a b => cond (bo && Nat.beq a 5) (cond (k (.bool true)) (k (.bool false)) false) (cond (al && partK a) (Nat.rec (motive := fun _ => Bool) true (fun i ih => cond ih (k (.oth (.complex .f32 (Nat.sub a 1) i))) false) (Nat.add b 1)) (k v))
  | _ => k v
noncomputable def splitV (bo al : Bool) (v : V) (k : V → Bool) : Bool := V.rec (motive := fun _ => Bool) (fun _ => k v) (fun _ _ => k v) (fun _ _ => k v) (fun _ _ => k v) (fun _ _ _ _ => k v) (fun u => splitU bo al u v k) v
theorem rec_all {f : Nat → Bool} : ∀ {n : Nat}, Nat.rec (motive := fun _ => Bool) true (fun i ih => cond ih (f i) false) n = true → ∀ i, i < n → f i = true
  | 0, _, i, h => absurd h (Nat.not_lt_zero i)
  | n + 1, h, i, hi => by
    have h : cond (Nat.rec (motive := fun _ => Bool) true (fun i ih => cond ih (f i) false) n) (f n) false = true := h
    cases hb : Nat.rec (motive := fun _ => Bool) true (fun i ih => cond ih (f i) false) n with
    | false => rw [hb] at h; cases h
    | true =>
      rw [hb, cond_true] at h
      by_cases e : i = n
      · subst e; exact h
      · exact rec_all hb i (by omega)
theorem splitU_ok {bo al : Bool} {u : Value} {v : V} {k : V → Bool} (hv : v.toV = u) (h : splitU bo al u v k = true) : (∃ w, k w = true) ∧ ∀ {ρ : Names} {v' : Value}, VR ρ u v' → ∃ w, k w = true ∧ VR ρ w.toV v' := by
  have plain : k v = true → (∃ w, k w = true) ∧ ∀ {ρ : Names} {v' : Value}, VR ρ u v' → ∃ w, k w = true ∧ VR ρ w.toV v' := fun h => ⟨⟨_, h⟩, fun hr => ⟨v, h, by rw [hv]; exact hr⟩⟩
  cases u with
  | complex q a b =>
    cases q with
    | f64 => exact plain h
    | f32 =>
      replace h : cond (bo && Nat.beq a 5) (cond (k (.bool true)) (k (.bool false)) false) (cond (al && partK a) (Nat.rec (motive := fun _ => Bool) true (fun i ih => cond ih (k (.oth (.complex .f32 (Nat.sub a 1) i))) false) (Nat.add b 1)) (k v)) = true := h
      cases h5 : (bo && Nat.beq a 5) with
      | true =>
        rw [h5, cond_true] at h
        have e := Nat.eq_of_beq_eq_true (Bool.and_eq_true_iff.1 h5).2
        cases h1 : k (.bool true) with
        | false => rw [h1] at h; cases h
        | true =>
          rw [h1, cond_true] at h
          refine ⟨⟨_, h⟩, fun {ρ v'} hr => ?_⟩
          cases hr with
          | any hs => cases e
          | anyB q => cases q with
            | true => exact ⟨_, h1, .bool true⟩
            | false => exact ⟨_, h, .bool false⟩
          | _ => omega
      | false =>
        rw [h5, cond_false] at h
        cases h7 : (al && partK a) with
        | true =>
          rw [h7, cond_true] at h
          have e := Nat.eq_of_beq_eq_true (partK_mod (Bool.and_eq_true_iff.1 h7).2)
          have all := fun (i : Nat) (hi : i < b + 1) => rec_all (f := fun i => k (.oth (.complex .f32 (Nat.sub a 1) i))) h i hi
          refine ⟨⟨_, all 0 (Nat.succ_pos b)⟩, fun {ρ v'} hr => ?_⟩
          cases hr with
          | any hs => simp at e
          | @bslU j mx n _ hh hn => exact ⟨_, all n (show n < b + 1 by omega), .bsl hh⟩
          | _ => omega
        | false => rw [h7] at h; exact plain h
  | _ => exact plain h
theorem splitV_ok' {bo al : Bool} {v : V} {k : V → Bool} (h : splitV bo al v k = true) : (∃ w, k w = true) ∧ ∀ {ρ : Names} {v' : Value}, VR ρ v.toV v' → ∃ u, k u = true ∧ VR ρ u.toV v' := by
  cases v with
  | oth u =>
    cases hu : u.oneCell' with
    | true =>
      have hq := splitU_ok (V.toV_oth hu) h
      exact ⟨hq.1, fun hr => hq.2 (by rw [V.toV_oth hu] at hr; exact hr)⟩
    | false =>
      have e : splitU bo al u (.oth u) k = k (.oth u) := by cases u <;> first | rfl | cases hu
      have h : splitU bo al u (.oth u) k = true := h
      rw [e] at h
      exact ⟨⟨_, h⟩, fun hr => ⟨_, h, hr⟩⟩
  | _ => exact ⟨⟨_, h⟩, fun hr => ⟨_, h, hr⟩⟩
theorem splitV_ok {bo al : Bool} {v : V} {k : V → Bool} (h : splitV bo al v k = true) {ρ : Names} {v' : Value} (hr : VR ρ v.toV v') : ∃ u, k u = true ∧ VR ρ u.toV v' := (splitV_ok' h).2 hr
noncomputable def splitL (al : Bool) (l : List V) : (List V → Bool) → Bool := List.rec (motive := fun _ => (List V → Bool) → Bool) (fun k => k []) (fun v _ ih k => splitV false al v fun v' => ih fun l' => k (v' :: l')) l
theorem splitL_ok {al : Bool} {ρ : Names} : ∀ {l : List V} {k : List V → Bool}, splitL al l k = true → ∀ {vs : List Value}, LR ρ (l.map V.toV) vs → ∃ l', k l' = true ∧ LR ρ (l'.map V.toV) vs
  | [], k, h, vs, hr => ⟨[], h, hr⟩
  | v :: l, k, h, vs, hr => by
    cases vs with
    | nil => have := hr.1; simp at this
    | cons u us =>
      have h : splitV false al v (fun v' => splitL al l fun l' => k (v' :: l')) = true := h
      obtain ⟨v2, h2, hv2⟩ := splitV_ok h (hr.2 0 _ _ rfl rfl)
      have hrest : LR ρ (l.map V.toV) us := ⟨by have := hr.1; simpa using this, fun i x y hx hy => hr.2 (i + 1) x y (by simpa using hx) (by simpa using hy)⟩
      obtain ⟨l2, h3, hl2⟩ := splitL_ok h2 hrest
      refine ⟨v2 :: l2, h3, by have := hl2.1; simpa using this, fun i x y hx hy => ?_⟩
      cases i with
      | zero => cases hx; cases hy; exact hv2
      | succ i => exact hl2.2 i x y (by simpa using hx) (by simpa using hy)
noncomputable def splitX (al : Bool) (x : X) (k : X → Bool) : Bool := X.rec (motive := fun _ => (X → Bool) → Bool) (fun v k => splitV true al v fun v' => k (.sc v')) (fun l k => splitL al l fun l' => k (.agg l')) (fun d n t k => k (.tree d n t)) (fun k => k .nil) (fun _ _ ih it k => ih fun h' => it fun t' => k (.cons h' t')) (fun v k => k (.raw v)) x k
theorem splitX_gen {al : Bool} {ρ : Names} : ∀ {x : X} {k : X → Bool}, splitX al x k = true → (∀ {v : Value}, VR ρ x.toV v → ∃ x', k x' = true ∧ VR ρ x'.toV v) ∧ (∀ {vs : List Value}, LR ρ x.both.2 vs → ∃ x', k x' = true ∧ LR ρ x'.both.2 vs) := by
  intro x
  induction x with
  | sc v =>
    intro k h
    have h : splitV true al v (fun v' => k (.sc v')) = true := h
    refine ⟨fun hr => ?_, fun {vs} hr => ?_⟩
    · obtain ⟨u, hu, hv⟩ := splitV_ok h hr
      exact ⟨_, hu, hv⟩
    · have hvs : vs = [] := List.eq_nil_of_length_eq_zero hr.1.symm
      subst hvs
      have : ∃ u, k (.sc u) = true := (splitV_ok' h).1
      obtain ⟨u, hu⟩ := this
      exact ⟨_, hu, .nil ρ⟩
  | agg l =>
    intro k h
    have h : splitL al l (fun l' => k (.agg l')) = true := h
    refine ⟨fun {v} hr => ?_, fun {vs} hr => ?_⟩
    · have hr : VR ρ (.agg (l.map V.toV).toArray) v := hr
      cases hr with
      | @agg _ a' h1 h2 =>
        obtain ⟨l', hk, hl⟩ := splitL_ok h (vs := a'.toList) ⟨by simpa using h1, fun i x y hx hy => h2 i x y (by simpa using hx) (by simpa using hy)⟩
        have q := hl.array
        exact ⟨_, hk, .agg q.1 q.2⟩
    · have hvs : vs = [] := List.eq_nil_of_length_eq_zero hr.1.symm
      subst hvs
      have : ∀ {l : List V} {k : List V → Bool}, splitL al l k = true → ∃ l', k l' = true := by
        intro l
        induction l with
        | nil => exact fun {k} h => ⟨[], h⟩
        | cons v l ih =>
          intro k h
          have h : splitV false al v (fun v' => splitL al l fun l' => k (v' :: l')) = true := h
          have hone : ∃ u, splitL al l (fun l' => k (u :: l')) = true := (splitV_ok' h).1
          obtain ⟨u, hu⟩ := hone
          obtain ⟨l', hl'⟩ := ih hu
          exact ⟨_, hl'⟩
      obtain ⟨l', hl'⟩ := this h
      exact ⟨_, hl', .nil ρ⟩
  | tree d n t => exact fun {k} h => ⟨fun hr => ⟨_, h, hr⟩, fun hr => ⟨_, h, hr⟩⟩
  | nil => exact fun {k} h => ⟨fun hr => ⟨_, h, hr⟩, fun hr => ⟨_, h, hr⟩⟩
  | raw v => exact fun {k} h => ⟨fun hr => ⟨_, h, hr⟩, fun hr => ⟨_, h, hr⟩⟩
  | cons x t ihx iht =>
    intro k h
    have h : splitX al x (fun x' => splitX al t fun t' => k (.cons x' t')) = true := h
    have main : ∀ {vs : List Value}, LR ρ (x.toV :: t.both.2) vs → ∃ x' t', k (.cons x' t') = true ∧ LR ρ (x'.toV :: t'.both.2) vs := by
      intro vs hr
      cases vs with
      | nil => have := hr.1; simp at this
      | cons u us =>
        obtain ⟨x', h2, hx'⟩ := (ihx h).1 (hr.2 0 _ _ rfl rfl)
        have hrest : LR ρ t.both.2 us := ⟨by have := hr.1; simpa using this, fun i a b ha hb => hr.2 (i + 1) a b (by simpa using ha) (by simpa using hb)⟩
        obtain ⟨t', h3, ht'⟩ := (iht h2).2 hrest
        refine ⟨x', t', h3, by have := ht'.1; simpa using this, fun i a b ha hb => ?_⟩
        cases i with
        | zero => cases ha; cases hb; exact hx'
        | succ i => exact ht'.2 i a b (by simpa using ha) (by simpa using hb)
    refine ⟨fun {v} hr => ?_, fun {vs} hr => ?_⟩
    · have hr : VR ρ (.tuple (x.toV :: t.both.2).toArray) v := hr
      cases hr with
      | @tuple _ a' h1 h2 =>
        obtain ⟨x', t', hk, hl⟩ := main (vs := a'.toList) ⟨by simpa using h1, fun i a b ha hb => h2 i a b (by simpa using ha) (by simpa using hb)⟩
        have q := hl.array
        exact ⟨_, hk, .tuple q.1 q.2⟩
    · obtain ⟨x', t', hk, hl⟩ := main hr
      exact ⟨_, hk, hl⟩
theorem splitX_ok {al : Bool} {ρ : Names} {x : X} {k : X → Bool} (h : splitX al x k = true) {v : Value} (hr : VR ρ x.toV v) : ∃ x', k x' = true ∧ VR ρ x'.toV v := (splitX_gen h).1 hr
/-- A value of one cell is parted; structs stay as they are. -/
noncomputable def splitS (x : X) (k : X → Bool) : Bool := X.rec (motive := fun _ => Bool) (fun v => splitV true true v fun v' => k (.sc v')) (fun l => k (.agg l)) (fun d n t => k (.tree d n t)) (k .nil) (fun h t _ _ => k (.cons h t)) (fun v => k (.raw v)) x
theorem splitS_ok {ρ : Names} {x : X} {k : X → Bool} (h : splitS x k = true) {v : Value} (hr : VR ρ x.toV v) : ∃ x', k x' = true ∧ VR ρ x'.toV v := by
  cases x with
  | sc u =>
    have h : splitV true true u (fun v' => k (.sc v')) = true := h
    obtain ⟨u', hu, hv⟩ := splitV_ok h hr
    exact ⟨_, hu, hv⟩
  | _ => exact ⟨_, h, hr⟩
end
end Go.Proofs.YtbgdjcoliiinjaaGreat
