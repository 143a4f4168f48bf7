/- VmWidths, with what it needs beside. -/
import Derived.Test.YtbllialcfmpkaaaNextK
import Derived.Test.YtbllialcfmpkaaaMachK
import Derived.Test.YtbllialcfmpkaaaAwakeVm
import Derived.Test.YtbllialcfmpkaaaOkPlain
import Derived.Test.YtbllialcfmpkaaaGrow
import Derived.Test.YtbllialcfmpkaaaProgK
import Derived.StillTailTactics
import Derived.Deep.QuietTactic
import Derived.BigQuiet
set_option linter.unusedVariables false
set_option linter.unusedSimpArgs false
set_option linter.unusedSectionVars false
namespace Go.Proofs.Ytbllialcfmpkaaa
section
open Go Go.RowKit
theorem Ints.form {w : World} {v : Value} {zs : List Int} (h : Ints w v zs) : ∃ a c, v = .slice a zs.length c ∧ zs.length ≤ maxLen := by
  have hm := h.1.1
  simp only [List.length_map] at hm
  rcases h.1.2 with ⟨hL, a, c, rfl⟩ | ⟨g, off, cap, rfl, _⟩
  · have : zs = [] := by simpa using hL
    subst this
    exact ⟨a, c, rfl, by simp⟩
  · exact ⟨_, cap, by rw [List.length_map], hm⟩
theorem ent_app (x : Nat × (Obj → Prop)) (l : Ents) : [x] ++ l = x :: l := rfl
end
section
open Go.RowKit
structure RunFacts (p : List Ins) (v : Vm) (N K : Nat) (a : Vm) (x : Nat) (e : Eff) (c : Vm) (y : Nat) (f : Eff) : Prop where
  r1 : runRes v p N = (a, x, e, 0)
  r2 : runRes v p (N + K : Nat) = (c, y, f, 0)
  x1 : 1 ≤ x
  xN : x ≤ N
  yN : y ≤ N + K
  xy : x ≤ y
  st : (stAt p v x).1 = a
  ef : (stAt p v x).2 = e
  mid : ∀ k, 1 ≤ k → k < x → (stAt p v k).2.kind = 0
theorem runF_kind0 (p : List Ins) {n : Nat} (a : Vm) {e e' : Eff} (h : e.kind = 0) (h' : e'.kind = 0) (hn : 1 ≤ n) : runF p n (a, e) = runF p n (a, e') := by
  obtain ⟨m, rfl⟩ : ∃ m, n = m + 1 := ⟨n - 1, by omega⟩
  rw [runF_go (s := (a, e)) h, runF_go (s := (a, e')) h']
theorem checkE_run {v : Vm} {p : List Ins} (h : VG v) (hs : v.state = 0) (hp : progErr p = 0) {N : Nat} (h0 : 1 ≤ N) (h1 : N ≤ 1000000) : checkE v p (betw N) = 0 := by
  have : betw N = 0 := by unfold betw; rw [if_neg (by omega)]
  rw [this]; exact h.check hs hp
theorem run_facts {p : List Ins} {v : Vm} (h : VG v) (hs : v.state = 0) (hp : progErr p = 0) (hf : ∀ x ∈ p, x.fits) {N K : Nat} (n0 : 1 ≤ N) (n1 : N ≤ 40) (k0 : 1 ≤ K) (k1 : K ≤ 40) :
    ∃ a x e c y f, RunFacts p v N K a x e c y f ∧ ((¬ e.kind = 0 ∧ c = a ∧ y = x ∧ f = e) ∨ (e.kind = 0 ∧ x = N ∧ VG a ∧ ∃ z, runRes a p K = (c, z, f, 0) ∧ y = N + z ∧ z ≤ K)) := by
  have gp := progErr_good hp hf
  have e1 := runRes_ok (checkE_run h hs hp n0 (by omega))
  have e2 := runRes_ok (checkE_run h hs hp (N := N + K) (by omega) (by omega))
  rw [Int.toNat_natCast] at e1 e2
  obtain ⟨q1, q2, q3, q4⟩ := runF_stAt p N v Eff.none rfl n0
  have q5 := runF_count p N (v, Eff.none)
  have q6 := runF_count p (N + K) (v, Eff.none)
  by_cases hk : (runF p N (v, Eff.none)).2.2.kind = 0
  · obtain ⟨s1, s2⟩ := runF_add p N K (v, Eff.none) hk
    obtain ⟨va, sa⟩ := h.runAt hs gp N (fun j j1 j2 => by
      by_cases hj : j = N
      · subst hj; rw [← s2, ← q2]; exact hk
      · exact q4 j j1 (by rw [s2]; omega))
    have va' : VG (runF p N (v, Eff.none)).1 := by rw [q1, s2]; exact va
    have sa' : (runF p N (v, Eff.none)).1.state = 0 := by rw [q1, s2]; exact sa
    have e3 := runRes_ok (checkE_run va' sa' hp k0 (by omega : K ≤ 1000000))
    rw [Int.toNat_natCast, runF_kind0 p _ (show Eff.none.kind = 0 from rfl) hk k0] at e3
    have q7 := runF_count p K ((runF p N (v, Eff.none)).1, (runF p N (v, Eff.none)).2.2)
    refine ⟨_, _, _, _, _, _, ⟨e1, e2, q3, q5, q6, ?_, q1.symm, q2.symm, q4⟩, .inr ⟨hk, s2, va', _, ?_, ?_, q7⟩⟩
    · rw [s1, s2]; exact Nat.le_add_right _ _
    · rw [e3, s1]
    · rw [s1]
  · have s1 := runF_end p N K (v, Eff.none) hk
    refine ⟨_, _, _, _, _, _, ⟨e1, e2, q3, q5, q6, ?_, q1.symm, q2.symm, q4⟩, .inl ⟨hk, by rw [s1], by rw [s1], by rw [s1]⟩⟩
    rw [s1]; exact Nat.le_refl _
theorem RunFacts.vg {p : List Ins} {v : Vm} {N K : Nat} {a : Vm} {x : Nat} {e : Eff} {c : Vm} {y : Nat} {f : Eff} (F : RunFacts p v N K a x e c y f) (h : VG v) (hs : v.state = 0) (hp : Good p) {s : Nat} (hl : s < x) :
    VG (stAt p v s).1 ∧ (stAt p v s).1.state = 0 := h.runAt hs hp s (fun j j1 j2 => F.mid j j1 (by omega))
theorem Instrs.of_kn {M : List Nat} {W w : World} {l : Ents} (KN : Kn M W w l) {g cap : Nat} {p : List Ins} (m : Has l g (CapAt 29 5 cap (p.map fun x => x.cells.toList))) (h1 : p.length ≤ cap) (h2 : cap ≤ maxLen) (hf : ∀ x ∈ p, x.fits) :
    Instrs w (.slice (some ⟨g, 0, none⟩) p.length cap) p := by
  refine ⟨?_, hf⟩
  have hl : ∀ c ∈ p.map (fun x => x.cells.toList), c.length = 5 := by intro c hc; obtain ⟨x, _, rfl⟩ := List.mem_map.1 hc; rfl
  have := OwnT.blk (e := 29) (sz := 5) (g := g) (cap := cap) (L := p.map fun x => x.cells.toList) (by simpa using h1) h2 hl
  have hr := this.row (f := fun o => o) (M := M) (W := W) (w := w) (KN.onlyK m) .id
  simpa using hr
theorem stepRes_at {p : List Ins} {v : Vm} {s : Nat} (h : VG (stAt p v s).1) (hs : (stAt p v s).1.state = 0) (hp : progErr p = 0) : stepRes (stAt p v s).1 p = ((stAt p v (s + 1)).1, (stAt p v (s + 1)).2, 0) :=
  stepRes_ok (h.check hs hp)
end
section
open Go.RowKit
def aluB (op : Int) : Bool := decide (op = 1 ∨ op = 2 ∨ op = 3 ∨ op = 4 ∨ op = 5 ∨ op = 6 ∨ op = 9 ∨ op = 10 ∨ op = 11 ∨ op = 14 ∨ op = 18 ∨ op = 27 ∨ op = 26 ∨ op = 0)
def aluIns (x : Ins) : Ins := if aluB x.op = true then x else ⟨4, x.a, x.b, (x.a + 1) % 16, 0⟩
theorem aluIns_good {x : Ins} {n : Int} (h : insErr x n = 0) (hf : x.fits) : insErr (aluIns x) n = 0 ∧ aluB (aluIns x).op = true ∧ (aluIns x).fits := by
  unfold aluIns
  split
  · exact ⟨h, ‹_›, hf⟩
  · obtain ⟨o0, o1, ht, ha, hb, hc⟩ := insErr_target h
    refine ⟨?_, rfl, ⟨(by show (-2147483648 : Int) ≤ 0 ∧ (0 : Int) ≤ 2147483647; decide), (by show (-9223372036854775808 : Int) ≤ 4 ∧ (4 : Int) ≤ 9223372036854775807; decide)⟩⟩
    have reg : ∀ v : Int, 0 ≤ v → v < 16 → regOk v true = true := by
      intro v h0 h1
      by_cases hz : v = 0
      · subst hz; rfl
      · rw [regOk_used hz _ h0 h1]
    unfold insErr
    rw [if_neg (by show ¬ ((4 : Int) < 0 ∨ (27 : Int) < 4); decide)]
    have u1 : uses 4 97 = true := by decide
    have u2 : uses 4 98 = true := by decide
    have u3 : uses 4 99 = true := by decide
    have u4 : uses 4 105 = false := by decide
    have u5 : uses 4 116 = false := by decide
    simp only [u1, u2, u3, u4, u5]
    rw [reg x.a ha.1 ha.2, reg x.b hb.1 hb.2, reg _ (Int.emod_nonneg _ (by decide)) (Int.emod_lt_of_pos _ (by decide))]
    rfl
/-- A narrow processor and a wide one, alike modulo 2^32. -/
structure Pair (a b : Vm) : Prop where
  wa : a.width = 32
  wb : b.width = 39
  pc : a.pc = b.pc
  st : a.state = b.state
  reg : ∀ i, a.r i = b.r i % 4294967296
theorem Pair.setR {a b : Vm} (h : Pair a b) (la : a.regs.length = 16) (lb : b.regs.length = 16) (i : Nat) (hi : i < 16) (x y : Int) (hxy : x = y % 4294967296) : Pair (a.setR i x) (b.setR i y) :=
  ⟨h.wa, h.wb, h.pc, h.st, fun j => by
    rw [Vm.r_set a i j x la hi, Vm.r_set b i j y lb hi]
    split
    · exact hxy
    · exact h.reg j⟩
theorem Pair.with_ {a b a' b' : Vm} (h : Pair a b) (w1 : a'.width = a.width) (w2 : b'.width = b.width) (r1 : a'.regs = a.regs) (r2 : b'.regs = b.regs) (hp : a'.pc = b'.pc) (hs : a'.state = b'.state) : Pair a' b' :=
  ⟨w1.trans h.wa, w2.trans h.wb, hp, hs, fun i => by have := h.reg i; unfold Vm.r at this ⊢; rw [r1, r2]; exact this⟩
theorem toNat_mod (b : Int) (h : 0 ≤ b) : (b % 4294967296).toNat = b.toNat % 2 ^ 32 := by omega
theorem bit_mod (f : Nat → Nat → Nat) (hf : ∀ m n : Nat, f m n % 2 ^ 32 = f (m % 2 ^ 32) (n % 2 ^ 32)) (b c : Int) (h0 : 0 ≤ b) (h1 : 0 ≤ c) (hb : ∀ m n : Nat, m < 549755813888 → n < 549755813888 → f m n < 549755813888) (b1 : b < 549755813888) (c1 : c < 549755813888) :
    (f (b % 4294967296).toNat (c % 4294967296).toNat : Int) % 4294967296 = ((f b.toNat c.toNat : Nat) : Int) % 549755813888 % 4294967296 := by
  rw [toNat_mod b h0, toNat_mod c h1, ← hf]
  have := hb b.toNat c.toNat (by omega) (by omega)
  have e : (2 : Nat) ^ 32 = 4294967296 := by decide
  rw [e]
  omega
theorem compute_pair (op a b c a' b' c' imm : Int) (ha : a = a' % 4294967296) (hb : b = b' % 4294967296) (hc : c = c' % 4294967296) (b0 : 0 ≤ b') (b1 : b' < 549755813888) (c0 : 0 ≤ c') (c1 : c' < 549755813888)
    (ho : op = 1 ∨ op = 2 ∨ op = 3 ∨ op = 4 ∨ op = 5 ∨ op = 6 ∨ op = 9 ∨ op = 10 ∨ op = 11 ∨ op = 14) :
    compute 32 op a b c (imm % 4294967296) % 4294967296 = compute 39 op a' b' c' (imm % 549755813888) % 549755813888 % 4294967296 := by
  subst ha hb hc
  rcases ho with rfl | rfl | rfl | rfl | rfl | rfl | rfl | rfl | rfl | rfl
  · show imm % 4294967296 % 4294967296 = imm % 549755813888 % 549755813888 % 4294967296; omega
  · show (a' % 4294967296 % 4294967296 + imm % 4294967296 * 4294967296) % 4294967296 = (a' % 4294967296 + imm % 549755813888 * 4294967296) % 549755813888 % 4294967296; omega
  · show b' % 4294967296 % 4294967296 = b' % 549755813888 % 4294967296; omega
  · show (b' % 4294967296 + c' % 4294967296) % 4294967296 = (b' + c') % 549755813888 % 4294967296; omega
  · show (b' % 4294967296 - c' % 4294967296) % 4294967296 = (b' - c') % 549755813888 % 4294967296; omega
  · show (b' % 4294967296 * (c' % 4294967296)) % 4294967296 = (b' * c') % 549755813888 % 4294967296
    rw [← Int.mul_emod]
    generalize b' * c' = z
    omega
  · show (((b' % 4294967296).toNat &&& (c' % 4294967296).toNat : Nat) : Int) % 4294967296 = ((b'.toNat &&& c'.toNat : Nat) : Int) % 549755813888 % 4294967296
    exact bit_mod (· &&& ·) (fun m n => Nat.and_mod_two_pow) b' c' b0 c0 (fun m n h1 _ => Nat.lt_of_le_of_lt Nat.and_le_left h1) b1 c1
  · show (((b' % 4294967296).toNat ||| (c' % 4294967296).toNat : Nat) : Int) % 4294967296 = ((b'.toNat ||| c'.toNat : Nat) : Int) % 549755813888 % 4294967296
    exact bit_mod (· ||| ·) (fun m n => Nat.or_mod_two_pow) b' c' b0 c0 (fun m n h1 h2 => Nat.or_lt_two_pow (n := 39) h1 h2) b1 c1
  · show (((b' % 4294967296).toNat ^^^ (c' % 4294967296).toNat : Nat) : Int) % 4294967296 = ((b'.toNat ^^^ c'.toNat : Nat) : Int) % 549755813888 % 4294967296
    exact bit_mod (· ^^^ ·) (fun m n => Nat.xor_mod_two_pow) b' c' b0 c0 (fun m n h1 h2 => Nat.xor_lt_two_pow (n := 39) h1 h2) b1 c1
  · show (b' % 4294967296 + imm % 4294967296) % 4294967296 = (b' + imm % 549755813888) % 549755813888 % 4294967296; omega
theorem pair_stepI {a b : Vm} {x : Ins} {n : Int} (h : Pair a b) (fa : a.fits) (fb : b.fits) (hx : insErr x n = 0) (ho : aluB x.op = true) : Pair (stepI a x n).1 (stepI b x n).1 ∧ (stepI a x n).2 = (stepI b x n).2 := by
  obtain ⟨o0, o1, _, ha, hb, hc⟩ := insErr_target hx
  have p := h.pc
  have s := h.st
  have wa := h.wa
  have wb := h.wb
  have hai : x.a.toNat < 16 := by omega
  have ho' := of_decide_eq_true ho
  unfold stepI
  by_cases h0 : x.op = 0
  · simp only [if_pos h0]; exact ⟨h.with_ rfl rfl rfl rfl (by show a.pc + 1 = b.pc + 1; omega) rfl, by simp⟩
  simp only [if_neg h0]
  by_cases h18 : x.op = 18
  · simp only [if_pos h18]; exact ⟨h.with_ rfl rfl rfl rfl rfl s, by simp⟩
  simp only [if_neg h18, if_neg (show ¬ x.op = 19 by omega), if_neg (show ¬ x.op = 20 by omega), if_neg (show ¬ x.op = 21 by omega), if_neg (show ¬ x.op = 22 by omega), if_neg (show ¬ x.op = 23 by omega), if_neg (show ¬ x.op = 24 by omega), if_neg (show ¬ x.op = 25 by omega)]
  by_cases h26 : x.op = 26
  · simp only [if_pos h26]; exact ⟨h.with_ rfl rfl rfl rfl (by show a.pc + 1 = b.pc + 1; omega) s, by simp⟩
  simp only [if_neg h26]
  by_cases h27 : x.op = 27
  · simp only [if_pos h27]; exact ⟨h.with_ rfl rfl rfl rfl (by show a.pc + 1 = b.pc + 1; omega) s, by simp⟩
  simp only [if_neg h27]
  rw [if_neg (show ¬ ((x.op = 7 ∨ x.op = 8) ∧ a.r x.c.toNat = 0) by omega), if_neg (show ¬ ((x.op = 7 ∨ x.op = 8) ∧ b.r x.c.toNat = 0) by omega)]
  refine ⟨?_, rfl⟩
  have hp : Pair { a with pc := a.pc + 1 } { b with pc := b.pc + 1 } := h.with_ rfl rfl rfl rfl (by show a.pc + 1 = b.pc + 1; omega) s
  have w39 : pw2 39 = 549755813888 := rfl
  have b1 := fb.reg x.b.toNat
  have c1 := fb.reg x.c.toNat
  rw [wb, w39] at b1 c1
  refine hp.setR fa.len fb.len x.a.toNat hai _ _ ?_
  show compute a.width x.op (a.r x.a.toNat) (a.r x.b.toNat) (a.r x.c.toNat) (x.imm % pw2 a.width) % pw2 a.width = compute b.width x.op (b.r x.a.toNat) (b.r x.b.toNat) (b.r x.c.toNat) (x.imm % pw2 b.width) % pw2 b.width % 4294967296
  rw [wa, wb, show pw2 32 = 4294967296 from rfl, show pw2 39 = 549755813888 from rfl]
  exact compute_pair x.op _ _ _ _ _ _ x.imm (h.reg _) (h.reg _) (h.reg _) b1.1 b1.2 c1.1 c1.2 (by omega)
theorem pair_stepS {a b : Vm} {p : List Ins} (h : Pair a b) (fa : a.fits) (fb : b.fits) (hp : Good p) (ho : ∀ x ∈ p, aluB x.op = true) : Pair (stepS a p).1 (stepS b p).1 ∧ (stepS a p).2 = (stepS b p).2 := by
  unfold stepS
  rw [← h.pc]
  cases hx : p[a.pc.toNat]? with
  | none => exact ⟨h.with_ rfl rfl rfl rfl h.pc rfl, rfl⟩
  | some x =>
    have hm := List.mem_of_getElem? hx
    exact pair_stepI h fa fb (hp.ok x hm) (ho x hm)
/-- Both have the same cells' values where the law looks: the low words. -/
theorem Pair.start : Pair { Vm.zero with width := 32 } { Vm.zero with width := 39 } :=
  ⟨rfl, rfl, rfl, rfl, fun i => by
    show (List.replicate 16 (0 : Int)).getD i 0 = (List.replicate 16 (0 : Int)).getD i 0 % 4294967296
    have : (List.replicate 16 (0 : Int)).getD i 0 = 0 := by
      rw [List.getD_eq_getElem?_getD, List.getElem?_replicate]
      split <;> rfl
    rw [this]; rfl⟩
end
section
open Go Go.RowKit Go.BigFrame
theorem putL_getIf : ∀ (vs : List Value) (cs : Array Value) (o j : Nat), o + vs.length ≤ cs.size → (putL cs o vs)[j]? = if o ≤ j ∧ j < o + vs.length then vs[j - o]? else cs[j]?
  | [], cs, o, j, _ => by
    show cs[j]? = _
    rw [if_neg (by simp)]
  | v :: r, cs, o, j, h => by
    simp only [List.length_cons] at h
    rw [putL, putL_getIf r _ _ _ (by rw [Array.size_setIfInBounds]; omega)]
    by_cases h1 : o + 1 ≤ j ∧ j < o + 1 + r.length
    · rw [if_pos h1, if_pos (by simp only [List.length_cons]; omega), show j - o = (j - (o + 1)) + 1 from by omega]; rfl
    · rw [if_neg h1]
      by_cases h2 : j = o
      · subst h2
        rw [if_pos (by simp only [List.length_cons]; omega), Nat.sub_self, Array.getElem?_setIfInBounds, if_pos rfl, if_pos (by omega)]; rfl
      · rw [if_neg (by simp only [List.length_cons]; omega), Array.getElem?_setIfInBounds_ne (by omega)]
section
variable {e : TypeId} {sz cap : Nat} {L : List (List Value)} {M : List Nat} {W w w' : World} {l l' : Ents} {g : Nat}
theorem CapAt.get {o : Obj} (h : CapAt e sz cap L o) (hl : ∀ c ∈ L, c.length = sz) {i j : Nat} {c : List Value} {x : Value} (hi : L[i]? = some c) (hj : c[j]? = some x) :
    ∃ cur, o = .cells cur e ∧ cur.size = cap * sz ∧ cur[i * sz + j]? = some x := by
  obtain ⟨cur, rfl, hs, ht⟩ := h
  refine ⟨cur, rfl, hs, ?_⟩
  have hjl : j < sz := by have := (List.getElem?_eq_some_iff.1 hj).1; rw [hl c (List.mem_of_getElem? hi)] at this; exact this
  have hf := flat_get sz L hl i j c hi hjl
  rw [hj, ← ht, List.getElem?_take] at hf
  split at hf
  · simpa using hf
  · cases hf
theorem Kn.elem (KN : Kn M W w l) (m : Has l g (CapAt e sz cap L)) (hl : ∀ c ∈ L, c.length = sz) {i j : Nat} {c : List Value} {x : Value} (hi : L[i]? = some c) (hj : c[j]? = some x) : w.cell? ⟨g, i * sz + j, none⟩ = some x := by
  obtain ⟨o, ho, hΦ⟩ := KN.own g _ m
  obtain ⟨cur, rfl, _, hc⟩ := hΦ.get hl hi hj
  simp only [World.cell?, ho]
  exact hc
theorem flatten_set (hl : ∀ c ∈ L, c.length = sz) (i : Nat) (c : List Value) (hc : c.length = sz) (hi : i < L.length) (k : Nat) : (L.set i c).flatten[k]? = if i * sz ≤ k ∧ k < i * sz + sz then c[k - i * sz]? else L.flatten[k]? := by
  have hl' : ∀ d ∈ L.set i c, d.length = sz := by
    intro d hd
    rcases List.mem_or_eq_of_mem_set hd with h | rfl
    · exact hl d h
    · exact hc
  rcases Nat.eq_zero_or_pos sz with hz | hz
  · subst hz
    have e1 := flat_len 0 (L.set i c) hl'
    have e2 := flat_len 0 L hl
    rw [if_neg (by omega), List.getElem?_eq_none (by omega), List.getElem?_eq_none (by omega)]
  rcases Nat.lt_or_ge k (L.length * sz) with hk | hk
  · have hq : k / sz < L.length := (Nat.div_lt_iff_lt_mul hz).2 hk
    have hm := Nat.mod_lt k hz
    have hk2 : k / sz * sz + k % sz = k := Nat.div_add_mod' k sz
    have a1 := flat_get sz (L.set i c) hl' (k / sz) (k % sz) ((L.set i c)[k / sz]'(by simpa using hq)) (List.getElem?_eq_getElem _) hm
    have a2 := flat_get sz L hl (k / sz) (k % sz) (L[k / sz]) (List.getElem?_eq_getElem _) hm
    rw [hk2] at a1 a2
    rw [a1, a2]
    by_cases hik : k / sz = i
    · have e : i * sz ≤ k ∧ k < i * sz + sz := by rw [← hik]; omega
      rw [if_pos e]
      have : (L.set i c)[k / sz]'(by simpa using hq) = c := by rw [List.getElem_set]; rw [if_pos hik.symm]
      rw [this]
      congr 1
      rw [← hik]; omega
    · have ne : ¬ (i * sz ≤ k ∧ k < i * sz + sz) := by
        rintro ⟨h1, h2⟩
        apply hik
        have h3 : i ≤ k / sz := (Nat.le_div_iff_mul_le hz).2 h1
        have h4 : k / sz < i + 1 := (Nat.div_lt_iff_lt_mul hz).2 (by rw [Nat.succ_mul]; exact h2)
        omega
      rw [if_neg ne, List.getElem_set, if_neg (fun q => hik q.symm)]
  · have e1 := flat_len sz (L.set i c) hl'
    have e2 := flat_len sz L hl
    rw [List.length_set] at e1
    have : ¬ (i * sz ≤ k ∧ k < i * sz + sz) := by
      have : (i + 1) * sz ≤ L.length * sz := Nat.mul_le_mul_right _ hi
      rw [Nat.succ_mul] at this
      omega
    rw [if_neg this, List.getElem?_eq_none (by omega), List.getElem?_eq_none (by omega)]
/-- An element is written over. -/
theorem CapAt.set {cur : Array Value} (hs : cur.size = cap * sz) (ht : cur.toList.take (L.length * sz) = L.flatten) (hl : ∀ c ∈ L, c.length = sz) (hcap : L.length ≤ cap) (i : Nat) (c : List Value) (hc : c.length = sz) (hi : i < L.length) :
    CapAt e sz cap (L.set i c) (.cells (putL cur (i * sz) c) e) := by
  have hfit : i * sz + c.length ≤ cur.size := by
    rw [hs, hc]
    have : (i + 1) * sz ≤ cap * sz := Nat.mul_le_mul_right _ (by omega)
    rw [Nat.succ_mul] at this
    exact this
  refine ⟨_, rfl, by rw [putL_size]; exact hs, ?_⟩
  rw [List.length_set]
  apply List.ext_getElem?
  intro k
  rw [flatten_set hl i c hc hi k, List.getElem?_take]
  have hg : (putL cur (i * sz) c).toList[k]? = (putL cur (i * sz) c)[k]? := by simp
  have hp := putL_getIf c cur (i * sz) k hfit
  rw [hc] at hp
  have hlt : i * sz + sz ≤ L.length * sz := by
    have : (i + 1) * sz ≤ L.length * sz := Nat.mul_le_mul_right _ hi
    rw [Nat.succ_mul] at this
    exact this
  have hfl := flat_len sz L hl
  by_cases hk : k < L.length * sz
  · rw [if_pos hk, hg, hp]
    split
    · rfl
    · rw [← ht, List.getElem?_take, if_pos hk]; simp
  · rw [if_neg hk, if_neg (by omega), List.getElem?_eq_none (by omega)]
section
variable {P : Program} {ops : Array Oper} {rest : List Oper} {op : Oper} {a : Act} {K : Act → World → Prop} {Q : Exit → Act → World → Prop}
/-- A cell of an element is read. -/
theorem wpList_kn_elem1 (KN : Kn M W w l) (hw : Region.wanted op (yielded ops a.tmps) = true) (ty : TypeId) (x : Operand) (ho : op.op = .load ty x) (g o : Nat) (hx : a.eval x = .pointer (some ⟨g, o, none⟩)) (m : Has l g (CapAt e sz cap L)) (hl : ∀ c ∈ L, c.length = sz)
    (i j : Nat) (c : List Value) (v : Value) (hi : L[i]? = some c) (hj : c[j]? = some v) (hij : o = i * sz + j) (d : TypeDesc) (hu : P.underlying ty = some d) (hd : d.isRow = false) (h : wpList P ops Q rest (a.put op.dst v) w) : wpList P ops Q (op :: rest) a w :=
  wpList_want hw fun K hK => by
    subst hij
    unfold Oper.wp execOp
    simp only [ho, hx, Sem.run_bind, run_loadAt_one g _ ty v (KN.elem m hl hi hj) d hu hd]
    exact hK _ _ h
/-- An element is written. -/
theorem wp_kn_elemS (KN : Kn M W w l) (ty : TypeId) (x y : Operand) (ho : op.op = .store ty x y) (g o : Nat) (hx : a.eval x = .pointer (some ⟨g, o, none⟩)) (v : Value) (hy : a.eval y = v) (i : Nat) (hij : o = i * sz)
    (r : Repl l g (CapAt e sz cap L) (CapAt e sz cap (L.set i v.cells.toList)) l') (hl : ∀ c ∈ L, c.length = sz) (hcap : L.length ≤ cap) (hi : i < L.length) (hc : v.cells.size = sz) (hinfo : (P.info? ty).map (·.size) = some v.cells.size) (h1 : v.cells.all (·.oneCell') = true)
    (h : ∀ w', Kn M W w' l' → K (a.put op.dst undef) w') : op.wp P a w K Q := by
  subst hij
  obtain ⟨ob, hob, cur, rfl, hs, ht⟩ := KN.own g _ r.has
  have hb : BlkT w g cur e := hob
  have hlt : i * sz + sz ≤ cap * sz := by
    have : (i + 1) * sz ≤ cap * sz := Nat.mul_le_mul_right _ (by omega)
    rw [Nat.succ_mul] at this
    exact this
  unfold Oper.wp execOp
  simp only [ho, hx, hy, Sem.run_bind, run_storeAt_any g (i * sz) ty v (fun j hj => by
    rw [blk_cell hb, blk_free hb, Array.getElem?_eq_getElem (by omega)]; exact ⟨rfl, rfl⟩) hinfo h1]
  have ho2 := only_setCells g v.cells.toList (i * sz) w
  exact h _ (KN.only ho2 r ⟨_, heap_setCells g e v.cells.toList (i * sz) w cur hb, CapAt.set hs ht hl hcap i v.cells.toList (by simpa using hc) hi⟩)
theorem wpList_kn_elemS (KN : Kn M W w l) (hw : Region.wanted op (yielded ops a.tmps) = true) (ty : TypeId) (x y : Operand) (ho : op.op = .store ty x y) (g o : Nat) (hx : a.eval x = .pointer (some ⟨g, o, none⟩)) (v : Value) (hy : a.eval y = v) (i : Nat) (hij : o = i * sz)
    (r : Repl l g (CapAt e sz cap L) (CapAt e sz cap (L.set i v.cells.toList)) l') (hl : ∀ c ∈ L, c.length = sz) (hcap : L.length ≤ cap) (hi : i < L.length) (hc : v.cells.size = sz) (hinfo : (P.info? ty).map (·.size) = some v.cells.size) (h1 : v.cells.all (·.oneCell') = true)
    (h : ∀ w', Kn M W w' l' → wpList P ops Q rest (a.put op.dst undef) w') : wpList P ops Q (op :: rest) a w :=
  wpList_want hw fun _ hK => wp_kn_elemS KN ty x y ho g o hx v hy i hij r hl hcap hi hc hinfo h1 fun w' hw' => hK _ _ (h w' hw')
end
end
end
section
open Go.RowKit
set_option maxHeartbeats 4000000 in
theorem alu_any (op : Int) (w : World) : Calls Try.prog 11 #[.int .i64 op] w fun e w' => e = .returned (.bool (aluB op)) ∧ w = w' := by
  by_cases h : aluB op = true
  · have ho := of_decide_eq_true h
    rw [h]
    clear h
    rcases ho with rfl | rfl | rfl | rfl | rfl | rfl | rfl | rfl | rfl | rfl | rfl | rfl | rfl | rfl
    all_goals
      go_enter Try.func11, Try.ntmps11
      go_wp2
      go_ret
      exact ⟨rfl, rfl⟩
  · have hf : aluB op = false := by simpa using h
    have ho := of_decide_eq_false hf
    rw [hf]
    clear h hf
    have b1 : (op == 1) = false := by rw [beq_eq_false_iff_ne]; omega
    have b2 : (op == 2) = false := by rw [beq_eq_false_iff_ne]; omega
    have b3 : (op == 3) = false := by rw [beq_eq_false_iff_ne]; omega
    have b4 : (op == 4) = false := by rw [beq_eq_false_iff_ne]; omega
    have b5 : (op == 5) = false := by rw [beq_eq_false_iff_ne]; omega
    have b6 : (op == 6) = false := by rw [beq_eq_false_iff_ne]; omega
    have b9 : (op == 9) = false := by rw [beq_eq_false_iff_ne]; omega
    have b10 : (op == 10) = false := by rw [beq_eq_false_iff_ne]; omega
    have b11 : (op == 11) = false := by rw [beq_eq_false_iff_ne]; omega
    have b14 : (op == 14) = false := by rw [beq_eq_false_iff_ne]; omega
    have b18 : (op == 18) = false := by rw [beq_eq_false_iff_ne]; omega
    have b27 : (op == 27) = false := by rw [beq_eq_false_iff_ne]; omega
    have b26 : (op == 26) = false := by rw [beq_eq_false_iff_ne]; omega
    have b0 : (op == 0) = false := by rw [beq_eq_false_iff_ne]; omega
    clear ho
    go_enter Try.func11, Try.ntmps11
    go_wp2
    go_ret
    exact ⟨rfl, rfl⟩
set_option maxRecDepth 100000 in
set_option maxHeartbeats 4000000 in
theorem widths_far (vb vr : Value) (ys xs : List Int) (n : Int) (w : World) (hy : Ints w vb ys) (hx : U64s w vr xs) (h : 200 < ys.length ∨ (ys.length ≤ 200 ∧ 20 < xs.length)) :
    Calls Try.prog 3 #[vb, vr, .int .i64 n] w fun e w' => e = .returned (.bool true) ∧ Below w.heap.size w w' := by
  have KN := Kn.start w
  obtain ⟨a2, c2, rfl, -⟩ := hy.form
  obtain ⟨a3, c3, rfl, -⟩ := hx.form
  clear hy hx
  rcases h with h | ⟨h1, h2⟩
  all_goals
    go_enter Try.func3, Try.ntmps3
    go_wp2_with (first | (go_at_call 9; refine (awake_any _).mono ?_; rintro e wx ⟨rfl, hb1⟩; replace KN := KN.below hb1; clear hb1) | ((with_reducible refine wpList_gate ?_); first | ((refine gate_load (by rfl) ?_); first | (refine wpList_kn_load1 KN (by rfl) 3 _ rfl _ _ rfl _ _ (by repeat (first | exact Has.here | refine Has.there ?_)) _ (by (repeat (first | ((with_reducible refine get_hit ?_); exact Nat.le_of_ble_eq_true (by kernel_rfl)) | ((with_reducible refine (get_miss ?_).trans ?_); (focus kernel_rfl)) | ((with_reducible refine (get_pmiss ?_).trans ?_); (focus kernel_rfl)))); all_goals (conv => lhs; whnf; arg 1; whnf)) _ Try.underlying3 rfl ?_) | (refine wpList_kn_load1 KN (by rfl) 30 _ rfl _ _ rfl _ _ (by repeat (first | exact Has.here | refine Has.there ?_)) _ (by (repeat (first | ((with_reducible refine get_hit ?_); exact Nat.le_of_ble_eq_true (by kernel_rfl)) | ((with_reducible refine (get_miss ?_).trans ?_); (focus kernel_rfl)) | ((with_reducible refine (get_pmiss ?_).trans ?_); (focus kernel_rfl)))); all_goals (conv => lhs; whnf; arg 1; whnf)) _ Try.underlying30 rfl ?_) | (refine wpList_kn_loadW KN (by rfl) 35 _ rfl _ rfl _ _ (by repeat (first | exact Has.here | refine Has.there ?_)) _ Try.underlying35 rfl (by kernel_rfl) ?_) | (refine wpList_kn_loadW KN (by rfl) 33 _ rfl _ rfl _ _ (by repeat (first | exact Has.here | refine Has.there ?_)) _ Try.underlying33 rfl (by kernel_rfl) ?_)) | ((refine gate_store (by rfl) ?_); first | (refine wpList_kn_storeW KN (by rfl) 29 _ _ rfl _ rfl _ rfl _ _ (by repeat (first | exact Repl.here | apply Repl.there)) (by kernel_rfl) (by kernel_rfl) (by kernel_rfl) ?_; clear KN; intro wx KN) | (refine wpList_kn_storeA KN (by rfl) 29 _ _ rfl _ _ rfl _ rfl _ _ (by repeat (first | exact Repl.here | apply Repl.there)) (by (try simp only [Array.size_setIfInBounds, putL_size]); first | exact Nat.le_of_ble_eq_true rfl | (simp; omega)) (by kernel_rfl) (by kernel_rfl) ?_; clear KN; intro wx KN) | (refine wpList_kn_storeW KN (by rfl) 35 _ _ rfl _ rfl _ rfl _ _ (by repeat (first | exact Repl.here | apply Repl.there)) (by kernel_rfl) (by kernel_rfl) (by kernel_rfl) ?_; clear KN; intro wx KN) | (refine wpList_kn_storeA KN (by rfl) 35 _ _ rfl _ _ rfl _ rfl _ _ (by repeat (first | exact Repl.here | apply Repl.there)) (by (try simp only [Array.size_setIfInBounds, putL_size]); first | exact Nat.le_of_ble_eq_true rfl | (simp; omega)) (by kernel_rfl) (by kernel_rfl) ?_; clear KN; intro wx KN) | (refine wpList_kn_store1 KN (by rfl) 30 _ _ rfl _ _ rfl _ (by conv => lhs; whnf) (by rfl) _ _ (by repeat (first | exact Repl.here | apply Repl.there)) (by (try simp only [Array.size_setIfInBounds, putL_size]); first | exact Nat.le_of_ble_eq_true rfl | (simp; omega)) (by kernel_rfl) (by rfl) ?_; clear KN; intro wx KN) | (refine wpList_kn_storeW KN (by rfl) 33 _ _ rfl _ rfl _ rfl _ _ (by repeat (first | exact Repl.here | apply Repl.there)) (by kernel_rfl) (by kernel_rfl) (by kernel_rfl) ?_; clear KN; intro wx KN) | (refine wpList_kn_storeA KN (by rfl) 33 _ _ rfl _ _ rfl _ rfl _ _ (by repeat (first | exact Repl.here | apply Repl.there)) (by (try simp only [Array.size_setIfInBounds, putL_size]); first | exact Nat.le_of_ble_eq_true rfl | (simp; omega)) (by kernel_rfl) (by kernel_rfl) ?_; clear KN; intro wx KN)) | ((refine gate_new (by rfl) ?_); first | (refine wpList_kn_alloc KN (by rfl) 35 rfl 9 rfl Vm.zero.cells (by kernel_rfl) ?_; clear KN; intro g9 wx hg9 KN) | (refine wpList_kn_alloc KN (by rfl) 35 rfl 10 rfl Vm.zero.cells (by kernel_rfl) ?_; clear KN; intro g10 wx hg10 KN) | (refine wpList_kn_alloc KN (by rfl) 35 rfl 13 rfl Vm.zero.cells (by kernel_rfl) ?_; clear KN; intro g13 wx hg13 KN) | (refine wpList_kn_alloc KN (by rfl) 33 rfl 14 rfl Eff.none.cells (by kernel_rfl) ?_; clear KN; intro g14 wx hg14 KN) | (refine wpList_kn_alloc KN (by rfl) 35 rfl 16 rfl Vm.zero.cells (by kernel_rfl) ?_; clear KN; intro g16 wx hg16 KN) | (refine wpList_kn_alloc KN (by rfl) 33 rfl 17 rfl Eff.none.cells (by kernel_rfl) ?_; clear KN; intro g17 wx hg17 KN))))
    go_ret
    exact ⟨rfl, KN.toBelow⟩
/-- The program while it is being turned: the first j instructions are. -/
def turned (p : List Ins) (j : Nat) : List Ins := (p.take j).map aluIns ++ p.drop j
theorem turned_len (p : List Ins) (j : Nat) (h : j ≤ p.length) : (turned p j).length = p.length := by unfold turned; simp; omega
theorem turned_at {p : List Ins} {j : Nat} {x : Ins} (h : p[j]? = some x) : (turned p j)[j]? = some x := by
  have hj : j < p.length := (List.getElem?_eq_some_iff.1 h).1
  unfold turned
  rw [List.getElem?_append_right (by simp; omega)]
  simp only [List.length_map, List.length_take, List.getElem?_drop]
  rw [show j + (j - min j p.length) = j from by omega]; exact h
theorem turned_next {p : List Ins} {j : Nat} {x : Ins} (h : p[j]? = some x) : turned p (j + 1) = (turned p j).set j (aluIns x) := by
  have hj : j < p.length := (List.getElem?_eq_some_iff.1 h).1
  have hx : p[j] = x := (List.getElem?_eq_some_iff.1 h).2
  unfold turned
  rw [List.take_add_one, h, List.map_append, List.drop_eq_getElem_cons hj, hx]
  have hl : ((p.take j).map aluIns).length = j := by simp; omega
  rw [List.set_append_right _ _ (by omega), hl, Nat.sub_self]
  simp
theorem turned_id {p : List Ins} {j : Nat} {x : Ins} (h : p[j]? = some x) (hb : aluB x.op = true) : turned p (j + 1) = turned p j := by
  rw [turned_next h]
  have : aluIns x = x := by unfold aluIns; rw [if_pos hb]
  rw [this]
  apply List.ext_getElem?
  intro k
  rw [List.getElem?_set]
  split
  · rename_i e
    subst e
    split
    · exact (turned_at h).symm
    · have := turned_at h
      rw [List.getElem?_eq_none (by omega)] at this; cases this
  · rfl
theorem Instrs.of_knL {M : List Nat} {W w : World} {l : Ents} (KN : Kn M W w l) {g cap n : Nat} {p : List Ins} (m : Has l g (CapAt 29 5 cap (p.map fun x => x.cells.toList))) (h : p.length = n) (h1 : p.length ≤ cap) (h2 : cap ≤ maxLen) (hf : ∀ x ∈ p, x.fits) :
    Instrs w (.slice (some ⟨g, 0, none⟩) n cap) p := by subst h; exact Instrs.of_kn KN m h1 h2 hf
def W1Rel (p : List Ins) (w : World) (gp cap : Nat) (i : Value) (wr : World) : Prop :=
  ∃ j : Nat, i = .int .i64 (j : Int) ∧ j ≤ p.length ∧ Kn [] w wr [(gp, CapAt 29 5 cap ((turned p j).map fun x => x.cells.toList))]
structure Two (a b : Vm) : Prop where
  pair : Pair a b
  fa : a.fits
  fb : b.fits
  ta : tailOk a = true
  tb : tailOk b = true
  wa : waitT a.wait
  wb : waitT b.wait
theorem Two.va {a b : Vm} (h : Two a b) : VG a := ⟨h.fa, h.ta, h.wa⟩
theorem Two.vb {a b : Vm} (h : Two a b) : VG b := ⟨h.fb, h.tb, h.wb⟩
theorem zero_fits {W : Int} (hw : W = 32 ∨ W = 39) : Vm.fits { Vm.zero with width := W } := by
  refine ⟨hw, rfl, fun i => ?_, by show (0 : Int) ≤ 0 ∧ (0 : Int) ≤ 4096; decide⟩
  have : Vm.r { Vm.zero with width := W } i = 0 := by
    show (List.replicate 16 (0 : Int)).getD i 0 = 0
    rw [List.getD_eq_getElem?_getD, List.getElem?_replicate]
    split <;> rfl
  rw [this]
  exact ⟨Int.le_refl _, (pw2_pos _).1⟩
theorem Two.start : Two { Vm.zero with width := 32 } { Vm.zero with width := 39 } :=
  ⟨Pair.start, zero_fits (.inl rfl), zero_fits (.inr rfl), rfl, rfl, waitT_none, waitT_none⟩
theorem Two.set {a b : Vm} (h : Two a b) (i : Nat) (hi : i < 16) (x : Int) (h0 : 0 ≤ x) : Two (a.setR i (x % 4294967296)) (b.setR i (x % 549755813888)) :=
  ⟨h.pair.setR h.fa.len h.fb.len i hi _ _ (by omega), h.fa.setR i _ (by omega) (by rw [h.pair.wa]; show _ < (4294967296 : Int); omega) hi, h.fb.setR i _ (by omega) (by rw [h.pair.wb]; show _ < (549755813888 : Int); omega) hi, h.ta, h.tb, h.wa, h.wb⟩
theorem Two.step {a b : Vm} {p : List Ins} (h : Two a b) (hs : a.state = 0) (hp : Good p) (ho : ∀ x ∈ p, aluB x.op = true) : Two (stepS a p).1 (stepS b p).1 ∧ (stepS a p).2 = (stepS b p).2 := by
  obtain ⟨h1, h2⟩ := pair_stepS h.pair h.fa h.fb hp ho
  obtain ⟨ga, _⟩ := h.va.step hs hp
  obtain ⟨gb, _⟩ := h.vb.step (h.pair.st ▸ hs) hp
  exact ⟨⟨h1, ga.fits, gb.fits, ga.tail, gb.tail, ga.wait, gb.wait⟩, h2⟩
def W2Rel (l : Ents) (w : World) (g9 g10 : Nat) (i : Value) (wr : World) : Prop :=
  ∃ (j : Nat) (a b : Vm), i = .int .i64 (j : Int) ∧ j ≤ 16 ∧ Two a b ∧ Kn [] w wr ((g10, At b.cells 35) :: (g9, At a.cells 35) :: l)
def W3Rel (l : Ents) (w : World) (g9 g10 : Nat) (i : Value) (wr : World) : Prop :=
  ∃ (j : Nat) (a b : Vm), i = .int .i64 (j : Int) ∧ j ≤ 80 ∧ Two a b ∧ Kn [] w wr ((g10, At b.cells 35) :: (g9, At a.cells 35) :: l)
set_option maxRecDepth 100000 in
set_option maxHeartbeats 40000000 in
theorem widths_near (vb vr : Value) (ys xs : List Int) (n : Int) (w : World) (hy : Ints w vb ys) (hx : U64s w vr xs) (h2 : ys.length ≤ 200) (h3 : xs.length ≤ 20) (n0 : -9223372036854775808 ≤ n) (n1 : n ≤ 9223372036854775807) :
    Calls Try.prog 3 #[vb, vr, .int .i64 n] w fun e w' => e = .returned (.bool true) ∧ Below w.heap.size w w' := by
  have KN := Kn.start w
  obtain ⟨a2, c2, rfl, -⟩ := hy.form
  obtain ⟨a3, c3, rfl, -, hxc⟩ := hx.form
  have HC := Lib.hid hxc
  have HY := Lib.hid hy
  have HX := Lib.hid hx
  obtain ⟨N, hN⟩ : ∃ N : Nat, n % 80 = N := ⟨(n % 80).toNat, by omega⟩
  have N80 : N < 80 := by omega
  have HN := Lib.hid hN
  obtain ⟨L, hL⟩ : ∃ L, L = xs.length := ⟨_, rfl⟩
  rw [← hL] at h3 ⊢
  have HL := Lib.hid hL
  clear hy hx hN hL hxc
  go_enter Try.func3, Try.ntmps3
  go_wp2_with (first | (go_at_call 10; refine (Program_any _ _ _ HY.out).mono ?_; rintro e wx ⟨gp, cap, p, rfl, q1, q2, q3, q4, q5, q6, K2⟩; replace KN := KN.call0 K2; clear K2; rw [ent_app] at KN) | ((with_reducible refine wpList_gate ?_); first | ((refine gate_load (by rfl) ?_); first | (refine wpList_kn_load1 KN (by rfl) 3 _ rfl _ _ rfl _ _ (by repeat (first | exact Has.here | refine Has.there ?_)) _ (by (repeat (first | ((with_reducible refine get_hit ?_); exact Nat.le_of_ble_eq_true (by kernel_rfl)) | ((with_reducible refine (get_miss ?_).trans ?_); (focus kernel_rfl)) | ((with_reducible refine (get_pmiss ?_).trans ?_); (focus kernel_rfl)))); all_goals (conv => lhs; whnf; arg 1; whnf)) _ Try.underlying3 rfl ?_) | (refine wpList_kn_load1 KN (by rfl) 30 _ rfl _ _ rfl _ _ (by repeat (first | exact Has.here | refine Has.there ?_)) _ (by (repeat (first | ((with_reducible refine get_hit ?_); exact Nat.le_of_ble_eq_true (by kernel_rfl)) | ((with_reducible refine (get_miss ?_).trans ?_); (focus kernel_rfl)) | ((with_reducible refine (get_pmiss ?_).trans ?_); (focus kernel_rfl)))); all_goals (conv => lhs; whnf; arg 1; whnf)) _ Try.underlying30 rfl ?_) | (refine wpList_kn_loadW KN (by rfl) 35 _ rfl _ rfl _ _ (by repeat (first | exact Has.here | refine Has.there ?_)) _ Try.underlying35 rfl (by kernel_rfl) ?_) | (refine wpList_kn_loadW KN (by rfl) 33 _ rfl _ rfl _ _ (by repeat (first | exact Has.here | refine Has.there ?_)) _ Try.underlying33 rfl (by kernel_rfl) ?_)) | ((refine gate_store (by rfl) ?_); first | (refine wpList_kn_storeW KN (by rfl) 29 _ _ rfl _ rfl _ rfl _ _ (by repeat (first | exact Repl.here | apply Repl.there)) (by kernel_rfl) (by kernel_rfl) (by kernel_rfl) ?_; clear KN; intro wx KN) | (refine wpList_kn_storeA KN (by rfl) 29 _ _ rfl _ _ rfl _ rfl _ _ (by repeat (first | exact Repl.here | apply Repl.there)) (by (try simp only [Array.size_setIfInBounds, putL_size]); first | exact Nat.le_of_ble_eq_true rfl | (simp; omega)) (by kernel_rfl) (by kernel_rfl) ?_; clear KN; intro wx KN) | (refine wpList_kn_storeW KN (by rfl) 35 _ _ rfl _ rfl _ rfl _ _ (by repeat (first | exact Repl.here | apply Repl.there)) (by kernel_rfl) (by kernel_rfl) (by kernel_rfl) ?_; clear KN; intro wx KN) | (refine wpList_kn_storeA KN (by rfl) 35 _ _ rfl _ _ rfl _ rfl _ _ (by repeat (first | exact Repl.here | apply Repl.there)) (by (try simp only [Array.size_setIfInBounds, putL_size]); first | exact Nat.le_of_ble_eq_true rfl | (simp; omega)) (by kernel_rfl) (by kernel_rfl) ?_; clear KN; intro wx KN) | (refine wpList_kn_store1 KN (by rfl) 30 _ _ rfl _ _ rfl _ (by conv => lhs; whnf) (by rfl) _ _ (by repeat (first | exact Repl.here | apply Repl.there)) (by (try simp only [Array.size_setIfInBounds, putL_size]); first | exact Nat.le_of_ble_eq_true rfl | (simp; omega)) (by kernel_rfl) (by rfl) ?_; clear KN; intro wx KN) | (refine wpList_kn_storeW KN (by rfl) 33 _ _ rfl _ rfl _ rfl _ _ (by repeat (first | exact Repl.here | apply Repl.there)) (by kernel_rfl) (by kernel_rfl) (by kernel_rfl) ?_; clear KN; intro wx KN) | (refine wpList_kn_storeA KN (by rfl) 33 _ _ rfl _ _ rfl _ rfl _ _ (by repeat (first | exact Repl.here | apply Repl.there)) (by (try simp only [Array.size_setIfInBounds, putL_size]); first | exact Nat.le_of_ble_eq_true rfl | (simp; omega)) (by kernel_rfl) (by kernel_rfl) ?_; clear KN; intro wx KN)) | ((refine gate_new (by rfl) ?_); first | (refine wpList_kn_alloc KN (by rfl) 35 rfl 9 rfl Vm.zero.cells (by kernel_rfl) ?_; clear KN; intro g9 wx hg9 KN) | (refine wpList_kn_alloc KN (by rfl) 35 rfl 10 rfl Vm.zero.cells (by kernel_rfl) ?_; clear KN; intro g10 wx hg10 KN) | (refine wpList_kn_alloc KN (by rfl) 35 rfl 13 rfl Vm.zero.cells (by kernel_rfl) ?_; clear KN; intro g13 wx hg13 KN) | (refine wpList_kn_alloc KN (by rfl) 33 rfl 14 rfl Eff.none.cells (by kernel_rfl) ?_; clear KN; intro g14 wx hg14 KN) | (refine wpList_kn_alloc KN (by rfl) 35 rfl 16 rfl Vm.zero.cells (by kernel_rfl) ?_; clear KN; intro g16 wx hg16 KN) | (refine wpList_kn_alloc KN (by rfl) 33 rfl 17 rfl Eff.none.cells (by kernel_rfl) ?_; clear KN; intro g17 wx hg17 KN))))
  have GP := Lib.hid (progErr_good q5 q6)
  have Q1 := Lib.hid q1
  have Q2 := Lib.hid q2
  have Q6 := Lib.hid q6
  obtain ⟨P, hP⟩ : ∃ P, P = p.length := ⟨_, rfl⟩
  rw [← hP] at q3 q4 ⊢
  have HP := Lib.hid hP
  have HREL : Hid (W1Rel p w gp cap (.int .i64 0) wx) := Lib.hid ⟨0, rfl, Nat.zero_le _, KN⟩
  clear KN q1 q2 q5 q6 hP
  go_loopw [8] (fun i wr => W1Rel p w gp cap i wr) (fun i _ => P - (intOf i).toNat)
  case atStart => exact HREL.out
  case round =>
    obtain ⟨j, rfl, hj, KN⟩ := hrel
    rw [← HP.out] at hj
    by_cases hlt : j < P
    · obtain ⟨x, hxk⟩ : ∃ x, p[j]? = some x := ⟨_, List.getElem?_eq_getElem (by rw [← HP.out]; exact hlt)⟩
      have hxm := List.mem_of_getElem? hxk
      have good := aluIns_good (GP.out.ok x hxm) (Q6.out x hxm)
      obtain ⟨o0, o1, -, ha, hb, -⟩ := insErr_target (GP.out.ok x hxm)
      have hat := turned_at hxk
      have hmp : ((turned p j).map fun x => x.cells.toList)[j]? = some x.cells.toList := by rw [List.getElem?_map, hat]; rfl
      have hl5 : ∀ c ∈ (turned p j).map (fun x => x.cells.toList), c.length = 5 := by intro c hc; obtain ⟨y, _, rfl⟩ := List.mem_map.1 hc; rfl
      have MP := Lib.hid hmp
      have L5 := Lib.hid hl5
      have HXK := Lib.hid hxk
      have lenT : (turned p j).length = P := by rw [HP.out]; exact turned_len p j (by rw [← HP.out]; omega)
      have LT := Lib.hid lenT
      have i1 : (j : Int) < (P : Int) := by omega
      clear hxm good hat hmp hl5 hxk lenT
      rcases Bool.eq_false_or_eq_true (aluB x.op) with hal | hal
      · have HA := Lib.hid hal
        go_wp2_with (first | (go_at_call 11; refine (alu_any x.op _).mono ?_; rintro e wx ⟨rfl, rfl⟩; rw [hal]) | ((with_reducible refine wpList_gate ?_); first | (refine wpList_kn_elem1 KN (by rfl) 3 _ rfl gp _ rfl (by repeat (first | exact Has.here | refine Has.there ?_)) L5.out j 0 _ (.int .i64 x.op) MP.out rfl ?qq _ Try.underlying3 rfl ?_; (case qq => omega)) | ((refine gate_load (by rfl) ?_); first | (refine wpList_kn_load1 KN (by rfl) 3 _ rfl _ _ rfl _ _ (by repeat (first | exact Has.here | refine Has.there ?_)) _ (by (repeat (first | ((with_reducible refine get_hit ?_); exact Nat.le_of_ble_eq_true (by kernel_rfl)) | ((with_reducible refine (get_miss ?_).trans ?_); (focus kernel_rfl)) | ((with_reducible refine (get_pmiss ?_).trans ?_); (focus kernel_rfl)))); all_goals (conv => lhs; whnf; arg 1; whnf)) _ Try.underlying3 rfl ?_) | (refine wpList_kn_load1 KN (by rfl) 30 _ rfl _ _ rfl _ _ (by repeat (first | exact Has.here | refine Has.there ?_)) _ (by (repeat (first | ((with_reducible refine get_hit ?_); exact Nat.le_of_ble_eq_true (by kernel_rfl)) | ((with_reducible refine (get_miss ?_).trans ?_); (focus kernel_rfl)) | ((with_reducible refine (get_pmiss ?_).trans ?_); (focus kernel_rfl)))); all_goals (conv => lhs; whnf; arg 1; whnf)) _ Try.underlying30 rfl ?_) | (refine wpList_kn_loadW KN (by rfl) 35 _ rfl _ rfl _ _ (by repeat (first | exact Has.here | refine Has.there ?_)) _ Try.underlying35 rfl (by kernel_rfl) ?_) | (refine wpList_kn_loadW KN (by rfl) 33 _ rfl _ rfl _ _ (by repeat (first | exact Has.here | refine Has.there ?_)) _ Try.underlying33 rfl (by kernel_rfl) ?_)) | ((refine gate_store (by rfl) ?_); first | (refine wpList_kn_storeW KN (by rfl) 29 _ _ rfl _ rfl _ rfl _ _ (by repeat (first | exact Repl.here | apply Repl.there)) (by kernel_rfl) (by kernel_rfl) (by kernel_rfl) ?_; clear KN; intro wx KN) | (refine wpList_kn_storeA KN (by rfl) 29 _ _ rfl _ _ rfl _ rfl _ _ (by repeat (first | exact Repl.here | apply Repl.there)) (by (try simp only [Array.size_setIfInBounds, putL_size]); first | exact Nat.le_of_ble_eq_true rfl | (simp; omega)) (by kernel_rfl) (by kernel_rfl) ?_; clear KN; intro wx KN) | (refine wpList_kn_storeW KN (by rfl) 35 _ _ rfl _ rfl _ rfl _ _ (by repeat (first | exact Repl.here | apply Repl.there)) (by kernel_rfl) (by kernel_rfl) (by kernel_rfl) ?_; clear KN; intro wx KN) | (refine wpList_kn_storeA KN (by rfl) 35 _ _ rfl _ _ rfl _ rfl _ _ (by repeat (first | exact Repl.here | apply Repl.there)) (by (try simp only [Array.size_setIfInBounds, putL_size]); first | exact Nat.le_of_ble_eq_true rfl | (simp; omega)) (by kernel_rfl) (by kernel_rfl) ?_; clear KN; intro wx KN) | (refine wpList_kn_store1 KN (by rfl) 30 _ _ rfl _ _ rfl _ (by conv => lhs; whnf) (by rfl) _ _ (by repeat (first | exact Repl.here | apply Repl.there)) (by (try simp only [Array.size_setIfInBounds, putL_size]); first | exact Nat.le_of_ble_eq_true rfl | (simp; omega)) (by kernel_rfl) (by rfl) ?_; clear KN; intro wx KN) | (refine wpList_kn_storeW KN (by rfl) 33 _ _ rfl _ rfl _ rfl _ _ (by repeat (first | exact Repl.here | apply Repl.there)) (by kernel_rfl) (by kernel_rfl) (by kernel_rfl) ?_; clear KN; intro wx KN) | (refine wpList_kn_storeA KN (by rfl) 33 _ _ rfl _ _ rfl _ rfl _ _ (by repeat (first | exact Repl.here | apply Repl.there)) (by (try simp only [Array.size_setIfInBounds, putL_size]); first | exact Nat.le_of_ble_eq_true rfl | (simp; omega)) (by kernel_rfl) (by kernel_rfl) ?_; clear KN; intro wx KN)) | ((refine gate_new (by rfl) ?_); first | (refine wpList_kn_alloc KN (by rfl) 35 rfl 9 rfl Vm.zero.cells (by kernel_rfl) ?_; clear KN; intro g9 wx hg9 KN) | (refine wpList_kn_alloc KN (by rfl) 35 rfl 10 rfl Vm.zero.cells (by kernel_rfl) ?_; clear KN; intro g10 wx hg10 KN) | (refine wpList_kn_alloc KN (by rfl) 35 rfl 13 rfl Vm.zero.cells (by kernel_rfl) ?_; clear KN; intro g13 wx hg13 KN) | (refine wpList_kn_alloc KN (by rfl) 33 rfl 14 rfl Eff.none.cells (by kernel_rfl) ?_; clear KN; intro g14 wx hg14 KN) | (refine wpList_kn_alloc KN (by rfl) 35 rfl 16 rfl Vm.zero.cells (by kernel_rfl) ?_; clear KN; intro g16 wx hg16 KN) | (refine wpList_kn_alloc KN (by rfl) 33 rfl 17 rfl Eff.none.cells (by kernel_rfl) ?_; clear KN; intro g17 wx hg17 KN))))
        go_roundw
        case rel => exact ⟨j + 1, by go_num, by rw [← HP.out]; exact hlt, by rw [turned_id HXK.out HA.out]; exact KN⟩
        case measure => simp [intOf]; omega
      · have HA := Lib.hid hal
        obtain ⟨xa, hxa⟩ : ∃ xa, xa = (x.a + 1) % 16 := ⟨_, rfl⟩
        have xm : (x.a + 1).tmod 16 = xa := by rw [hxa, Int.tmod_eq_emod_of_nonneg (by omega)]
        have xa0 : 0 ≤ xa := by omega
        have xa1 : xa < 16 := by omega
        have e1 : aluIns x = ⟨4, x.a, x.b, xa, 0⟩ := by unfold aluIns; rw [hal, hxa]; rfl
        have HE := Lib.hid e1
        clear hxa e1
        obtain ⟨ha0, ha1⟩ := ha
        obtain ⟨hb0, hb1'⟩ := hb
        go_wp2_with (first | (go_at_call 11; refine (alu_any x.op _).mono ?_; rintro e wx ⟨rfl, rfl⟩; rw [hal]) | ((with_reducible refine wpList_gate ?_); first | (refine wpList_kn_elem1 KN (by rfl) 3 _ rfl gp _ rfl (by repeat (first | exact Has.here | refine Has.there ?_)) L5.out j 0 _ (.int .i64 x.op) MP.out rfl ?qq _ Try.underlying3 rfl ?_; (case qq => omega)) | ((refine gate_load (by rfl) ?_); first | (refine wpList_kn_load1 KN (by rfl) 3 _ rfl _ _ rfl _ _ (by repeat (first | exact Has.here | refine Has.there ?_)) _ (by (repeat (first | ((with_reducible refine get_hit ?_); exact Nat.le_of_ble_eq_true (by kernel_rfl)) | ((with_reducible refine (get_miss ?_).trans ?_); (focus kernel_rfl)) | ((with_reducible refine (get_pmiss ?_).trans ?_); (focus kernel_rfl)))); all_goals (conv => lhs; whnf; arg 1; whnf)) _ Try.underlying3 rfl ?_) | (refine wpList_kn_load1 KN (by rfl) 30 _ rfl _ _ rfl _ _ (by repeat (first | exact Has.here | refine Has.there ?_)) _ (by (repeat (first | ((with_reducible refine get_hit ?_); exact Nat.le_of_ble_eq_true (by kernel_rfl)) | ((with_reducible refine (get_miss ?_).trans ?_); (focus kernel_rfl)) | ((with_reducible refine (get_pmiss ?_).trans ?_); (focus kernel_rfl)))); all_goals (conv => lhs; whnf; arg 1; whnf)) _ Try.underlying30 rfl ?_) | (refine wpList_kn_loadW KN (by rfl) 35 _ rfl _ rfl _ _ (by repeat (first | exact Has.here | refine Has.there ?_)) _ Try.underlying35 rfl (by kernel_rfl) ?_) | (refine wpList_kn_loadW KN (by rfl) 33 _ rfl _ rfl _ _ (by repeat (first | exact Has.here | refine Has.there ?_)) _ Try.underlying33 rfl (by kernel_rfl) ?_)) | ((refine gate_store (by rfl) ?_); first | (refine wpList_kn_storeW KN (by rfl) 29 _ _ rfl _ rfl _ rfl _ _ (by repeat (first | exact Repl.here | apply Repl.there)) (by kernel_rfl) (by kernel_rfl) (by kernel_rfl) ?_; clear KN; intro wx KN) | (refine wpList_kn_storeA KN (by rfl) 29 _ _ rfl _ _ rfl _ rfl _ _ (by repeat (first | exact Repl.here | apply Repl.there)) (by (try simp only [Array.size_setIfInBounds, putL_size]); first | exact Nat.le_of_ble_eq_true rfl | (simp; omega)) (by kernel_rfl) (by kernel_rfl) ?_; clear KN; intro wx KN) | (refine wpList_kn_storeW KN (by rfl) 35 _ _ rfl _ rfl _ rfl _ _ (by repeat (first | exact Repl.here | apply Repl.there)) (by kernel_rfl) (by kernel_rfl) (by kernel_rfl) ?_; clear KN; intro wx KN) | (refine wpList_kn_storeA KN (by rfl) 35 _ _ rfl _ _ rfl _ rfl _ _ (by repeat (first | exact Repl.here | apply Repl.there)) (by (try simp only [Array.size_setIfInBounds, putL_size]); first | exact Nat.le_of_ble_eq_true rfl | (simp; omega)) (by kernel_rfl) (by kernel_rfl) ?_; clear KN; intro wx KN) | (refine wpList_kn_store1 KN (by rfl) 30 _ _ rfl _ _ rfl _ (by conv => lhs; whnf) (by rfl) _ _ (by repeat (first | exact Repl.here | apply Repl.there)) (by (try simp only [Array.size_setIfInBounds, putL_size]); first | exact Nat.le_of_ble_eq_true rfl | (simp; omega)) (by kernel_rfl) (by rfl) ?_; clear KN; intro wx KN) | (refine wpList_kn_storeW KN (by rfl) 33 _ _ rfl _ rfl _ rfl _ _ (by repeat (first | exact Repl.here | apply Repl.there)) (by kernel_rfl) (by kernel_rfl) (by kernel_rfl) ?_; clear KN; intro wx KN) | (refine wpList_kn_storeA KN (by rfl) 33 _ _ rfl _ _ rfl _ rfl _ _ (by repeat (first | exact Repl.here | apply Repl.there)) (by (try simp only [Array.size_setIfInBounds, putL_size]); first | exact Nat.le_of_ble_eq_true rfl | (simp; omega)) (by kernel_rfl) (by kernel_rfl) ?_; clear KN; intro wx KN)) | ((refine gate_new (by rfl) ?_); first | (refine wpList_kn_alloc KN (by rfl) 35 rfl 9 rfl Vm.zero.cells (by kernel_rfl) ?_; clear KN; intro g9 wx hg9 KN) | (refine wpList_kn_alloc KN (by rfl) 35 rfl 10 rfl Vm.zero.cells (by kernel_rfl) ?_; clear KN; intro g10 wx hg10 KN) | (refine wpList_kn_alloc KN (by rfl) 35 rfl 13 rfl Vm.zero.cells (by kernel_rfl) ?_; clear KN; intro g13 wx hg13 KN) | (refine wpList_kn_alloc KN (by rfl) 33 rfl 14 rfl Eff.none.cells (by kernel_rfl) ?_; clear KN; intro g14 wx hg14 KN) | (refine wpList_kn_alloc KN (by rfl) 35 rfl 16 rfl Vm.zero.cells (by kernel_rfl) ?_; clear KN; intro g16 wx hg16 KN) | (refine wpList_kn_alloc KN (by rfl) 33 rfl 17 rfl Eff.none.cells (by kernel_rfl) ?_; clear KN; intro g17 wx hg17 KN))))
        have r1 : _ = some (Value.int .i64 x.a) := KN.elem (by repeat (first | exact Has.here | refine Has.there ?_)) L5.out (i := j) (j := 1) MP.out rfl
        have r2 : _ = some (Value.int .i64 x.b) := KN.elem (by repeat (first | exact Has.here | refine Has.there ?_)) L5.out (i := j) (j := 2) MP.out rfl
        go_still_tail 21, (by kernel_rfl)
        replace KN := KN.drew
        clear r1 r2
        go_wp2_with (refine wpList_kn_elemS KN (by rfl) 29 _ _ rfl gp _ rfl (.agg (Ins.mk 4 x.a x.b ((IntKind.i64.wrap (x.a + 1)).tmod 16) 0).cells) rfl j ?qq (by repeat (first | exact Repl.here | apply Repl.there)) L5.out (by rw [List.length_map, LT.out]; have := Q1.out; rw [← HP.out] at this; exact this) (by rw [List.length_map, LT.out]; exact hlt) rfl (by kernel_rfl) (by kernel_rfl) ?_; (case qq => omega); clear KN; intro wx KN)
        rw [show (IntKind.i64.wrap (x.a + 1)).tmod 16 = xa from by rw [IntWalk.i64_in _ (by omega), xm]] at KN
        go_roundw
        case rel => exact ⟨j + 1, by go_num, by rw [← HP.out]; exact hlt, by rw [turned_next HXK.out, HE.out, List.map_set]; exact KN⟩
        case measure => simp [intOf]; omega
    · have hjP : j = P := by omega
      have hall : turned p j = p.map aluIns := by unfold turned; rw [List.take_of_length_le (by rw [← HP.out]; omega), List.drop_of_length_le (by rw [← HP.out]; omega)]; simp
      rw [hall] at KN
      obtain ⟨q, hq⟩ : ∃ q, q = p.map aluIns := ⟨_, rfl⟩
      rw [← hq] at KN
      have ql : q.length = P := by rw [hq, HP.out]; simp
      have qm : ∀ y ∈ q, insErr y P = 0 ∧ aluB y.op = true ∧ y.fits := by
        intro y hy
        rw [hq] at hy
        obtain ⟨x, hx, rfl⟩ := List.mem_map.1 hy
        have := aluIns_good (GP.out.ok x hx) (Q6.out x hx)
        rw [← HP.out] at this
        exact this
      have qf : ∀ y ∈ q, y.fits := fun y hy => (qm y hy).2.2
      have qe : progErr q = 0 := progErr_none (by omega) (by omega) (fun y hy => by rw [ql]; exact (qm y hy).1)
      have QG := Lib.hid (progErr_good qe qf)
      have QE := Lib.hid qe
      have QF := Lib.hid qf
      have QA : Hid (∀ y ∈ q, aluB y.op = true) := Lib.hid fun y hy => (qm y hy).2.1
      have QL := Lib.hid ql
      have QC : Hid (q.length ≤ cap) := Lib.hid (by rw [ql, HP.out]; exact Q1.out)
      clear hall hq ql qm qf qe
      subst hjP
      go_wp2_with (first | ((with_reducible refine wpList_gate ?_); first | ((refine gate_load (by rfl) ?_); first | (refine wpList_kn_load1 KN (by rfl) 3 _ rfl _ _ rfl _ _ (by repeat (first | exact Has.here | refine Has.there ?_)) _ (by (repeat (first | ((with_reducible refine get_hit ?_); exact Nat.le_of_ble_eq_true (by kernel_rfl)) | ((with_reducible refine (get_miss ?_).trans ?_); (focus kernel_rfl)) | ((with_reducible refine (get_pmiss ?_).trans ?_); (focus kernel_rfl)))); all_goals (conv => lhs; whnf; arg 1; whnf)) _ Try.underlying3 rfl ?_) | (refine wpList_kn_load1 KN (by rfl) 30 _ rfl _ _ rfl _ _ (by repeat (first | exact Has.here | refine Has.there ?_)) _ (by (repeat (first | ((with_reducible refine get_hit ?_); exact Nat.le_of_ble_eq_true (by kernel_rfl)) | ((with_reducible refine (get_miss ?_).trans ?_); (focus kernel_rfl)) | ((with_reducible refine (get_pmiss ?_).trans ?_); (focus kernel_rfl)))); all_goals (conv => lhs; whnf; arg 1; whnf)) _ Try.underlying30 rfl ?_) | (refine wpList_kn_loadW KN (by rfl) 35 _ rfl _ rfl _ _ (by repeat (first | exact Has.here | refine Has.there ?_)) _ Try.underlying35 rfl (by kernel_rfl) ?_) | (refine wpList_kn_loadW KN (by rfl) 33 _ rfl _ rfl _ _ (by repeat (first | exact Has.here | refine Has.there ?_)) _ Try.underlying33 rfl (by kernel_rfl) ?_)) | ((refine gate_store (by rfl) ?_); first | (refine wpList_kn_storeW KN (by rfl) 29 _ _ rfl _ rfl _ rfl _ _ (by repeat (first | exact Repl.here | apply Repl.there)) (by kernel_rfl) (by kernel_rfl) (by kernel_rfl) ?_; clear KN; intro wx KN) | (refine wpList_kn_storeA KN (by rfl) 29 _ _ rfl _ _ rfl _ rfl _ _ (by repeat (first | exact Repl.here | apply Repl.there)) (by (try simp only [Array.size_setIfInBounds, putL_size]); first | exact Nat.le_of_ble_eq_true rfl | (simp; omega)) (by kernel_rfl) (by kernel_rfl) ?_; clear KN; intro wx KN) | (refine wpList_kn_storeW KN (by rfl) 35 _ _ rfl _ rfl _ rfl _ _ (by repeat (first | exact Repl.here | apply Repl.there)) (by kernel_rfl) (by kernel_rfl) (by kernel_rfl) ?_; clear KN; intro wx KN) | (refine wpList_kn_storeA KN (by rfl) 35 _ _ rfl _ _ rfl _ rfl _ _ (by repeat (first | exact Repl.here | apply Repl.there)) (by (try simp only [Array.size_setIfInBounds, putL_size]); first | exact Nat.le_of_ble_eq_true rfl | (simp; omega)) (by kernel_rfl) (by kernel_rfl) ?_; clear KN; intro wx KN) | (refine wpList_kn_store1 KN (by rfl) 30 _ _ rfl _ _ rfl _ (by conv => lhs; whnf) (by rfl) _ _ (by repeat (first | exact Repl.here | apply Repl.there)) (by (try simp only [Array.size_setIfInBounds, putL_size]); first | exact Nat.le_of_ble_eq_true rfl | (simp; omega)) (by kernel_rfl) (by rfl) ?_; clear KN; intro wx KN) | (refine wpList_kn_storeW KN (by rfl) 33 _ _ rfl _ rfl _ rfl _ _ (by repeat (first | exact Repl.here | apply Repl.there)) (by kernel_rfl) (by kernel_rfl) (by kernel_rfl) ?_; clear KN; intro wx KN) | (refine wpList_kn_storeA KN (by rfl) 33 _ _ rfl _ _ rfl _ rfl _ _ (by repeat (first | exact Repl.here | apply Repl.there)) (by (try simp only [Array.size_setIfInBounds, putL_size]); first | exact Nat.le_of_ble_eq_true rfl | (simp; omega)) (by kernel_rfl) (by kernel_rfl) ?_; clear KN; intro wx KN)) | ((refine gate_new (by rfl) ?_); first | (refine wpList_kn_alloc KN (by rfl) 35 rfl 9 rfl Vm.zero.cells (by kernel_rfl) ?_; clear KN; intro g9 wx hg9 KN) | (refine wpList_kn_alloc KN (by rfl) 35 rfl 10 rfl Vm.zero.cells (by kernel_rfl) ?_; clear KN; intro g10 wx hg10 KN) | (refine wpList_kn_alloc KN (by rfl) 35 rfl 13 rfl Vm.zero.cells (by kernel_rfl) ?_; clear KN; intro g13 wx hg13 KN) | (refine wpList_kn_alloc KN (by rfl) 33 rfl 14 rfl Eff.none.cells (by kernel_rfl) ?_; clear KN; intro g14 wx hg14 KN) | (refine wpList_kn_alloc KN (by rfl) 35 rfl 16 rfl Vm.zero.cells (by kernel_rfl) ?_; clear KN; intro g16 wx hg16 KN) | (refine wpList_kn_alloc KN (by rfl) 33 rfl 17 rfl Eff.none.cells (by kernel_rfl) ?_; clear KN; intro g17 wx hg17 KN))))
      have HREL2 : Hid (W2Rel [(gp, CapAt 29 5 cap (q.map fun x => x.cells.toList))] w g9 g10 (.int .i64 0) wx) := Lib.hid ⟨0, _, _, rfl, Nat.zero_le _, Two.start, KN⟩
      clear KN
      go_loopw [11] (fun i wr => W2Rel [(gp, CapAt 29 5 cap (q.map fun x => x.cells.toList))] w g9 g10 i wr) (fun i _ => 16 - (intOf i).toNat)
      case atStart => exact HREL2.out
      case round =>
        obtain ⟨k, a, b, rfl, hk, two, KN⟩ := hrel
        have TW := Lib.hid two
        clear two
        by_cases hlt : k < L ∧ k < 16
        · obtain ⟨hkL, h16⟩ := hlt
          obtain ⟨x, hxk⟩ : ∃ x, xs[k]? = some x := ⟨_, List.getElem?_eq_getElem (by rw [← HL.out]; exact hkL)⟩
          obtain ⟨gv, ov, rfl, hgv, hlc, hcm, hcell⟩ := HC.out k x hxk
          unfold maxLen at hcm
          rw [← HL.out] at hlc
          have hxm := HX.out.2 x (List.mem_of_getElem? hxk)
          have x0 := hxm.1
          have x1 := hxm.2
          obtain ⟨y, hy⟩ : ∃ y, y = x % 4294967296 := ⟨_, rfl⟩
          obtain ⟨z, hz⟩ : ∃ z, z = x % 549755813888 := ⟨_, rfl⟩
          have ym := mask32 x x0 x1
          have zm := mask39 x x0 x1
          rw [← hy] at ym
          rw [← hz] at zm
          have tw2 := TW.out.set k h16 x x0
          rw [← hy, ← hz] at tw2
          have ey := a.cells_set k y TW.out.fa.len h16
          have ez := b.cells_set k z TW.out.fb.len h16
          have y0 : 0 ≤ y ∧ y < 4294967296 := by omega
          have z0 : 0 ≤ z ∧ z < 549755813888 := by omega
          have TW2 := Lib.hid tw2
          have EY := Lib.hid ey
          have EZ := Lib.hid ez
          clear tw2 ey ez hy hz hxm hxk
          go_wp2_with (first | ((with_reducible refine wpList_gate ?_); first | ((refine gate_load (by rfl) ?_); first | (refine wpList_kn_old1 KN (by rfl) 30 _ rfl _ _ rfl _ hcell (by simp) _ Try.underlying30 rfl ?_) | (refine wpList_kn_load1 KN (by rfl) 3 _ rfl _ _ rfl _ _ (by repeat (first | exact Has.here | refine Has.there ?_)) _ (by (repeat (first | ((with_reducible refine get_hit ?_); exact Nat.le_of_ble_eq_true (by kernel_rfl)) | ((with_reducible refine (get_miss ?_).trans ?_); (focus kernel_rfl)) | ((with_reducible refine (get_pmiss ?_).trans ?_); (focus kernel_rfl)))); all_goals (conv => lhs; whnf; arg 1; whnf)) _ Try.underlying3 rfl ?_) | (refine wpList_kn_load1 KN (by rfl) 30 _ rfl _ _ rfl _ _ (by repeat (first | exact Has.here | refine Has.there ?_)) _ (by (repeat (first | ((with_reducible refine get_hit ?_); exact Nat.le_of_ble_eq_true (by kernel_rfl)) | ((with_reducible refine (get_miss ?_).trans ?_); (focus kernel_rfl)) | ((with_reducible refine (get_pmiss ?_).trans ?_); (focus kernel_rfl)))); all_goals (conv => lhs; whnf; arg 1; whnf)) _ Try.underlying30 rfl ?_) | (refine wpList_kn_loadW KN (by rfl) 35 _ rfl _ rfl _ _ (by repeat (first | exact Has.here | refine Has.there ?_)) _ Try.underlying35 rfl (by kernel_rfl) ?_) | (refine wpList_kn_loadW KN (by rfl) 33 _ rfl _ rfl _ _ (by repeat (first | exact Has.here | refine Has.there ?_)) _ Try.underlying33 rfl (by kernel_rfl) ?_)) | ((refine gate_store (by rfl) ?_); first | (refine wpList_kn_store1 KN (by rfl) 30 _ (.tmp 82) rfl g9 (4 + k) rfl _ (by conv => lhs; whnf) (by rfl) _ _ (by repeat (first | exact Repl.here | apply Repl.there)) (by show 4 + k + 1 ≤ 25; omega) (by kernel_rfl) (by rfl) ?_; clear KN; intro wx KN; replace KN := KN.as_ g9 _ (by repeat (first | exact Repl.here | apply Repl.there)) EY.out) | (refine wpList_kn_store1 KN (by rfl) 30 _ (.tmp 90) rfl g10 (4 + k) rfl _ (by conv => lhs; whnf) (by rfl) _ _ (by repeat (first | exact Repl.here | apply Repl.there)) (by show 4 + k + 1 ≤ 25; omega) (by kernel_rfl) (by rfl) ?_; clear KN; intro wx KN; replace KN := KN.as_ g10 _ (by repeat (first | exact Repl.here | apply Repl.there)) EZ.out) | (refine wpList_kn_storeW KN (by rfl) 29 _ _ rfl _ rfl _ rfl _ _ (by repeat (first | exact Repl.here | apply Repl.there)) (by kernel_rfl) (by kernel_rfl) (by kernel_rfl) ?_; clear KN; intro wx KN) | (refine wpList_kn_storeA KN (by rfl) 29 _ _ rfl _ _ rfl _ rfl _ _ (by repeat (first | exact Repl.here | apply Repl.there)) (by (try simp only [Array.size_setIfInBounds, putL_size]); first | exact Nat.le_of_ble_eq_true rfl | (simp; omega)) (by kernel_rfl) (by kernel_rfl) ?_; clear KN; intro wx KN) | (refine wpList_kn_storeW KN (by rfl) 35 _ _ rfl _ rfl _ rfl _ _ (by repeat (first | exact Repl.here | apply Repl.there)) (by kernel_rfl) (by kernel_rfl) (by kernel_rfl) ?_; clear KN; intro wx KN) | (refine wpList_kn_storeA KN (by rfl) 35 _ _ rfl _ _ rfl _ rfl _ _ (by repeat (first | exact Repl.here | apply Repl.there)) (by (try simp only [Array.size_setIfInBounds, putL_size]); first | exact Nat.le_of_ble_eq_true rfl | (simp; omega)) (by kernel_rfl) (by kernel_rfl) ?_; clear KN; intro wx KN) | (refine wpList_kn_store1 KN (by rfl) 30 _ _ rfl _ _ rfl _ (by conv => lhs; whnf) (by rfl) _ _ (by repeat (first | exact Repl.here | apply Repl.there)) (by (try simp only [Array.size_setIfInBounds, putL_size]); first | exact Nat.le_of_ble_eq_true rfl | (simp; omega)) (by kernel_rfl) (by rfl) ?_; clear KN; intro wx KN) | (refine wpList_kn_storeW KN (by rfl) 33 _ _ rfl _ rfl _ rfl _ _ (by repeat (first | exact Repl.here | apply Repl.there)) (by kernel_rfl) (by kernel_rfl) (by kernel_rfl) ?_; clear KN; intro wx KN) | (refine wpList_kn_storeA KN (by rfl) 33 _ _ rfl _ _ rfl _ rfl _ _ (by repeat (first | exact Repl.here | apply Repl.there)) (by (try simp only [Array.size_setIfInBounds, putL_size]); first | exact Nat.le_of_ble_eq_true rfl | (simp; omega)) (by kernel_rfl) (by kernel_rfl) ?_; clear KN; intro wx KN)) | ((refine gate_new (by rfl) ?_); first | (refine wpList_kn_alloc KN (by rfl) 35 rfl 9 rfl Vm.zero.cells (by kernel_rfl) ?_; clear KN; intro g9 wx hg9 KN) | (refine wpList_kn_alloc KN (by rfl) 35 rfl 10 rfl Vm.zero.cells (by kernel_rfl) ?_; clear KN; intro g10 wx hg10 KN) | (refine wpList_kn_alloc KN (by rfl) 35 rfl 13 rfl Vm.zero.cells (by kernel_rfl) ?_; clear KN; intro g13 wx hg13 KN) | (refine wpList_kn_alloc KN (by rfl) 33 rfl 14 rfl Eff.none.cells (by kernel_rfl) ?_; clear KN; intro g14 wx hg14 KN) | (refine wpList_kn_alloc KN (by rfl) 35 rfl 16 rfl Vm.zero.cells (by kernel_rfl) ?_; clear KN; intro g16 wx hg16 KN) | (refine wpList_kn_alloc KN (by rfl) 33 rfl 17 rfl Eff.none.cells (by kernel_rfl) ?_; clear KN; intro g17 wx hg17 KN))))
          go_roundw
          case rel => exact ⟨k + 1, _, _, by go_num, by omega, TW2.out, KN⟩
          case measure => simp [intOf]; omega
        · have hge : ¬ k < L ∨ (k < L ∧ ¬ k < 16) := by omega
          clear hlt
          rcases hge with hge | ⟨hkL, hge⟩
          · go_wp2_with (first | (go_at_call 12; refine (Place_any _ _ _ (by omega) (by omega) (by decide) (by decide)).mono ?_; rintro e wx ⟨rfl, rfl⟩; rw [HN.out]) | ((with_reducible refine wpList_gate ?_); first | ((refine gate_load (by rfl) ?_); first | (refine wpList_kn_load1 KN (by rfl) 3 _ rfl _ _ rfl _ _ (by repeat (first | exact Has.here | refine Has.there ?_)) _ (by (repeat (first | ((with_reducible refine get_hit ?_); exact Nat.le_of_ble_eq_true (by kernel_rfl)) | ((with_reducible refine (get_miss ?_).trans ?_); (focus kernel_rfl)) | ((with_reducible refine (get_pmiss ?_).trans ?_); (focus kernel_rfl)))); all_goals (conv => lhs; whnf; arg 1; whnf)) _ Try.underlying3 rfl ?_) | (refine wpList_kn_load1 KN (by rfl) 30 _ rfl _ _ rfl _ _ (by repeat (first | exact Has.here | refine Has.there ?_)) _ (by (repeat (first | ((with_reducible refine get_hit ?_); exact Nat.le_of_ble_eq_true (by kernel_rfl)) | ((with_reducible refine (get_miss ?_).trans ?_); (focus kernel_rfl)) | ((with_reducible refine (get_pmiss ?_).trans ?_); (focus kernel_rfl)))); all_goals (conv => lhs; whnf; arg 1; whnf)) _ Try.underlying30 rfl ?_) | (refine wpList_kn_loadW KN (by rfl) 35 _ rfl _ rfl _ _ (by repeat (first | exact Has.here | refine Has.there ?_)) _ Try.underlying35 rfl (by kernel_rfl) ?_) | (refine wpList_kn_loadW KN (by rfl) 33 _ rfl _ rfl _ _ (by repeat (first | exact Has.here | refine Has.there ?_)) _ Try.underlying33 rfl (by kernel_rfl) ?_)) | ((refine gate_store (by rfl) ?_); first | (refine wpList_kn_storeW KN (by rfl) 29 _ _ rfl _ rfl _ rfl _ _ (by repeat (first | exact Repl.here | apply Repl.there)) (by kernel_rfl) (by kernel_rfl) (by kernel_rfl) ?_; clear KN; intro wx KN) | (refine wpList_kn_storeA KN (by rfl) 29 _ _ rfl _ _ rfl _ rfl _ _ (by repeat (first | exact Repl.here | apply Repl.there)) (by (try simp only [Array.size_setIfInBounds, putL_size]); first | exact Nat.le_of_ble_eq_true rfl | (simp; omega)) (by kernel_rfl) (by kernel_rfl) ?_; clear KN; intro wx KN) | (refine wpList_kn_storeW KN (by rfl) 35 _ _ rfl _ rfl _ rfl _ _ (by repeat (first | exact Repl.here | apply Repl.there)) (by kernel_rfl) (by kernel_rfl) (by kernel_rfl) ?_; clear KN; intro wx KN) | (refine wpList_kn_storeA KN (by rfl) 35 _ _ rfl _ _ rfl _ rfl _ _ (by repeat (first | exact Repl.here | apply Repl.there)) (by (try simp only [Array.size_setIfInBounds, putL_size]); first | exact Nat.le_of_ble_eq_true rfl | (simp; omega)) (by kernel_rfl) (by kernel_rfl) ?_; clear KN; intro wx KN) | (refine wpList_kn_store1 KN (by rfl) 30 _ _ rfl _ _ rfl _ (by conv => lhs; whnf) (by rfl) _ _ (by repeat (first | exact Repl.here | apply Repl.there)) (by (try simp only [Array.size_setIfInBounds, putL_size]); first | exact Nat.le_of_ble_eq_true rfl | (simp; omega)) (by kernel_rfl) (by rfl) ?_; clear KN; intro wx KN) | (refine wpList_kn_storeW KN (by rfl) 33 _ _ rfl _ rfl _ rfl _ _ (by repeat (first | exact Repl.here | apply Repl.there)) (by kernel_rfl) (by kernel_rfl) (by kernel_rfl) ?_; clear KN; intro wx KN) | (refine wpList_kn_storeA KN (by rfl) 33 _ _ rfl _ _ rfl _ rfl _ _ (by repeat (first | exact Repl.here | apply Repl.there)) (by (try simp only [Array.size_setIfInBounds, putL_size]); first | exact Nat.le_of_ble_eq_true rfl | (simp; omega)) (by kernel_rfl) (by kernel_rfl) ?_; clear KN; intro wx KN)) | ((refine gate_new (by rfl) ?_); first | (refine wpList_kn_alloc KN (by rfl) 35 rfl 9 rfl Vm.zero.cells (by kernel_rfl) ?_; clear KN; intro g9 wx hg9 KN) | (refine wpList_kn_alloc KN (by rfl) 35 rfl 10 rfl Vm.zero.cells (by kernel_rfl) ?_; clear KN; intro g10 wx hg10 KN) | (refine wpList_kn_alloc KN (by rfl) 35 rfl 13 rfl Vm.zero.cells (by kernel_rfl) ?_; clear KN; intro g13 wx hg13 KN) | (refine wpList_kn_alloc KN (by rfl) 33 rfl 14 rfl Eff.none.cells (by kernel_rfl) ?_; clear KN; intro g14 wx hg14 KN) | (refine wpList_kn_alloc KN (by rfl) 35 rfl 16 rfl Vm.zero.cells (by kernel_rfl) ?_; clear KN; intro g16 wx hg16 KN) | (refine wpList_kn_alloc KN (by rfl) 33 rfl 17 rfl Eff.none.cells (by kernel_rfl) ?_; clear KN; intro g17 wx hg17 KN))))
            go_loopw [12] (fun i wr => W3Rel [(gp, CapAt 29 5 cap (q.map fun x => x.cells.toList))] w g9 g10 i wr) (fun i _ => (intOf i).toNat)
            case atStart => exact ⟨N, a, b, rfl, by omega, TW.out, KN⟩
            case round =>
              clear KN
              obtain ⟨k, a, b, rfl, hk, two, KN⟩ := hrel
              have TW := Lib.hid two
              clear two
              by_cases hgo : 0 < k ∧ a.state = 0
              · obtain ⟨hk0, hs⟩ := hgo
                have as0 : (a.state == 0) = true := by rw [beq_iff_eq]; exact hs
                have sa := stepRes_ok (TW.out.va.check hs QE.out)
                have sb := stepRes_ok (TW.out.vb.check (TW.out.pair.st ▸ hs) QE.out)
                obtain ⟨tw2, eff⟩ := TW.out.step hs QG.out QA.out
                obtain ⟨c, x, hax⟩ : ∃ c x, stepS a q = (c, x) := ⟨_, _, rfl⟩
                obtain ⟨d, x2, hbx⟩ : ∃ d x, stepS b q = (d, x) := ⟨_, _, rfl⟩
                rw [hax, hbx] at tw2 eff
                rw [hax] at sa
                rw [hbx] at sb
                have eff : x2 = x := eff.symm
                subst eff
                have tw2 : Two c d := tw2
                have dpc : (c.pc != d.pc) = false := by rw [bne_eq_false_iff_eq]; exact tw2.pair.pc
                have dst : (c.state != d.state) = false := by rw [bne_eq_false_iff_eq]; exact tw2.pair.st
                have TW2 := Lib.hid tw2
                have SA : Hid (stepRes a q = (c, x2, 0)) := Lib.hid sa
                have SB : Hid (stepRes b q = (d, x2, 0)) := Lib.hid sb
                clear tw2 sa sb hax hbx hs
                go_wp2_with (first | (go_at_call 13; refine (Step_any _ _ q _ (by first | exact TW.out.va.typed | exact TW.out.vb.typed) (Instrs.of_knL KN (by repeat (first | exact Has.here | refine Has.there ?_)) QL.out QC.out Q2.out QF.out)).mono ?_; rintro e wx ⟨rfl, hb1⟩; replace KN := KN.below hb1; clear hb1; (first | rw [SA.out] | rw [SB.out]); unfold stepVal) | ((with_reducible refine wpList_gate ?_); first | ((refine gate_load (by rfl) ?_); first | (refine wpList_kn_load1 KN (by rfl) 3 _ rfl _ _ rfl _ _ (by repeat (first | exact Has.here | refine Has.there ?_)) _ (by (repeat (first | ((with_reducible refine get_hit ?_); exact Nat.le_of_ble_eq_true (by kernel_rfl)) | ((with_reducible refine (get_miss ?_).trans ?_); (focus kernel_rfl)) | ((with_reducible refine (get_pmiss ?_).trans ?_); (focus kernel_rfl)))); all_goals (conv => lhs; whnf; arg 1; whnf)) _ Try.underlying3 rfl ?_) | (refine wpList_kn_load1 KN (by rfl) 30 _ rfl _ _ rfl _ _ (by repeat (first | exact Has.here | refine Has.there ?_)) _ (by (repeat (first | ((with_reducible refine get_hit ?_); exact Nat.le_of_ble_eq_true (by kernel_rfl)) | ((with_reducible refine (get_miss ?_).trans ?_); (focus kernel_rfl)) | ((with_reducible refine (get_pmiss ?_).trans ?_); (focus kernel_rfl)))); all_goals (conv => lhs; whnf; arg 1; whnf)) _ Try.underlying30 rfl ?_) | (refine wpList_kn_loadW KN (by rfl) 35 _ rfl _ rfl _ _ (by repeat (first | exact Has.here | refine Has.there ?_)) _ Try.underlying35 rfl (by kernel_rfl) ?_) | (refine wpList_kn_loadW KN (by rfl) 33 _ rfl _ rfl _ _ (by repeat (first | exact Has.here | refine Has.there ?_)) _ Try.underlying33 rfl (by kernel_rfl) ?_)) | ((refine gate_store (by rfl) ?_); first | (refine wpList_kn_storeW KN (by rfl) 29 _ _ rfl _ rfl _ rfl _ _ (by repeat (first | exact Repl.here | apply Repl.there)) (by kernel_rfl) (by kernel_rfl) (by kernel_rfl) ?_; clear KN; intro wx KN) | (refine wpList_kn_storeA KN (by rfl) 29 _ _ rfl _ _ rfl _ rfl _ _ (by repeat (first | exact Repl.here | apply Repl.there)) (by (try simp only [Array.size_setIfInBounds, putL_size]); first | exact Nat.le_of_ble_eq_true rfl | (simp; omega)) (by kernel_rfl) (by kernel_rfl) ?_; clear KN; intro wx KN) | (refine wpList_kn_storeW KN (by rfl) 35 _ _ rfl _ rfl _ rfl _ _ (by repeat (first | exact Repl.here | apply Repl.there)) (by kernel_rfl) (by kernel_rfl) (by kernel_rfl) ?_; clear KN; intro wx KN) | (refine wpList_kn_storeA KN (by rfl) 35 _ _ rfl _ _ rfl _ rfl _ _ (by repeat (first | exact Repl.here | apply Repl.there)) (by (try simp only [Array.size_setIfInBounds, putL_size]); first | exact Nat.le_of_ble_eq_true rfl | (simp; omega)) (by kernel_rfl) (by kernel_rfl) ?_; clear KN; intro wx KN) | (refine wpList_kn_store1 KN (by rfl) 30 _ _ rfl _ _ rfl _ (by conv => lhs; whnf) (by rfl) _ _ (by repeat (first | exact Repl.here | apply Repl.there)) (by (try simp only [Array.size_setIfInBounds, putL_size]); first | exact Nat.le_of_ble_eq_true rfl | (simp; omega)) (by kernel_rfl) (by rfl) ?_; clear KN; intro wx KN) | (refine wpList_kn_storeW KN (by rfl) 33 _ _ rfl _ rfl _ rfl _ _ (by repeat (first | exact Repl.here | apply Repl.there)) (by kernel_rfl) (by kernel_rfl) (by kernel_rfl) ?_; clear KN; intro wx KN) | (refine wpList_kn_storeA KN (by rfl) 33 _ _ rfl _ _ rfl _ rfl _ _ (by repeat (first | exact Repl.here | apply Repl.there)) (by (try simp only [Array.size_setIfInBounds, putL_size]); first | exact Nat.le_of_ble_eq_true rfl | (simp; omega)) (by kernel_rfl) (by kernel_rfl) ?_; clear KN; intro wx KN)) | ((refine gate_new (by rfl) ?_); first | (refine wpList_kn_alloc KN (by rfl) 35 rfl 9 rfl Vm.zero.cells (by kernel_rfl) ?_; clear KN; intro g9 wx hg9 KN) | (refine wpList_kn_alloc KN (by rfl) 35 rfl 10 rfl Vm.zero.cells (by kernel_rfl) ?_; clear KN; intro g10 wx hg10 KN) | (refine wpList_kn_alloc KN (by rfl) 35 rfl 13 rfl Vm.zero.cells (by kernel_rfl) ?_; clear KN; intro g13 wx hg13 KN) | (refine wpList_kn_alloc KN (by rfl) 33 rfl 14 rfl Eff.none.cells (by kernel_rfl) ?_; clear KN; intro g14 wx hg14 KN) | (refine wpList_kn_alloc KN (by rfl) 35 rfl 16 rfl Vm.zero.cells (by kernel_rfl) ?_; clear KN; intro g16 wx hg16 KN) | (refine wpList_kn_alloc KN (by rfl) 33 rfl 17 rfl Eff.none.cells (by kernel_rfl) ?_; clear KN; intro g17 wx hg17 KN)) | ((refine gate_cmp (by rfl) ?_); first | (refine wpList_kn_neq (by rfl) 33 _ _ _ rfl _ rfl rfl (by kernel_rfl) (by kernel_rfl) ?_))))
                go_loopw [19] (fun i wr => ∃ s : Nat, i = .int .i64 (s : Int) ∧ s ≤ 16 ∧ Kn [] w wr [(g17, At x2.cells 33), (g16, At d.cells 35), (g14, At x2.cells 33), (g13, At c.cells 35), (g10, At b.cells 35), (g9, At a.cells 35), (gp, CapAt 29 5 cap (q.map fun x => x.cells.toList))]) (fun i _ => 16 - (intOf i).toNat)
                case atStart => exact ⟨0, rfl, by omega, KN⟩
                case round =>
                  clear KN
                  obtain ⟨s, rfl, hs16, KN⟩ := hrel
                  by_cases hlt : s < 16
                  · have c1 := KN.cell (g := g13) (o := 4 + s) (by repeat (first | exact Has.here | refine Has.there ?_)) (c.cells_reg s hlt)
                    have c2 := KN.cell (g := g16) (o := 4 + s) (by repeat (first | exact Has.here | refine Has.there ?_)) (d.cells_reg s hlt)
                    have hd := TW2.out.fb.reg s
                    rw [TW2.out.pair.wb, show pw2 39 = 549755813888 from rfl] at hd
                    have hr := TW2.out.pair.reg s
                    have hm := mask32 (d.r s) hd.1 (by omega)
                    rw [← hr] at hm
                    have hr0 : 0 ≤ c.r s ∧ c.r s < 4294967296 := by omega
                    clear hr hd
                    go_wp2_with fail
                    go_quiet (fail)
                    clear c1 c2
                    go_wp2_with (first | ((with_reducible refine wpList_gate ?_); first | ((refine gate_load (by rfl) ?_); first | (refine wpList_kn_load1 KN (by rfl) 3 _ rfl _ _ rfl _ _ (by repeat (first | exact Has.here | refine Has.there ?_)) _ (by (repeat (first | ((with_reducible refine get_hit ?_); exact Nat.le_of_ble_eq_true (by kernel_rfl)) | ((with_reducible refine (get_miss ?_).trans ?_); (focus kernel_rfl)) | ((with_reducible refine (get_pmiss ?_).trans ?_); (focus kernel_rfl)))); all_goals (conv => lhs; whnf; arg 1; whnf)) _ Try.underlying3 rfl ?_) | (refine wpList_kn_load1 KN (by rfl) 30 _ rfl _ _ rfl _ _ (by repeat (first | exact Has.here | refine Has.there ?_)) _ (by (repeat (first | ((with_reducible refine get_hit ?_); exact Nat.le_of_ble_eq_true (by kernel_rfl)) | ((with_reducible refine (get_miss ?_).trans ?_); (focus kernel_rfl)) | ((with_reducible refine (get_pmiss ?_).trans ?_); (focus kernel_rfl)))); all_goals (conv => lhs; whnf; arg 1; whnf)) _ Try.underlying30 rfl ?_) | (refine wpList_kn_loadW KN (by rfl) 35 _ rfl _ rfl _ _ (by repeat (first | exact Has.here | refine Has.there ?_)) _ Try.underlying35 rfl (by kernel_rfl) ?_) | (refine wpList_kn_loadW KN (by rfl) 33 _ rfl _ rfl _ _ (by repeat (first | exact Has.here | refine Has.there ?_)) _ Try.underlying33 rfl (by kernel_rfl) ?_)) | ((refine gate_store (by rfl) ?_); first | (refine wpList_kn_storeW KN (by rfl) 29 _ _ rfl _ rfl _ rfl _ _ (by repeat (first | exact Repl.here | apply Repl.there)) (by kernel_rfl) (by kernel_rfl) (by kernel_rfl) ?_; clear KN; intro wx KN) | (refine wpList_kn_storeA KN (by rfl) 29 _ _ rfl _ _ rfl _ rfl _ _ (by repeat (first | exact Repl.here | apply Repl.there)) (by (try simp only [Array.size_setIfInBounds, putL_size]); first | exact Nat.le_of_ble_eq_true rfl | (simp; omega)) (by kernel_rfl) (by kernel_rfl) ?_; clear KN; intro wx KN) | (refine wpList_kn_storeW KN (by rfl) 35 _ _ rfl _ rfl _ rfl _ _ (by repeat (first | exact Repl.here | apply Repl.there)) (by kernel_rfl) (by kernel_rfl) (by kernel_rfl) ?_; clear KN; intro wx KN) | (refine wpList_kn_storeA KN (by rfl) 35 _ _ rfl _ _ rfl _ rfl _ _ (by repeat (first | exact Repl.here | apply Repl.there)) (by (try simp only [Array.size_setIfInBounds, putL_size]); first | exact Nat.le_of_ble_eq_true rfl | (simp; omega)) (by kernel_rfl) (by kernel_rfl) ?_; clear KN; intro wx KN) | (refine wpList_kn_store1 KN (by rfl) 30 _ _ rfl _ _ rfl _ (by conv => lhs; whnf) (by rfl) _ _ (by repeat (first | exact Repl.here | apply Repl.there)) (by (try simp only [Array.size_setIfInBounds, putL_size]); first | exact Nat.le_of_ble_eq_true rfl | (simp; omega)) (by kernel_rfl) (by rfl) ?_; clear KN; intro wx KN) | (refine wpList_kn_storeW KN (by rfl) 33 _ _ rfl _ rfl _ rfl _ _ (by repeat (first | exact Repl.here | apply Repl.there)) (by kernel_rfl) (by kernel_rfl) (by kernel_rfl) ?_; clear KN; intro wx KN) | (refine wpList_kn_storeA KN (by rfl) 33 _ _ rfl _ _ rfl _ rfl _ _ (by repeat (first | exact Repl.here | apply Repl.there)) (by (try simp only [Array.size_setIfInBounds, putL_size]); first | exact Nat.le_of_ble_eq_true rfl | (simp; omega)) (by kernel_rfl) (by kernel_rfl) ?_; clear KN; intro wx KN)) | ((refine gate_new (by rfl) ?_); first | (refine wpList_kn_alloc KN (by rfl) 35 rfl 9 rfl Vm.zero.cells (by kernel_rfl) ?_; clear KN; intro g9 wx hg9 KN) | (refine wpList_kn_alloc KN (by rfl) 35 rfl 10 rfl Vm.zero.cells (by kernel_rfl) ?_; clear KN; intro g10 wx hg10 KN) | (refine wpList_kn_alloc KN (by rfl) 35 rfl 13 rfl Vm.zero.cells (by kernel_rfl) ?_; clear KN; intro g13 wx hg13 KN) | (refine wpList_kn_alloc KN (by rfl) 33 rfl 14 rfl Eff.none.cells (by kernel_rfl) ?_; clear KN; intro g14 wx hg14 KN) | (refine wpList_kn_alloc KN (by rfl) 35 rfl 16 rfl Vm.zero.cells (by kernel_rfl) ?_; clear KN; intro g16 wx hg16 KN) | (refine wpList_kn_alloc KN (by rfl) 33 rfl 17 rfl Eff.none.cells (by kernel_rfl) ?_; clear KN; intro g17 wx hg17 KN))))
                    go_roundw
                    case rel => exact ⟨s + 1, by go_num, hlt, KN.drewN _⟩
                    case measure => simp [intOf]; omega
                  · have hs : s = 16 := by omega
                    subst hs
                    go_wp2_with fail
                    replace KN := KN.drew
                    refine wp_region_held_drew (S := (fun w' => BlkT w' g13 c.cells 35 ∧ BlkT w' g16 d.cells 35)) (by kernel_rfl) ?qwahS (fun hHeld => ?qwarest)
                    case qwahS => exact ⟨KN.at_ (by repeat (first | exact Has.here | refine Has.there ?_)), KN.at_ (by repeat (first | exact Has.here | refine Has.there ?_))⟩
                    refine wpAnyH_take (i := 0) (oi := ⟨some 157, _, _, _, _, _⟩) (v := (.agg c.cells)) rfl (by kernel_rfl) (by kernel_rfl) (by kernel_rfl) (fun _ _ _ h => h) (kn_yieldsN (by rfl) 35 _ rfl g13 0 rfl _ 35 (fun _ h => h.1) _ (extract_whole _) _ Try.underlying35 rfl vm_size) hHeld ?qwar0
                    (try simp only [Act.put, List.setIfInBounds_toArray, List.set_cons_zero, List.set_cons_succ])
                    refine wpAnyH_take (i := 1) (oi := ⟨some 158, _, _, _, _, _⟩) (v := (.agg d.cells)) rfl (by kernel_rfl) (by kernel_rfl) (by kernel_rfl) (fun _ _ _ h => h) (kn_yieldsN (by rfl) 35 _ rfl g16 0 rfl _ 35 (fun _ h => h.2) _ (extract_whole _) _ Try.underlying35 rfl vm_size) hHeld ?qwar1
                    (try simp only [Act.put, List.setIfInBounds_toArray, List.set_cons_zero, List.set_cons_succ])
                    refine wpAnyH_ready (rs := [2]) (by kernel_rfl) (by simp) ?qwac2
                    refine AllReadyH.cons (o := ⟨none, _, _, _, _, _⟩) rfl (fun K hK => ?qwast2) AllReadyH.nil
                    (rw [if_pos (by rfl)]; refine wp_kn_storeW KN 35 _ _ rfl g9 rfl _ rfl _ _ (by repeat (first | exact Repl.here | apply Repl.there)) (by kernel_rfl) (by kernel_rfl) (by kernel_rfl) ?_; clear KN; intro wx KN)
                    refine hK.out _ _ ?qwak2 (fun hHeld2 => ?qwam2)
                    case qwak2 => exact ⟨KN.at_ (by repeat (first | exact Has.here | refine Has.there ?_)), KN.at_ (by repeat (first | exact Has.here | refine Has.there ?_))⟩
                    clear hK K hHeld
                    have hHeld := hHeld2; clear hHeld2
                    (try simp only [Act.put, List.setIfInBounds_toArray, List.set_cons_zero, List.set_cons_succ])
                    refine wpAnyH_ready (rs := [3]) (by kernel_rfl) (by simp) ?qwac3
                    refine AllReadyH.cons (o := ⟨none, _, _, _, _, _⟩) rfl (fun K hK => ?qwast3) AllReadyH.nil
                    (rw [if_pos (by rfl)]; refine wp_kn_storeW KN 35 _ _ rfl g10 rfl _ rfl _ _ (by repeat (first | exact Repl.here | apply Repl.there)) (by kernel_rfl) (by kernel_rfl) (by kernel_rfl) ?_; clear KN; intro wx KN)
                    refine hK.out _ _ ?qwak3 (fun hHeld2 => ?qwam3)
                    case qwak3 => exact ⟨KN.at_ (by repeat (first | exact Has.here | refine Has.there ?_)), KN.at_ (by repeat (first | exact Has.here | refine Has.there ?_))⟩
                    clear hK K hHeld
                    have hHeld := hHeld2; clear hHeld2
                    (try simp only [Act.put, List.setIfInBounds_toArray, List.set_cons_zero, List.set_cons_succ])
                    refine wpAnyH_done (by kernel_rfl) ?qwadone _
                    go_wp2_with fail
                    go_roundw
                    case rel => exact ⟨k - 1, c, d, by go_num, by omega, TW2.out, (((KN.drop .here).drop .here).drop .here).drop .here⟩
                    case measure => simp [intOf]; omega
              · have hge : ¬ 0 < k ∨ (0 < k ∧ (a.state == 0) = false) := by
                  rcases Nat.eq_zero_or_pos k with h | h
                  · exact .inl (by omega)
                  · exact .inr ⟨h, by rw [beq_eq_false_iff_ne]; exact fun e => hgo ⟨h, e⟩⟩
                clear hgo
                rcases hge with hge | ⟨hk0, hge⟩
                all_goals
                  go_wp2_with (first | (go_at_call 9; refine (awake_any _).mono ?_; rintro e wx ⟨rfl, hb1⟩; replace KN := KN.below hb1; clear hb1) | ((with_reducible refine wpList_gate ?_); first | ((refine gate_load (by rfl) ?_); first | (refine wpList_kn_load1 KN (by rfl) 3 _ rfl _ _ rfl _ _ (by repeat (first | exact Has.here | refine Has.there ?_)) _ (by (repeat (first | ((with_reducible refine get_hit ?_); exact Nat.le_of_ble_eq_true (by kernel_rfl)) | ((with_reducible refine (get_miss ?_).trans ?_); (focus kernel_rfl)) | ((with_reducible refine (get_pmiss ?_).trans ?_); (focus kernel_rfl)))); all_goals (conv => lhs; whnf; arg 1; whnf)) _ Try.underlying3 rfl ?_) | (refine wpList_kn_load1 KN (by rfl) 30 _ rfl _ _ rfl _ _ (by repeat (first | exact Has.here | refine Has.there ?_)) _ (by (repeat (first | ((with_reducible refine get_hit ?_); exact Nat.le_of_ble_eq_true (by kernel_rfl)) | ((with_reducible refine (get_miss ?_).trans ?_); (focus kernel_rfl)) | ((with_reducible refine (get_pmiss ?_).trans ?_); (focus kernel_rfl)))); all_goals (conv => lhs; whnf; arg 1; whnf)) _ Try.underlying30 rfl ?_) | (refine wpList_kn_loadW KN (by rfl) 35 _ rfl _ rfl _ _ (by repeat (first | exact Has.here | refine Has.there ?_)) _ Try.underlying35 rfl (by kernel_rfl) ?_) | (refine wpList_kn_loadW KN (by rfl) 33 _ rfl _ rfl _ _ (by repeat (first | exact Has.here | refine Has.there ?_)) _ Try.underlying33 rfl (by kernel_rfl) ?_)) | ((refine gate_store (by rfl) ?_); first | (refine wpList_kn_storeW KN (by rfl) 29 _ _ rfl _ rfl _ rfl _ _ (by repeat (first | exact Repl.here | apply Repl.there)) (by kernel_rfl) (by kernel_rfl) (by kernel_rfl) ?_; clear KN; intro wx KN) | (refine wpList_kn_storeA KN (by rfl) 29 _ _ rfl _ _ rfl _ rfl _ _ (by repeat (first | exact Repl.here | apply Repl.there)) (by (try simp only [Array.size_setIfInBounds, putL_size]); first | exact Nat.le_of_ble_eq_true rfl | (simp; omega)) (by kernel_rfl) (by kernel_rfl) ?_; clear KN; intro wx KN) | (refine wpList_kn_storeW KN (by rfl) 35 _ _ rfl _ rfl _ rfl _ _ (by repeat (first | exact Repl.here | apply Repl.there)) (by kernel_rfl) (by kernel_rfl) (by kernel_rfl) ?_; clear KN; intro wx KN) | (refine wpList_kn_storeA KN (by rfl) 35 _ _ rfl _ _ rfl _ rfl _ _ (by repeat (first | exact Repl.here | apply Repl.there)) (by (try simp only [Array.size_setIfInBounds, putL_size]); first | exact Nat.le_of_ble_eq_true rfl | (simp; omega)) (by kernel_rfl) (by kernel_rfl) ?_; clear KN; intro wx KN) | (refine wpList_kn_store1 KN (by rfl) 30 _ _ rfl _ _ rfl _ (by conv => lhs; whnf) (by rfl) _ _ (by repeat (first | exact Repl.here | apply Repl.there)) (by (try simp only [Array.size_setIfInBounds, putL_size]); first | exact Nat.le_of_ble_eq_true rfl | (simp; omega)) (by kernel_rfl) (by rfl) ?_; clear KN; intro wx KN) | (refine wpList_kn_storeW KN (by rfl) 33 _ _ rfl _ rfl _ rfl _ _ (by repeat (first | exact Repl.here | apply Repl.there)) (by kernel_rfl) (by kernel_rfl) (by kernel_rfl) ?_; clear KN; intro wx KN) | (refine wpList_kn_storeA KN (by rfl) 33 _ _ rfl _ _ rfl _ rfl _ _ (by repeat (first | exact Repl.here | apply Repl.there)) (by (try simp only [Array.size_setIfInBounds, putL_size]); first | exact Nat.le_of_ble_eq_true rfl | (simp; omega)) (by kernel_rfl) (by kernel_rfl) ?_; clear KN; intro wx KN)) | ((refine gate_new (by rfl) ?_); first | (refine wpList_kn_alloc KN (by rfl) 35 rfl 9 rfl Vm.zero.cells (by kernel_rfl) ?_; clear KN; intro g9 wx hg9 KN) | (refine wpList_kn_alloc KN (by rfl) 35 rfl 10 rfl Vm.zero.cells (by kernel_rfl) ?_; clear KN; intro g10 wx hg10 KN) | (refine wpList_kn_alloc KN (by rfl) 35 rfl 13 rfl Vm.zero.cells (by kernel_rfl) ?_; clear KN; intro g13 wx hg13 KN) | (refine wpList_kn_alloc KN (by rfl) 33 rfl 14 rfl Eff.none.cells (by kernel_rfl) ?_; clear KN; intro g14 wx hg14 KN) | (refine wpList_kn_alloc KN (by rfl) 35 rfl 16 rfl Vm.zero.cells (by kernel_rfl) ?_; clear KN; intro g16 wx hg16 KN) | (refine wpList_kn_alloc KN (by rfl) 33 rfl 17 rfl Eff.none.cells (by kernel_rfl) ?_; clear KN; intro g17 wx hg17 KN))))
                  go_ret
                  exact ⟨rfl, KN.toBelow⟩
          · go_wp2_with (first | (go_at_call 12; refine (Place_any _ _ _ (by omega) (by omega) (by decide) (by decide)).mono ?_; rintro e wx ⟨rfl, rfl⟩; rw [HN.out]) | ((with_reducible refine wpList_gate ?_); first | ((refine gate_load (by rfl) ?_); first | (refine wpList_kn_load1 KN (by rfl) 3 _ rfl _ _ rfl _ _ (by repeat (first | exact Has.here | refine Has.there ?_)) _ (by (repeat (first | ((with_reducible refine get_hit ?_); exact Nat.le_of_ble_eq_true (by kernel_rfl)) | ((with_reducible refine (get_miss ?_).trans ?_); (focus kernel_rfl)) | ((with_reducible refine (get_pmiss ?_).trans ?_); (focus kernel_rfl)))); all_goals (conv => lhs; whnf; arg 1; whnf)) _ Try.underlying3 rfl ?_) | (refine wpList_kn_load1 KN (by rfl) 30 _ rfl _ _ rfl _ _ (by repeat (first | exact Has.here | refine Has.there ?_)) _ (by (repeat (first | ((with_reducible refine get_hit ?_); exact Nat.le_of_ble_eq_true (by kernel_rfl)) | ((with_reducible refine (get_miss ?_).trans ?_); (focus kernel_rfl)) | ((with_reducible refine (get_pmiss ?_).trans ?_); (focus kernel_rfl)))); all_goals (conv => lhs; whnf; arg 1; whnf)) _ Try.underlying30 rfl ?_) | (refine wpList_kn_loadW KN (by rfl) 35 _ rfl _ rfl _ _ (by repeat (first | exact Has.here | refine Has.there ?_)) _ Try.underlying35 rfl (by kernel_rfl) ?_) | (refine wpList_kn_loadW KN (by rfl) 33 _ rfl _ rfl _ _ (by repeat (first | exact Has.here | refine Has.there ?_)) _ Try.underlying33 rfl (by kernel_rfl) ?_)) | ((refine gate_store (by rfl) ?_); first | (refine wpList_kn_storeW KN (by rfl) 29 _ _ rfl _ rfl _ rfl _ _ (by repeat (first | exact Repl.here | apply Repl.there)) (by kernel_rfl) (by kernel_rfl) (by kernel_rfl) ?_; clear KN; intro wx KN) | (refine wpList_kn_storeA KN (by rfl) 29 _ _ rfl _ _ rfl _ rfl _ _ (by repeat (first | exact Repl.here | apply Repl.there)) (by (try simp only [Array.size_setIfInBounds, putL_size]); first | exact Nat.le_of_ble_eq_true rfl | (simp; omega)) (by kernel_rfl) (by kernel_rfl) ?_; clear KN; intro wx KN) | (refine wpList_kn_storeW KN (by rfl) 35 _ _ rfl _ rfl _ rfl _ _ (by repeat (first | exact Repl.here | apply Repl.there)) (by kernel_rfl) (by kernel_rfl) (by kernel_rfl) ?_; clear KN; intro wx KN) | (refine wpList_kn_storeA KN (by rfl) 35 _ _ rfl _ _ rfl _ rfl _ _ (by repeat (first | exact Repl.here | apply Repl.there)) (by (try simp only [Array.size_setIfInBounds, putL_size]); first | exact Nat.le_of_ble_eq_true rfl | (simp; omega)) (by kernel_rfl) (by kernel_rfl) ?_; clear KN; intro wx KN) | (refine wpList_kn_store1 KN (by rfl) 30 _ _ rfl _ _ rfl _ (by conv => lhs; whnf) (by rfl) _ _ (by repeat (first | exact Repl.here | apply Repl.there)) (by (try simp only [Array.size_setIfInBounds, putL_size]); first | exact Nat.le_of_ble_eq_true rfl | (simp; omega)) (by kernel_rfl) (by rfl) ?_; clear KN; intro wx KN) | (refine wpList_kn_storeW KN (by rfl) 33 _ _ rfl _ rfl _ rfl _ _ (by repeat (first | exact Repl.here | apply Repl.there)) (by kernel_rfl) (by kernel_rfl) (by kernel_rfl) ?_; clear KN; intro wx KN) | (refine wpList_kn_storeA KN (by rfl) 33 _ _ rfl _ _ rfl _ rfl _ _ (by repeat (first | exact Repl.here | apply Repl.there)) (by (try simp only [Array.size_setIfInBounds, putL_size]); first | exact Nat.le_of_ble_eq_true rfl | (simp; omega)) (by kernel_rfl) (by kernel_rfl) ?_; clear KN; intro wx KN)) | ((refine gate_new (by rfl) ?_); first | (refine wpList_kn_alloc KN (by rfl) 35 rfl 9 rfl Vm.zero.cells (by kernel_rfl) ?_; clear KN; intro g9 wx hg9 KN) | (refine wpList_kn_alloc KN (by rfl) 35 rfl 10 rfl Vm.zero.cells (by kernel_rfl) ?_; clear KN; intro g10 wx hg10 KN) | (refine wpList_kn_alloc KN (by rfl) 35 rfl 13 rfl Vm.zero.cells (by kernel_rfl) ?_; clear KN; intro g13 wx hg13 KN) | (refine wpList_kn_alloc KN (by rfl) 33 rfl 14 rfl Eff.none.cells (by kernel_rfl) ?_; clear KN; intro g14 wx hg14 KN) | (refine wpList_kn_alloc KN (by rfl) 35 rfl 16 rfl Vm.zero.cells (by kernel_rfl) ?_; clear KN; intro g16 wx hg16 KN) | (refine wpList_kn_alloc KN (by rfl) 33 rfl 17 rfl Eff.none.cells (by kernel_rfl) ?_; clear KN; intro g17 wx hg17 KN))))
            go_loopw [12] (fun i wr => W3Rel [(gp, CapAt 29 5 cap (q.map fun x => x.cells.toList))] w g9 g10 i wr) (fun i _ => (intOf i).toNat)
            case atStart => exact ⟨N, a, b, rfl, by omega, TW.out, KN⟩
            case round =>
              clear KN
              obtain ⟨k, a, b, rfl, hk, two, KN⟩ := hrel
              have TW := Lib.hid two
              clear two
              by_cases hgo : 0 < k ∧ a.state = 0
              · obtain ⟨hk0, hs⟩ := hgo
                have as0 : (a.state == 0) = true := by rw [beq_iff_eq]; exact hs
                have sa := stepRes_ok (TW.out.va.check hs QE.out)
                have sb := stepRes_ok (TW.out.vb.check (TW.out.pair.st ▸ hs) QE.out)
                obtain ⟨tw2, eff⟩ := TW.out.step hs QG.out QA.out
                obtain ⟨c, x, hax⟩ : ∃ c x, stepS a q = (c, x) := ⟨_, _, rfl⟩
                obtain ⟨d, x2, hbx⟩ : ∃ d x, stepS b q = (d, x) := ⟨_, _, rfl⟩
                rw [hax, hbx] at tw2 eff
                rw [hax] at sa
                rw [hbx] at sb
                have eff : x2 = x := eff.symm
                subst eff
                have tw2 : Two c d := tw2
                have dpc : (c.pc != d.pc) = false := by rw [bne_eq_false_iff_eq]; exact tw2.pair.pc
                have dst : (c.state != d.state) = false := by rw [bne_eq_false_iff_eq]; exact tw2.pair.st
                have TW2 := Lib.hid tw2
                have SA : Hid (stepRes a q = (c, x2, 0)) := Lib.hid sa
                have SB : Hid (stepRes b q = (d, x2, 0)) := Lib.hid sb
                clear tw2 sa sb hax hbx hs
                go_wp2_with (first | (go_at_call 13; refine (Step_any _ _ q _ (by first | exact TW.out.va.typed | exact TW.out.vb.typed) (Instrs.of_knL KN (by repeat (first | exact Has.here | refine Has.there ?_)) QL.out QC.out Q2.out QF.out)).mono ?_; rintro e wx ⟨rfl, hb1⟩; replace KN := KN.below hb1; clear hb1; (first | rw [SA.out] | rw [SB.out]); unfold stepVal) | ((with_reducible refine wpList_gate ?_); first | ((refine gate_load (by rfl) ?_); first | (refine wpList_kn_load1 KN (by rfl) 3 _ rfl _ _ rfl _ _ (by repeat (first | exact Has.here | refine Has.there ?_)) _ (by (repeat (first | ((with_reducible refine get_hit ?_); exact Nat.le_of_ble_eq_true (by kernel_rfl)) | ((with_reducible refine (get_miss ?_).trans ?_); (focus kernel_rfl)) | ((with_reducible refine (get_pmiss ?_).trans ?_); (focus kernel_rfl)))); all_goals (conv => lhs; whnf; arg 1; whnf)) _ Try.underlying3 rfl ?_) | (refine wpList_kn_load1 KN (by rfl) 30 _ rfl _ _ rfl _ _ (by repeat (first | exact Has.here | refine Has.there ?_)) _ (by (repeat (first | ((with_reducible refine get_hit ?_); exact Nat.le_of_ble_eq_true (by kernel_rfl)) | ((with_reducible refine (get_miss ?_).trans ?_); (focus kernel_rfl)) | ((with_reducible refine (get_pmiss ?_).trans ?_); (focus kernel_rfl)))); all_goals (conv => lhs; whnf; arg 1; whnf)) _ Try.underlying30 rfl ?_) | (refine wpList_kn_loadW KN (by rfl) 35 _ rfl _ rfl _ _ (by repeat (first | exact Has.here | refine Has.there ?_)) _ Try.underlying35 rfl (by kernel_rfl) ?_) | (refine wpList_kn_loadW KN (by rfl) 33 _ rfl _ rfl _ _ (by repeat (first | exact Has.here | refine Has.there ?_)) _ Try.underlying33 rfl (by kernel_rfl) ?_)) | ((refine gate_store (by rfl) ?_); first | (refine wpList_kn_storeW KN (by rfl) 29 _ _ rfl _ rfl _ rfl _ _ (by repeat (first | exact Repl.here | apply Repl.there)) (by kernel_rfl) (by kernel_rfl) (by kernel_rfl) ?_; clear KN; intro wx KN) | (refine wpList_kn_storeA KN (by rfl) 29 _ _ rfl _ _ rfl _ rfl _ _ (by repeat (first | exact Repl.here | apply Repl.there)) (by (try simp only [Array.size_setIfInBounds, putL_size]); first | exact Nat.le_of_ble_eq_true rfl | (simp; omega)) (by kernel_rfl) (by kernel_rfl) ?_; clear KN; intro wx KN) | (refine wpList_kn_storeW KN (by rfl) 35 _ _ rfl _ rfl _ rfl _ _ (by repeat (first | exact Repl.here | apply Repl.there)) (by kernel_rfl) (by kernel_rfl) (by kernel_rfl) ?_; clear KN; intro wx KN) | (refine wpList_kn_storeA KN (by rfl) 35 _ _ rfl _ _ rfl _ rfl _ _ (by repeat (first | exact Repl.here | apply Repl.there)) (by (try simp only [Array.size_setIfInBounds, putL_size]); first | exact Nat.le_of_ble_eq_true rfl | (simp; omega)) (by kernel_rfl) (by kernel_rfl) ?_; clear KN; intro wx KN) | (refine wpList_kn_store1 KN (by rfl) 30 _ _ rfl _ _ rfl _ (by conv => lhs; whnf) (by rfl) _ _ (by repeat (first | exact Repl.here | apply Repl.there)) (by (try simp only [Array.size_setIfInBounds, putL_size]); first | exact Nat.le_of_ble_eq_true rfl | (simp; omega)) (by kernel_rfl) (by rfl) ?_; clear KN; intro wx KN) | (refine wpList_kn_storeW KN (by rfl) 33 _ _ rfl _ rfl _ rfl _ _ (by repeat (first | exact Repl.here | apply Repl.there)) (by kernel_rfl) (by kernel_rfl) (by kernel_rfl) ?_; clear KN; intro wx KN) | (refine wpList_kn_storeA KN (by rfl) 33 _ _ rfl _ _ rfl _ rfl _ _ (by repeat (first | exact Repl.here | apply Repl.there)) (by (try simp only [Array.size_setIfInBounds, putL_size]); first | exact Nat.le_of_ble_eq_true rfl | (simp; omega)) (by kernel_rfl) (by kernel_rfl) ?_; clear KN; intro wx KN)) | ((refine gate_new (by rfl) ?_); first | (refine wpList_kn_alloc KN (by rfl) 35 rfl 9 rfl Vm.zero.cells (by kernel_rfl) ?_; clear KN; intro g9 wx hg9 KN) | (refine wpList_kn_alloc KN (by rfl) 35 rfl 10 rfl Vm.zero.cells (by kernel_rfl) ?_; clear KN; intro g10 wx hg10 KN) | (refine wpList_kn_alloc KN (by rfl) 35 rfl 13 rfl Vm.zero.cells (by kernel_rfl) ?_; clear KN; intro g13 wx hg13 KN) | (refine wpList_kn_alloc KN (by rfl) 33 rfl 14 rfl Eff.none.cells (by kernel_rfl) ?_; clear KN; intro g14 wx hg14 KN) | (refine wpList_kn_alloc KN (by rfl) 35 rfl 16 rfl Vm.zero.cells (by kernel_rfl) ?_; clear KN; intro g16 wx hg16 KN) | (refine wpList_kn_alloc KN (by rfl) 33 rfl 17 rfl Eff.none.cells (by kernel_rfl) ?_; clear KN; intro g17 wx hg17 KN)) | ((refine gate_cmp (by rfl) ?_); first | (refine wpList_kn_neq (by rfl) 33 _ _ _ rfl _ rfl rfl (by kernel_rfl) (by kernel_rfl) ?_))))
                go_loopw [19] (fun i wr => ∃ s : Nat, i = .int .i64 (s : Int) ∧ s ≤ 16 ∧ Kn [] w wr [(g17, At x2.cells 33), (g16, At d.cells 35), (g14, At x2.cells 33), (g13, At c.cells 35), (g10, At b.cells 35), (g9, At a.cells 35), (gp, CapAt 29 5 cap (q.map fun x => x.cells.toList))]) (fun i _ => 16 - (intOf i).toNat)
                case atStart => exact ⟨0, rfl, by omega, KN⟩
                case round =>
                  clear KN
                  obtain ⟨s, rfl, hs16, KN⟩ := hrel
                  by_cases hlt : s < 16
                  · have c1 := KN.cell (g := g13) (o := 4 + s) (by repeat (first | exact Has.here | refine Has.there ?_)) (c.cells_reg s hlt)
                    have c2 := KN.cell (g := g16) (o := 4 + s) (by repeat (first | exact Has.here | refine Has.there ?_)) (d.cells_reg s hlt)
                    have hd := TW2.out.fb.reg s
                    rw [TW2.out.pair.wb, show pw2 39 = 549755813888 from rfl] at hd
                    have hr := TW2.out.pair.reg s
                    have hm := mask32 (d.r s) hd.1 (by omega)
                    rw [← hr] at hm
                    have hr0 : 0 ≤ c.r s ∧ c.r s < 4294967296 := by omega
                    clear hr hd
                    go_wp2_with fail
                    go_quiet (fail)
                    clear c1 c2
                    go_wp2_with (first | ((with_reducible refine wpList_gate ?_); first | ((refine gate_load (by rfl) ?_); first | (refine wpList_kn_load1 KN (by rfl) 3 _ rfl _ _ rfl _ _ (by repeat (first | exact Has.here | refine Has.there ?_)) _ (by (repeat (first | ((with_reducible refine get_hit ?_); exact Nat.le_of_ble_eq_true (by kernel_rfl)) | ((with_reducible refine (get_miss ?_).trans ?_); (focus kernel_rfl)) | ((with_reducible refine (get_pmiss ?_).trans ?_); (focus kernel_rfl)))); all_goals (conv => lhs; whnf; arg 1; whnf)) _ Try.underlying3 rfl ?_) | (refine wpList_kn_load1 KN (by rfl) 30 _ rfl _ _ rfl _ _ (by repeat (first | exact Has.here | refine Has.there ?_)) _ (by (repeat (first | ((with_reducible refine get_hit ?_); exact Nat.le_of_ble_eq_true (by kernel_rfl)) | ((with_reducible refine (get_miss ?_).trans ?_); (focus kernel_rfl)) | ((with_reducible refine (get_pmiss ?_).trans ?_); (focus kernel_rfl)))); all_goals (conv => lhs; whnf; arg 1; whnf)) _ Try.underlying30 rfl ?_) | (refine wpList_kn_loadW KN (by rfl) 35 _ rfl _ rfl _ _ (by repeat (first | exact Has.here | refine Has.there ?_)) _ Try.underlying35 rfl (by kernel_rfl) ?_) | (refine wpList_kn_loadW KN (by rfl) 33 _ rfl _ rfl _ _ (by repeat (first | exact Has.here | refine Has.there ?_)) _ Try.underlying33 rfl (by kernel_rfl) ?_)) | ((refine gate_store (by rfl) ?_); first | (refine wpList_kn_storeW KN (by rfl) 29 _ _ rfl _ rfl _ rfl _ _ (by repeat (first | exact Repl.here | apply Repl.there)) (by kernel_rfl) (by kernel_rfl) (by kernel_rfl) ?_; clear KN; intro wx KN) | (refine wpList_kn_storeA KN (by rfl) 29 _ _ rfl _ _ rfl _ rfl _ _ (by repeat (first | exact Repl.here | apply Repl.there)) (by (try simp only [Array.size_setIfInBounds, putL_size]); first | exact Nat.le_of_ble_eq_true rfl | (simp; omega)) (by kernel_rfl) (by kernel_rfl) ?_; clear KN; intro wx KN) | (refine wpList_kn_storeW KN (by rfl) 35 _ _ rfl _ rfl _ rfl _ _ (by repeat (first | exact Repl.here | apply Repl.there)) (by kernel_rfl) (by kernel_rfl) (by kernel_rfl) ?_; clear KN; intro wx KN) | (refine wpList_kn_storeA KN (by rfl) 35 _ _ rfl _ _ rfl _ rfl _ _ (by repeat (first | exact Repl.here | apply Repl.there)) (by (try simp only [Array.size_setIfInBounds, putL_size]); first | exact Nat.le_of_ble_eq_true rfl | (simp; omega)) (by kernel_rfl) (by kernel_rfl) ?_; clear KN; intro wx KN) | (refine wpList_kn_store1 KN (by rfl) 30 _ _ rfl _ _ rfl _ (by conv => lhs; whnf) (by rfl) _ _ (by repeat (first | exact Repl.here | apply Repl.there)) (by (try simp only [Array.size_setIfInBounds, putL_size]); first | exact Nat.le_of_ble_eq_true rfl | (simp; omega)) (by kernel_rfl) (by rfl) ?_; clear KN; intro wx KN) | (refine wpList_kn_storeW KN (by rfl) 33 _ _ rfl _ rfl _ rfl _ _ (by repeat (first | exact Repl.here | apply Repl.there)) (by kernel_rfl) (by kernel_rfl) (by kernel_rfl) ?_; clear KN; intro wx KN) | (refine wpList_kn_storeA KN (by rfl) 33 _ _ rfl _ _ rfl _ rfl _ _ (by repeat (first | exact Repl.here | apply Repl.there)) (by (try simp only [Array.size_setIfInBounds, putL_size]); first | exact Nat.le_of_ble_eq_true rfl | (simp; omega)) (by kernel_rfl) (by kernel_rfl) ?_; clear KN; intro wx KN)) | ((refine gate_new (by rfl) ?_); first | (refine wpList_kn_alloc KN (by rfl) 35 rfl 9 rfl Vm.zero.cells (by kernel_rfl) ?_; clear KN; intro g9 wx hg9 KN) | (refine wpList_kn_alloc KN (by rfl) 35 rfl 10 rfl Vm.zero.cells (by kernel_rfl) ?_; clear KN; intro g10 wx hg10 KN) | (refine wpList_kn_alloc KN (by rfl) 35 rfl 13 rfl Vm.zero.cells (by kernel_rfl) ?_; clear KN; intro g13 wx hg13 KN) | (refine wpList_kn_alloc KN (by rfl) 33 rfl 14 rfl Eff.none.cells (by kernel_rfl) ?_; clear KN; intro g14 wx hg14 KN) | (refine wpList_kn_alloc KN (by rfl) 35 rfl 16 rfl Vm.zero.cells (by kernel_rfl) ?_; clear KN; intro g16 wx hg16 KN) | (refine wpList_kn_alloc KN (by rfl) 33 rfl 17 rfl Eff.none.cells (by kernel_rfl) ?_; clear KN; intro g17 wx hg17 KN))))
                    go_roundw
                    case rel => exact ⟨s + 1, by go_num, hlt, KN.drewN _⟩
                    case measure => simp [intOf]; omega
                  · have hs : s = 16 := by omega
                    subst hs
                    go_wp2_with fail
                    replace KN := KN.drew
                    refine wp_region_held_drew (S := (fun w' => BlkT w' g13 c.cells 35 ∧ BlkT w' g16 d.cells 35)) (by kernel_rfl) ?qwbhS (fun hHeld => ?qwbrest)
                    case qwbhS => exact ⟨KN.at_ (by repeat (first | exact Has.here | refine Has.there ?_)), KN.at_ (by repeat (first | exact Has.here | refine Has.there ?_))⟩
                    refine wpAnyH_take (i := 0) (oi := ⟨some 157, _, _, _, _, _⟩) (v := (.agg c.cells)) rfl (by kernel_rfl) (by kernel_rfl) (by kernel_rfl) (fun _ _ _ h => h) (kn_yieldsN (by rfl) 35 _ rfl g13 0 rfl _ 35 (fun _ h => h.1) _ (extract_whole _) _ Try.underlying35 rfl vm_size) hHeld ?qwbr0
                    (try simp only [Act.put, List.setIfInBounds_toArray, List.set_cons_zero, List.set_cons_succ])
                    refine wpAnyH_take (i := 1) (oi := ⟨some 158, _, _, _, _, _⟩) (v := (.agg d.cells)) rfl (by kernel_rfl) (by kernel_rfl) (by kernel_rfl) (fun _ _ _ h => h) (kn_yieldsN (by rfl) 35 _ rfl g16 0 rfl _ 35 (fun _ h => h.2) _ (extract_whole _) _ Try.underlying35 rfl vm_size) hHeld ?qwbr1
                    (try simp only [Act.put, List.setIfInBounds_toArray, List.set_cons_zero, List.set_cons_succ])
                    refine wpAnyH_ready (rs := [2]) (by kernel_rfl) (by simp) ?qwbc2
                    refine AllReadyH.cons (o := ⟨none, _, _, _, _, _⟩) rfl (fun K hK => ?qwbst2) AllReadyH.nil
                    (rw [if_pos (by rfl)]; refine wp_kn_storeW KN 35 _ _ rfl g9 rfl _ rfl _ _ (by repeat (first | exact Repl.here | apply Repl.there)) (by kernel_rfl) (by kernel_rfl) (by kernel_rfl) ?_; clear KN; intro wx KN)
                    refine hK.out _ _ ?qwbk2 (fun hHeld2 => ?qwbm2)
                    case qwbk2 => exact ⟨KN.at_ (by repeat (first | exact Has.here | refine Has.there ?_)), KN.at_ (by repeat (first | exact Has.here | refine Has.there ?_))⟩
                    clear hK K hHeld
                    have hHeld := hHeld2; clear hHeld2
                    (try simp only [Act.put, List.setIfInBounds_toArray, List.set_cons_zero, List.set_cons_succ])
                    refine wpAnyH_ready (rs := [3]) (by kernel_rfl) (by simp) ?qwbc3
                    refine AllReadyH.cons (o := ⟨none, _, _, _, _, _⟩) rfl (fun K hK => ?qwbst3) AllReadyH.nil
                    (rw [if_pos (by rfl)]; refine wp_kn_storeW KN 35 _ _ rfl g10 rfl _ rfl _ _ (by repeat (first | exact Repl.here | apply Repl.there)) (by kernel_rfl) (by kernel_rfl) (by kernel_rfl) ?_; clear KN; intro wx KN)
                    refine hK.out _ _ ?qwbk3 (fun hHeld2 => ?qwbm3)
                    case qwbk3 => exact ⟨KN.at_ (by repeat (first | exact Has.here | refine Has.there ?_)), KN.at_ (by repeat (first | exact Has.here | refine Has.there ?_))⟩
                    clear hK K hHeld
                    have hHeld := hHeld2; clear hHeld2
                    (try simp only [Act.put, List.setIfInBounds_toArray, List.set_cons_zero, List.set_cons_succ])
                    refine wpAnyH_done (by kernel_rfl) ?qwbdone _
                    go_wp2_with fail
                    go_roundw
                    case rel => exact ⟨k - 1, c, d, by go_num, by omega, TW2.out, (((KN.drop .here).drop .here).drop .here).drop .here⟩
                    case measure => simp [intOf]; omega
              · have hge : ¬ 0 < k ∨ (0 < k ∧ (a.state == 0) = false) := by
                  rcases Nat.eq_zero_or_pos k with h | h
                  · exact .inl (by omega)
                  · exact .inr ⟨h, by rw [beq_eq_false_iff_ne]; exact fun e => hgo ⟨h, e⟩⟩
                clear hgo
                rcases hge with hge | ⟨hk0, hge⟩
                all_goals
                  go_wp2_with (first | (go_at_call 9; refine (awake_any _).mono ?_; rintro e wx ⟨rfl, hb1⟩; replace KN := KN.below hb1; clear hb1) | ((with_reducible refine wpList_gate ?_); first | ((refine gate_load (by rfl) ?_); first | (refine wpList_kn_load1 KN (by rfl) 3 _ rfl _ _ rfl _ _ (by repeat (first | exact Has.here | refine Has.there ?_)) _ (by (repeat (first | ((with_reducible refine get_hit ?_); exact Nat.le_of_ble_eq_true (by kernel_rfl)) | ((with_reducible refine (get_miss ?_).trans ?_); (focus kernel_rfl)) | ((with_reducible refine (get_pmiss ?_).trans ?_); (focus kernel_rfl)))); all_goals (conv => lhs; whnf; arg 1; whnf)) _ Try.underlying3 rfl ?_) | (refine wpList_kn_load1 KN (by rfl) 30 _ rfl _ _ rfl _ _ (by repeat (first | exact Has.here | refine Has.there ?_)) _ (by (repeat (first | ((with_reducible refine get_hit ?_); exact Nat.le_of_ble_eq_true (by kernel_rfl)) | ((with_reducible refine (get_miss ?_).trans ?_); (focus kernel_rfl)) | ((with_reducible refine (get_pmiss ?_).trans ?_); (focus kernel_rfl)))); all_goals (conv => lhs; whnf; arg 1; whnf)) _ Try.underlying30 rfl ?_) | (refine wpList_kn_loadW KN (by rfl) 35 _ rfl _ rfl _ _ (by repeat (first | exact Has.here | refine Has.there ?_)) _ Try.underlying35 rfl (by kernel_rfl) ?_) | (refine wpList_kn_loadW KN (by rfl) 33 _ rfl _ rfl _ _ (by repeat (first | exact Has.here | refine Has.there ?_)) _ Try.underlying33 rfl (by kernel_rfl) ?_)) | ((refine gate_store (by rfl) ?_); first | (refine wpList_kn_storeW KN (by rfl) 29 _ _ rfl _ rfl _ rfl _ _ (by repeat (first | exact Repl.here | apply Repl.there)) (by kernel_rfl) (by kernel_rfl) (by kernel_rfl) ?_; clear KN; intro wx KN) | (refine wpList_kn_storeA KN (by rfl) 29 _ _ rfl _ _ rfl _ rfl _ _ (by repeat (first | exact Repl.here | apply Repl.there)) (by (try simp only [Array.size_setIfInBounds, putL_size]); first | exact Nat.le_of_ble_eq_true rfl | (simp; omega)) (by kernel_rfl) (by kernel_rfl) ?_; clear KN; intro wx KN) | (refine wpList_kn_storeW KN (by rfl) 35 _ _ rfl _ rfl _ rfl _ _ (by repeat (first | exact Repl.here | apply Repl.there)) (by kernel_rfl) (by kernel_rfl) (by kernel_rfl) ?_; clear KN; intro wx KN) | (refine wpList_kn_storeA KN (by rfl) 35 _ _ rfl _ _ rfl _ rfl _ _ (by repeat (first | exact Repl.here | apply Repl.there)) (by (try simp only [Array.size_setIfInBounds, putL_size]); first | exact Nat.le_of_ble_eq_true rfl | (simp; omega)) (by kernel_rfl) (by kernel_rfl) ?_; clear KN; intro wx KN) | (refine wpList_kn_store1 KN (by rfl) 30 _ _ rfl _ _ rfl _ (by conv => lhs; whnf) (by rfl) _ _ (by repeat (first | exact Repl.here | apply Repl.there)) (by (try simp only [Array.size_setIfInBounds, putL_size]); first | exact Nat.le_of_ble_eq_true rfl | (simp; omega)) (by kernel_rfl) (by rfl) ?_; clear KN; intro wx KN) | (refine wpList_kn_storeW KN (by rfl) 33 _ _ rfl _ rfl _ rfl _ _ (by repeat (first | exact Repl.here | apply Repl.there)) (by kernel_rfl) (by kernel_rfl) (by kernel_rfl) ?_; clear KN; intro wx KN) | (refine wpList_kn_storeA KN (by rfl) 33 _ _ rfl _ _ rfl _ rfl _ _ (by repeat (first | exact Repl.here | apply Repl.there)) (by (try simp only [Array.size_setIfInBounds, putL_size]); first | exact Nat.le_of_ble_eq_true rfl | (simp; omega)) (by kernel_rfl) (by kernel_rfl) ?_; clear KN; intro wx KN)) | ((refine gate_new (by rfl) ?_); first | (refine wpList_kn_alloc KN (by rfl) 35 rfl 9 rfl Vm.zero.cells (by kernel_rfl) ?_; clear KN; intro g9 wx hg9 KN) | (refine wpList_kn_alloc KN (by rfl) 35 rfl 10 rfl Vm.zero.cells (by kernel_rfl) ?_; clear KN; intro g10 wx hg10 KN) | (refine wpList_kn_alloc KN (by rfl) 35 rfl 13 rfl Vm.zero.cells (by kernel_rfl) ?_; clear KN; intro g13 wx hg13 KN) | (refine wpList_kn_alloc KN (by rfl) 33 rfl 14 rfl Eff.none.cells (by kernel_rfl) ?_; clear KN; intro g14 wx hg14 KN) | (refine wpList_kn_alloc KN (by rfl) 35 rfl 16 rfl Vm.zero.cells (by kernel_rfl) ?_; clear KN; intro g16 wx hg16 KN) | (refine wpList_kn_alloc KN (by rfl) 33 rfl 17 rfl Eff.none.cells (by kernel_rfl) ?_; clear KN; intro g17 wx hg17 KN))))
                  go_ret
                  exact ⟨rfl, KN.toBelow⟩
theorem vmWidths_any (vb vr : Value) (ys xs : List Int) (n : Int) (w : World) (hy : Ints w vb ys) (hx : U64s w vr xs) (n0 : -9223372036854775808 ≤ n) (n1 : n ≤ 9223372036854775807) :
    Calls Try.prog 3 #[vb, vr, .int .i64 n] w fun e w' => e = .returned (.bool true) ∧ Below w.heap.size w w' := by
  by_cases h : ys.length ≤ 200 ∧ xs.length ≤ 20
  · exact widths_near vb vr ys xs n w hy hx h.1 h.2 n0 n1
  · exact widths_far vb vr ys xs n w hy hx (by omega)
end
end Go.Proofs.Ytbllialcfmpkaaa
