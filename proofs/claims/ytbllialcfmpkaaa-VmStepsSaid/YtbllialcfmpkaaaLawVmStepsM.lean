/- VmSteps, with what it needs beside. -/
import Derived.Test.YtbllialcfmpkaaaNextK
import Derived.Test.YtbllialcfmpkaaaMachK
import Derived.Test.YtbllialcfmpkaaaAwakeVm
import Derived.Test.YtbllialcfmpkaaaKn2
import Derived.Laws.Slices
import Derived.Test.YtbllialcfmpkaaaFinish
import Derived.Test.YtbllialcfmpkaaaProgK
import Derived.Test.YtbllialcfmpkaaaStepRAll
import Derived.Deep.Cut
import Derived.Deep.DeepCutAuto
set_option linter.unusedVariables false
set_option linter.unusedSimpArgs false
set_option linter.unusedSectionVars false
namespace Go.Proofs.Ytbllialcfmpkaaa
section
open Go Go.RowKit
theorem Ints.form {w : World} {v : Value} {zs : List Int} (h : Ints w v zs) : ∃ a c, v = .slice a zs.length c ∧ zs.length ≤ maxLen := by
  have hm := h.1.1
  simp only [List.length_map] at hm
  rcases h.1.2 with ⟨hL, a, c, rfl⟩ | ⟨g, off, cap, rfl, _⟩
  · have : zs = [] := by simpa using hL
    subst this
    exact ⟨a, c, rfl, by simp⟩
  · exact ⟨_, cap, by rw [List.length_map], hm⟩
theorem ent_app (x : Nat × (Obj → Prop)) (l : Ents) : [x] ++ l = x :: l := rfl
end
section
open Go.RowKit
structure RunFacts (p : List Ins) (v : Vm) (N K : Nat) (a : Vm) (x : Nat) (e : Eff) (c : Vm) (y : Nat) (f : Eff) : Prop where
  r1 : runRes v p N = (a, x, e, 0)
  r2 : runRes v p (N + K : Nat) = (c, y, f, 0)
  x1 : 1 ≤ x
  xN : x ≤ N
  yN : y ≤ N + K
  xy : x ≤ y
  st : (stAt p v x).1 = a
  ef : (stAt p v x).2 = e
  mid : ∀ k, 1 ≤ k → k < x → (stAt p v k).2.kind = 0
theorem runF_kind0 (p : List Ins) {n : Nat} (a : Vm) {e e' : Eff} (h : e.kind = 0) (h' : e'.kind = 0) (hn : 1 ≤ n) : runF p n (a, e) = runF p n (a, e') := by
  obtain ⟨m, rfl⟩ : ∃ m, n = m + 1 := ⟨n - 1, by omega⟩
  rw [runF_go (s := (a, e)) h, runF_go (s := (a, e')) h']
theorem checkE_run {v : Vm} {p : List Ins} (h : VG v) (hs : v.state = 0) (hp : progErr p = 0) {N : Nat} (h0 : 1 ≤ N) (h1 : N ≤ 1000000) : checkE v p (betw N) = 0 := by
  have : betw N = 0 := by unfold betw; rw [if_neg (by omega)]
  rw [this]; exact h.check hs hp
theorem run_facts {p : List Ins} {v : Vm} (h : VG v) (hs : v.state = 0) (hp : progErr p = 0) (hf : ∀ x ∈ p, x.fits) {N K : Nat} (n0 : 1 ≤ N) (n1 : N ≤ 40) (k0 : 1 ≤ K) (k1 : K ≤ 40) :
    ∃ a x e c y f, RunFacts p v N K a x e c y f ∧ ((¬ e.kind = 0 ∧ c = a ∧ y = x ∧ f = e) ∨ (e.kind = 0 ∧ x = N ∧ VG a ∧ ∃ z, runRes a p K = (c, z, f, 0) ∧ y = N + z ∧ z ≤ K)) := by
  have gp := progErr_good hp hf
  have e1 := runRes_ok (checkE_run h hs hp n0 (by omega))
  have e2 := runRes_ok (checkE_run h hs hp (N := N + K) (by omega) (by omega))
  rw [Int.toNat_natCast] at e1 e2
  obtain ⟨q1, q2, q3, q4⟩ := runF_stAt p N v Eff.none rfl n0
  have q5 := runF_count p N (v, Eff.none)
  have q6 := runF_count p (N + K) (v, Eff.none)
  by_cases hk : (runF p N (v, Eff.none)).2.2.kind = 0
  · obtain ⟨s1, s2⟩ := runF_add p N K (v, Eff.none) hk
    obtain ⟨va, sa⟩ := h.runAt hs gp N (fun j j1 j2 => by
      by_cases hj : j = N
      · subst hj; rw [← s2, ← q2]; exact hk
      · exact q4 j j1 (by rw [s2]; omega))
    have va' : VG (runF p N (v, Eff.none)).1 := by rw [q1, s2]; exact va
    have sa' : (runF p N (v, Eff.none)).1.state = 0 := by rw [q1, s2]; exact sa
    have e3 := runRes_ok (checkE_run va' sa' hp k0 (by omega : K ≤ 1000000))
    rw [Int.toNat_natCast, runF_kind0 p _ (show Eff.none.kind = 0 from rfl) hk k0] at e3
    have q7 := runF_count p K ((runF p N (v, Eff.none)).1, (runF p N (v, Eff.none)).2.2)
    refine ⟨_, _, _, _, _, _, ⟨e1, e2, q3, q5, q6, ?_, q1.symm, q2.symm, q4⟩, .inr ⟨hk, s2, va', _, ?_, ?_, q7⟩⟩
    · rw [s1, s2]; exact Nat.le_add_right _ _
    · rw [e3, s1]
    · rw [s1]
  · have s1 := runF_end p N K (v, Eff.none) hk
    refine ⟨_, _, _, _, _, _, ⟨e1, e2, q3, q5, q6, ?_, q1.symm, q2.symm, q4⟩, .inl ⟨hk, by rw [s1], by rw [s1], by rw [s1]⟩⟩
    rw [s1]; exact Nat.le_refl _
theorem RunFacts.vg {p : List Ins} {v : Vm} {N K : Nat} {a : Vm} {x : Nat} {e : Eff} {c : Vm} {y : Nat} {f : Eff} (F : RunFacts p v N K a x e c y f) (h : VG v) (hs : v.state = 0) (hp : Good p) {s : Nat} (hl : s < x) :
    VG (stAt p v s).1 ∧ (stAt p v s).1.state = 0 := h.runAt hs hp s (fun j j1 j2 => F.mid j j1 (by omega))
theorem Instrs.of_kn {M : List Nat} {W w : World} {l : Ents} (KN : Kn M W w l) {g cap : Nat} {p : List Ins} (m : Has l g (CapAt 29 5 cap (p.map fun x => x.cells.toList))) (h1 : p.length ≤ cap) (h2 : cap ≤ maxLen) (hf : ∀ x ∈ p, x.fits) :
    Instrs w (.slice (some ⟨g, 0, none⟩) p.length cap) p := by
  refine ⟨?_, hf⟩
  have hl : ∀ c ∈ p.map (fun x => x.cells.toList), c.length = 5 := by intro c hc; obtain ⟨x, _, rfl⟩ := List.mem_map.1 hc; rfl
  have := OwnT.blk (e := 29) (sz := 5) (g := g) (cap := cap) (L := p.map fun x => x.cells.toList) (by simpa using h1) h2 hl
  have hr := this.row (f := fun o => o) (M := M) (W := W) (w := w) (KN.onlyK m) .id
  simpa using hr
theorem stepRes_at {p : List Ins} {v : Vm} {s : Nat} (h : VG (stAt p v s).1) (hs : (stAt p v s).1.state = 0) (hp : progErr p = 0) : stepRes (stAt p v s).1 p = ((stAt p v (s + 1)).1, (stAt p v (s + 1)).2, 0) :=
  stepRes_ok (h.check hs hp)
end
section
open Go Go.RowKit
section
variable {P : Program} {ops : Array Oper} {op : Oper} {a : Act} {S : World → Prop}
theorem kn_yields_slice (hw : Region.wanted op (yielded ops a.tmps) = true) (t : TypeId) (x lo hi : Operand) (ho : op.op = .slice t x (some lo) (some hi) none) (ad : Option Addr) (len cap : Nat) (hx : a.eval x = .slice ad len cap)
    (kl kh : IntKind) (l h : Int) (hl : a.eval lo = .int kl l) (hh : a.eval hi = .int kh h) (ht : P.underlying t = some (.slice (P.elem t))) (s : Nat) (hs : ∀ w, (sizeOf (P.elem t)).run P w = .ok s w)
    (k m : Nat) (hk : l = k) (hm : h = m) (h1 : k ≤ m) (h2 : m ≤ cap) (v : Value) (hv : v = sliced ad k m cap s) : YieldsIf P ops S op v a :=
  .inl ⟨hw, fun w _ => by
    subst hk hm hv
    unfold execOp
    simp only [ho, hx, Option.map_some, Option.map_none, hl, hh]
    rw [Sem.run_bind, run_sliceAt_slice w t _ _ _ _ ht, run_slice_lh w t ad len cap ht kl kh k m (by omega) (by omega) (by omega), hs w]
    rfl⟩
end
theorem Row.sub {w : World} {ad : Option Addr} {n cap sz : Nat} {L : List (List Value)} (h : Row w (.slice ad n cap) sz L) (k m : Nat) (h1 : k ≤ m) (h2 : m ≤ L.length) : Row w (sliced ad k m cap sz) sz ((L.drop k).take (m - k)) := by
  have hlen : ((L.drop k).take (m - k)).length = m - k := by rw [List.length_take, List.length_drop]; omega
  refine ⟨by rw [hlen]; have := h.1; omega, ?_⟩
  rcases h.2 with ⟨hL, a, c, he⟩ | ⟨g, off, cap', he, h0, hc, hm, hg, hcell⟩
  · refine .inl ⟨by rw [hL]; simp, if cap = k then ad else ad.map (·.add (k * sz)), cap - k, ?_⟩
    unfold sliced
    have : m - k = 0 := by rw [hL] at h2; simp at h2; omega
    rw [this]
  · simp only [Value.slice.injEq] at he
    obtain ⟨rfl, hn, rfl⟩ := he
    subst hn
    by_cases hz : m = k
    · subst hz
      refine .inl ⟨by simp, if cap = m then some ⟨g, off, none⟩ else (some (⟨g, off, none⟩ : Addr)).map (·.add (m * sz)), cap - m, ?_⟩
      unfold sliced
      rw [Nat.sub_self]
    · refine .inr ⟨g, off + k * sz, cap - k, ?_, by rw [hlen]; omega, by rw [hlen]; omega, by omega, hg, fun i c j x hi hj => ?_⟩
      · unfold sliced
        rw [if_neg (by omega), hlen]
        simp only [Option.map_some, Value.slice.injEq, Option.some.injEq, and_true]
        unfold Addr.add
        split <;> simp_all
      · have hi' : L[k + i]? = some c := by
          rw [List.getElem?_take] at hi
          split at hi
          · rwa [List.getElem?_drop] at hi
          · cases hi
        have := hcell (k + i) c j x hi' hj
        rwa [show off + (k + i) * sz + j = off + k * sz + i * sz + j from by rw [Nat.add_mul]; omega] at this
end
section
open Go.RowKit
set_option maxRecDepth 100000 in
set_option maxHeartbeats 1000000 in
theorem RFinish_no (v : Vm) (va : Value) (xs : List Int) (w : World) (ht : v.typed) (hx : U64s w va xs) (h : ¬ v.waitErr = 0) :
    Calls Try.prog 22 #[.agg v.cells, va] w fun e w' => e = .returned (pairVal (Vm.zero, v.waitErr)) ∧ Below w.heap.size w w' := by
  have KN := Kn.start w
  obtain ⟨a, c, rfl, -⟩ := hx.form
  rcases v.waitErr_cases with ⟨h0, he⟩ | ⟨h0, h1, he⟩ | ⟨h0, h1, he⟩
  case inr.inl => exact absurd he h
  case' inr.inr => have hb : (v.state != 1) = true := by rw [bne_iff_ne]; exact h1
  case' inr.inr => clear h1
  all_goals
    rw [he]
    have H0 := Lib.hid h0
    clear h0 he h hx
    go_enter Try.func22, Try.ntmps22
    go_wp2_with (first | (go_at_call 25; refine (RValid_any v _ ht).mono ?_; rintro e w1 ⟨rfl, hb1⟩; replace KN := KN.below hb1; clear hb1; rw [H0.out]) | ((with_reducible refine wpList_gate ?_); first | ((refine gate_load (by rfl) ?_); first | (refine wpList_kn_loadW KN (by rfl) 35 _ rfl _ rfl _ _ (by repeat (first | exact Has.here | refine Has.there ?_)) _ Try.underlying35 rfl (by kernel_rfl) ?_) | (refine wpList_kn_load1 KN (by rfl) 3 _ rfl _ _ rfl _ _ (by repeat (first | exact Has.here | refine Has.there ?_)) _ (by (repeat (first | ((with_reducible refine get_hit ?_); exact Nat.le_of_ble_eq_true (by kernel_rfl)) | ((with_reducible refine (get_miss ?_).trans ?_); (focus kernel_rfl)) | ((with_reducible refine (get_pmiss ?_).trans ?_); (focus kernel_rfl)))); all_goals (conv => lhs; whnf; arg 1; whnf)) _ Try.underlying3 rfl ?_) | (refine wpList_kn_load1 KN (by rfl) 30 _ rfl _ _ rfl _ _ (by repeat (first | exact Has.here | refine Has.there ?_)) _ (by (repeat (first | ((with_reducible refine get_hit ?_); exact Nat.le_of_ble_eq_true (by kernel_rfl)) | ((with_reducible refine (get_miss ?_).trans ?_); (focus kernel_rfl)) | ((with_reducible refine (get_pmiss ?_).trans ?_); (focus kernel_rfl)))); all_goals (conv => lhs; whnf; arg 1; whnf)) _ Try.underlying30 rfl ?_)) | ((refine gate_store (by rfl) ?_); first | (refine wpList_kn_storeW KN (by rfl) 35 _ _ rfl _ rfl _ rfl _ _ (by repeat (first | exact Repl.here | apply Repl.there)) (by kernel_rfl) (by kernel_rfl) (by kernel_rfl) ?_; clear KN; intro wx KN) | (refine wpList_kn_storeA KN (by rfl) 35 _ _ rfl _ _ rfl _ rfl _ _ (by repeat (first | exact Repl.here | apply Repl.there)) (by (try simp only [Array.size_setIfInBounds, putL_size]); first | exact Nat.le_of_ble_eq_true rfl | (simp; omega)) (by kernel_rfl) (by kernel_rfl) ?_; clear KN; intro wx KN) | (refine wpList_kn_store1 KN (by rfl) 30 _ _ rfl _ _ rfl _ (by conv => lhs; whnf) (by rfl) _ _ (by repeat (first | exact Repl.here | apply Repl.there)) (by (try simp only [Array.size_setIfInBounds, putL_size]); first | exact Nat.le_of_ble_eq_true rfl | (simp; omega)) (by kernel_rfl) (by rfl) ?_; clear KN; intro wx KN) | (refine wpList_kn_store1 KN (by rfl) 3 _ _ rfl _ _ rfl _ (by conv => lhs; whnf) (by rfl) _ _ (by repeat (first | exact Repl.here | apply Repl.there)) (by (try simp only [Array.size_setIfInBounds, putL_size]); first | exact Nat.le_of_ble_eq_true rfl | (simp; omega)) (by kernel_rfl) (by rfl) ?_; clear KN; intro wx KN) | (refine wpList_kn_storeW KN (by rfl) 33 _ _ rfl _ rfl _ rfl _ _ (by repeat (first | exact Repl.here | apply Repl.there)) (by kernel_rfl) (by kernel_rfl) (by kernel_rfl) ?_; clear KN; intro wx KN) | (refine wpList_kn_storeA KN (by rfl) 33 _ _ rfl _ _ rfl _ rfl _ _ (by repeat (first | exact Repl.here | apply Repl.there)) (by (try simp only [Array.size_setIfInBounds, putL_size]); first | exact Nat.le_of_ble_eq_true rfl | (simp; omega)) (by kernel_rfl) (by kernel_rfl) ?_; clear KN; intro wx KN)) | ((refine gate_new (by rfl) ?_); first | (refine wpList_kn_boxA KN (by rfl) 35 _ rfl 2 rfl _ rfl ?_; clear KN; intro g2 wx hg2 KN) | (refine wpList_kn_alloc KN (by rfl) 35 rfl 4 rfl Vm.zero.cells (by kernel_rfl) ?_; clear KN; intro g4 wx hg4 KN) | (refine wpList_built rfl 35 #[] rfl Vm.zero.cells (by kernel_rfl) ?_) | (refine wpList_built rfl 33 #[] rfl Eff.none.cells (by kernel_rfl) ?_))))
    exact bodyPost_ret (results_ct Try.results22 _ _ _ Vm.zero.cells _ rfl (load_vm (KN.at_ (by repeat (first | exact Has.here | refine Has.there ?_)))) rfl) rfl ⟨rfl, KN.toBelow⟩
set_option maxRecDepth 100000 in
set_option maxHeartbeats 2000000 in
theorem RFinish_bad (wd pc st ca : Int) (regs : List Int) (kd nm ad vl : Int) (R : Nat) (va : Value) (xs : List Int) (w : World) (hk : kd = 1 ∨ kd = 2 ∨ kd = 3) (ht : Vm.typed ⟨wd, pc, st, ca, regs, ⟨kd, R, nm, ad, vl⟩⟩) (hx : U64s w va xs) (h : Vm.waitErr ⟨wd, pc, st, ca, regs, ⟨kd, R, nm, ad, vl⟩⟩ = 0) (hn : finOk kd xs.length = false) :
    Calls Try.prog 22 #[.agg (Vm.mk wd pc st ca regs ⟨kd, R, nm, ad, vl⟩).cells, va] w fun e w' => e = .returned (pairVal (Vm.zero, 1)) ∧ Below w.heap.size w w' := by
  have KN := Kn.start w
  obtain ⟨a, c, rfl, hxl, -⟩ := hx.form
  obtain ⟨v, hv⟩ : ∃ v : Vm, v = ⟨wd, pc, st, ca, regs, ⟨kd, R, nm, ad, vl⟩⟩ := ⟨_, rfl⟩
  rw [← hv] at ht h ⊢
  have hs := (Vm.wait_ok h).2
  have hsb : (v.state != 1) = false := by rw [bne_eq_false_iff_eq]; exact hs
  have HOK := Lib.hid (Vm.wait_ok h).1
  have hg20 : v.cells[20]? = some (.int .i64 kd) := by rw [hv]; rfl
  have G20 := Lib.hid hg20
  have HT := Lib.hid ht
  clear hx h hg20 hv ht hs
  unfold maxLen at hxl
  obtain ⟨n, hnn⟩ : ∃ n, n = xs.length := ⟨_, rfl⟩
  rw [← hnn] at hn hxl ⊢
  clear hnn
  rcases hk with rfl | rfl | rfl
  case' inl => have hne : ((n : Int) != 1) = true := by simp [finOk] at hn; rw [bne_iff_ne]; omega
  case' inr.inl => have hne : ((n : Int) != 0) = true := by simp [finOk] at hn; rw [bne_iff_ne]; omega
  case' inr.inr => have hne : 5 ≤ n := by simp [finOk] at hn; omega
  all_goals
    clear hn
    go_enter Try.func22, Try.ntmps22
    go_wp2_with (first | (go_at_call 25; refine (RValid_any v _ HT.out).mono ?_; rintro e w1 ⟨rfl, hb1⟩; replace KN := KN.below hb1; clear hb1; rw [HOK.out]) | ((with_reducible refine wpList_gate ?_); first | ((refine gate_load (by rfl) ?_); first | (refine wpList_kn_load1 KN (by rfl) 3 (.tmp 19) rfl g2 20 rfl _ _ (by repeat (first | exact Has.here | refine Has.there ?_)) _ G20.out _ Try.underlying3 rfl ?_) | (refine wpList_kn_loadW KN (by rfl) 35 _ rfl _ rfl _ _ (by repeat (first | exact Has.here | refine Has.there ?_)) _ Try.underlying35 rfl (by kernel_rfl) ?_) | (refine wpList_kn_load1 KN (by rfl) 3 _ rfl _ _ rfl _ _ (by repeat (first | exact Has.here | refine Has.there ?_)) _ (by (repeat (first | ((with_reducible refine get_hit ?_); exact Nat.le_of_ble_eq_true (by kernel_rfl)) | ((with_reducible refine (get_miss ?_).trans ?_); (focus kernel_rfl)) | ((with_reducible refine (get_pmiss ?_).trans ?_); (focus kernel_rfl)))); all_goals (conv => lhs; whnf; arg 1; whnf)) _ Try.underlying3 rfl ?_) | (refine wpList_kn_load1 KN (by rfl) 30 _ rfl _ _ rfl _ _ (by repeat (first | exact Has.here | refine Has.there ?_)) _ (by (repeat (first | ((with_reducible refine get_hit ?_); exact Nat.le_of_ble_eq_true (by kernel_rfl)) | ((with_reducible refine (get_miss ?_).trans ?_); (focus kernel_rfl)) | ((with_reducible refine (get_pmiss ?_).trans ?_); (focus kernel_rfl)))); all_goals (conv => lhs; whnf; arg 1; whnf)) _ Try.underlying30 rfl ?_)) | ((refine gate_store (by rfl) ?_); first | (refine wpList_kn_storeW KN (by rfl) 35 _ _ rfl _ rfl _ rfl _ _ (by repeat (first | exact Repl.here | apply Repl.there)) (by kernel_rfl) (by kernel_rfl) (by kernel_rfl) ?_; clear KN; intro wx KN) | (refine wpList_kn_storeA KN (by rfl) 35 _ _ rfl _ _ rfl _ rfl _ _ (by repeat (first | exact Repl.here | apply Repl.there)) (by (try simp only [Array.size_setIfInBounds, putL_size]); first | exact Nat.le_of_ble_eq_true rfl | (simp; omega)) (by kernel_rfl) (by kernel_rfl) ?_; clear KN; intro wx KN) | (refine wpList_kn_store1 KN (by rfl) 30 _ _ rfl _ _ rfl _ (by conv => lhs; whnf) (by rfl) _ _ (by repeat (first | exact Repl.here | apply Repl.there)) (by (try simp only [Array.size_setIfInBounds, putL_size]); first | exact Nat.le_of_ble_eq_true rfl | (simp; omega)) (by kernel_rfl) (by rfl) ?_; clear KN; intro wx KN) | (refine wpList_kn_store1 KN (by rfl) 3 _ _ rfl _ _ rfl _ (by conv => lhs; whnf) (by rfl) _ _ (by repeat (first | exact Repl.here | apply Repl.there)) (by (try simp only [Array.size_setIfInBounds, putL_size]); first | exact Nat.le_of_ble_eq_true rfl | (simp; omega)) (by kernel_rfl) (by rfl) ?_; clear KN; intro wx KN) | (refine wpList_kn_storeW KN (by rfl) 33 _ _ rfl _ rfl _ rfl _ _ (by repeat (first | exact Repl.here | apply Repl.there)) (by kernel_rfl) (by kernel_rfl) (by kernel_rfl) ?_; clear KN; intro wx KN) | (refine wpList_kn_storeA KN (by rfl) 33 _ _ rfl _ _ rfl _ rfl _ _ (by repeat (first | exact Repl.here | apply Repl.there)) (by (try simp only [Array.size_setIfInBounds, putL_size]); first | exact Nat.le_of_ble_eq_true rfl | (simp; omega)) (by kernel_rfl) (by kernel_rfl) ?_; clear KN; intro wx KN)) | ((refine gate_new (by rfl) ?_); first | (refine wpList_kn_boxA KN (by rfl) 35 _ rfl 2 rfl _ rfl ?_; clear KN; intro g2 wx hg2 KN) | (refine wpList_kn_alloc KN (by rfl) 35 rfl 4 rfl Vm.zero.cells (by kernel_rfl) ?_; clear KN; intro g4 wx hg4 KN) | (refine wpList_built rfl 35 #[] rfl Vm.zero.cells (by kernel_rfl) ?_) | (refine wpList_built rfl 33 #[] rfl Eff.none.cells (by kernel_rfl) ?_))))
    exact bodyPost_ret (results_ct Try.results22 _ _ _ Vm.zero.cells _ rfl (load_vm (KN.at_ (by repeat (first | exact Has.here | refine Has.there ?_)))) rfl) rfl ⟨rfl, KN.toBelow⟩
/-- What is so at each round's head. -/
def FRelR (v : Vm) (xs : List Int) (g2 g4 : Nat) (W : World) (cn : Value) (wr : World) : Prop :=
  ∃ (k : Nat), k ≤ xs.length ∧ cn = .int .i64 k ∧ Kn [] W wr [(g4, At Vm.zero.cells 35), (g2, At (v.setRs 0 (xs.take k)).cells 35)]
set_option maxRecDepth 100000 in
set_option maxHeartbeats 2000000 in
theorem RFinish_3 (wd pc st ca : Int) (regs : List Int) (nm ad vl : Int) (va : Value) (xs : List Int) (w : World) (ht : Vm.typed ⟨wd, pc, st, ca, regs, ⟨3, 0, nm, ad, vl⟩⟩) (hx : U64s w va xs) (h : Vm.waitErr ⟨wd, pc, st, ca, regs, ⟨3, 0, nm, ad, vl⟩⟩ = 0) (hr : xs.length ≤ 4) :
    Calls Try.prog 22 #[.agg (Vm.mk wd pc st ca regs ⟨3, 0, nm, ad, vl⟩).cells, va] w fun e w' => e = .returned (pairVal (finV ⟨wd, pc, st, ca, regs, ⟨3, 0, nm, ad, vl⟩⟩ xs, 0)) ∧ Below w.heap.size w w' := by
  have KN := Kn.start w
  obtain ⟨a, c, rfl, hxl, hxc⟩ := hx.form
  have HC := Lib.hid hxc
  have HX := Lib.hid hx
  obtain ⟨v, hv⟩ : ∃ v : Vm, v = ⟨wd, pc, st, ca, regs, ⟨3, 0, nm, ad, vl⟩⟩ := ⟨_, rfl⟩
  rw [← hv] at ht h ⊢
  have hs := (Vm.wait_ok h).2
  have hsb : (v.state != 1) = false := by rw [bne_eq_false_iff_eq]; exact hs
  have HOK := Lib.hid (Vm.wait_ok h).1
  have FT := Lib.hid (Vm.ok_fits (Vm.wait_ok h).1 ht)
  have hreg : v.wait.reg = 0 := by rw [hv]
  have hg20 : v.cells[20]? = some (.int .i64 3) := by rw [hv]; rfl
  have G20 := Lib.hid hg20
  have HREG := Lib.hid hreg
  have HT := Lib.hid ht
  clear hx hxc h hreg hg20 hv ht hs
  unfold maxLen at hxl
  obtain ⟨n, hnn⟩ : ∃ n, n = xs.length := ⟨_, rfl⟩
  rw [← hnn] at hr hxl ⊢
  have HN := Lib.hid hnn
  clear hnn
  go_enter Try.func22, Try.ntmps22
  go_wp2_with (first | (go_at_call 25; refine (RValid_any v _ HT.out).mono ?_; rintro e w1 ⟨rfl, hb1⟩; replace KN := KN.below hb1; clear hb1; rw [HOK.out]) | ((with_reducible refine wpList_gate ?_); first | ((refine gate_load (by rfl) ?_); first | (refine wpList_kn_load1 KN (by rfl) 3 (.tmp 19) rfl g2 20 rfl _ _ (by repeat (first | exact Has.here | refine Has.there ?_)) _ G20.out _ Try.underlying3 rfl ?_) | (refine wpList_kn_loadW KN (by rfl) 35 _ rfl _ rfl _ _ (by repeat (first | exact Has.here | refine Has.there ?_)) _ Try.underlying35 rfl (by kernel_rfl) ?_) | (refine wpList_kn_load1 KN (by rfl) 3 _ rfl _ _ rfl _ _ (by repeat (first | exact Has.here | refine Has.there ?_)) _ (by (repeat (first | ((with_reducible refine get_hit ?_); exact Nat.le_of_ble_eq_true (by kernel_rfl)) | ((with_reducible refine (get_miss ?_).trans ?_); (focus kernel_rfl)) | ((with_reducible refine (get_pmiss ?_).trans ?_); (focus kernel_rfl)))); all_goals (conv => lhs; whnf; arg 1; whnf)) _ Try.underlying3 rfl ?_) | (refine wpList_kn_load1 KN (by rfl) 30 _ rfl _ _ rfl _ _ (by repeat (first | exact Has.here | refine Has.there ?_)) _ (by (repeat (first | ((with_reducible refine get_hit ?_); exact Nat.le_of_ble_eq_true (by kernel_rfl)) | ((with_reducible refine (get_miss ?_).trans ?_); (focus kernel_rfl)) | ((with_reducible refine (get_pmiss ?_).trans ?_); (focus kernel_rfl)))); all_goals (conv => lhs; whnf; arg 1; whnf)) _ Try.underlying30 rfl ?_)) | ((refine gate_store (by rfl) ?_); first | (refine wpList_kn_storeW KN (by rfl) 35 _ _ rfl _ rfl _ rfl _ _ (by repeat (first | exact Repl.here | apply Repl.there)) (by kernel_rfl) (by kernel_rfl) (by kernel_rfl) ?_; clear KN; intro wx KN) | (refine wpList_kn_storeA KN (by rfl) 35 _ _ rfl _ _ rfl _ rfl _ _ (by repeat (first | exact Repl.here | apply Repl.there)) (by (try simp only [Array.size_setIfInBounds, putL_size]); first | exact Nat.le_of_ble_eq_true rfl | (simp; omega)) (by kernel_rfl) (by kernel_rfl) ?_; clear KN; intro wx KN) | (refine wpList_kn_store1 KN (by rfl) 30 _ _ rfl _ _ rfl _ (by conv => lhs; whnf) (by rfl) _ _ (by repeat (first | exact Repl.here | apply Repl.there)) (by (try simp only [Array.size_setIfInBounds, putL_size]); first | exact Nat.le_of_ble_eq_true rfl | (simp; omega)) (by kernel_rfl) (by rfl) ?_; clear KN; intro wx KN) | (refine wpList_kn_store1 KN (by rfl) 3 _ _ rfl _ _ rfl _ (by conv => lhs; whnf) (by rfl) _ _ (by repeat (first | exact Repl.here | apply Repl.there)) (by (try simp only [Array.size_setIfInBounds, putL_size]); first | exact Nat.le_of_ble_eq_true rfl | (simp; omega)) (by kernel_rfl) (by rfl) ?_; clear KN; intro wx KN) | (refine wpList_kn_storeW KN (by rfl) 33 _ _ rfl _ rfl _ rfl _ _ (by repeat (first | exact Repl.here | apply Repl.there)) (by kernel_rfl) (by kernel_rfl) (by kernel_rfl) ?_; clear KN; intro wx KN) | (refine wpList_kn_storeA KN (by rfl) 33 _ _ rfl _ _ rfl _ rfl _ _ (by repeat (first | exact Repl.here | apply Repl.there)) (by (try simp only [Array.size_setIfInBounds, putL_size]); first | exact Nat.le_of_ble_eq_true rfl | (simp; omega)) (by kernel_rfl) (by kernel_rfl) ?_; clear KN; intro wx KN)) | ((refine gate_new (by rfl) ?_); first | (refine wpList_kn_boxA KN (by rfl) 35 _ rfl 2 rfl _ rfl ?_; clear KN; intro g2 wx hg2 KN) | (refine wpList_kn_alloc KN (by rfl) 35 rfl 4 rfl Vm.zero.cells (by kernel_rfl) ?_; clear KN; intro g4 wx hg4 KN) | (refine wpList_built rfl 35 #[] rfl Vm.zero.cells (by kernel_rfl) ?_) | (refine wpList_built rfl 33 #[] rfl Eff.none.cells (by kernel_rfl) ?_))))
  have HREL : Hid (FRelR v xs g2 g4 w (.int .i64 0) w1) := Lib.hid ⟨0, Nat.zero_le _, rfl, KN⟩
  clear KN
  go_loopw [7] (fun cn wr => FRelR v xs g2 g4 w cn wr) (fun cn _ => n - (intOf cn).toNat)
  case atStart => exact HREL.out
  case round =>
    obtain ⟨k, hk, rfl, KN⟩ := hrel
    rw [← HN.out] at hk
    by_cases hlt : k < n
    · obtain ⟨x, hxk⟩ : ∃ x, xs[k]? = some x := ⟨_, List.getElem?_eq_getElem (by rw [← HN.out]; exact hlt)⟩
      obtain ⟨gv, ov, rfl, hgv, hlc, hcm, hcell⟩ := HC.out k x hxk
      unfold maxLen at hcm
      have hxm := HX.out.2 x (List.mem_of_getElem? hxk)
      have hxm0 := hxm.1
      have hxm1 := hxm.2
      have hts : (xs.take (k + 1)) = xs.take k ++ [x] := by rw [List.take_add_one, hxk]; rfl
      have hln : (xs.take k).length = k := by rw [List.length_take, ← HN.out]; omega
      obtain ⟨u, hu⟩ : ∃ u, u = v.setRs 0 (xs.take k) := ⟨_, rfl⟩
      rw [← hu] at KN
      have FU := Lib.hid (show u.fits by rw [hu]; exact Vm.setRs_fits _ _ _ FT.out (by omega))
      have hnext : v.setRs 0 (xs.take (k + 1)) = u.setR k (x % pw2 u.width) := by
        rw [hts, Vm.setRs_snoc, hln, ← hu, hu, (Vm.setRs_parts _ _ _).1, Nat.zero_add]
      have HNX := Lib.hid hnext
      have HU := Lib.hid hu
      have HXK := Lib.hid hxk
      have HCELL := Lib.hid hcell
      have MK := Lib.hid (any_mask x u.width FU.out.wide hxm0 hxm1)
      have hk16 : k < 16 := by omega
      clear hxm hts hln hu hnext hxk hcell
      go_wp2_with (first | ((with_reducible refine wpList_gate ?_); first | ((refine gate_load (by rfl) ?_); first | (refine wpList_kn_loadW KN (by rfl) 35 _ rfl _ rfl _ _ (by repeat (first | exact Has.here | refine Has.there ?_)) _ Try.underlying35 rfl (by kernel_rfl) ?_) | (refine wpList_kn_load1 KN (by rfl) 3 _ rfl _ _ rfl _ _ (by repeat (first | exact Has.here | refine Has.there ?_)) _ (by (repeat (first | ((with_reducible refine get_hit ?_); exact Nat.le_of_ble_eq_true (by kernel_rfl)) | ((with_reducible refine (get_miss ?_).trans ?_); (focus kernel_rfl)) | ((with_reducible refine (get_pmiss ?_).trans ?_); (focus kernel_rfl)))); all_goals (conv => lhs; whnf; arg 1; whnf)) _ Try.underlying3 rfl ?_) | (refine wpList_kn_load1 KN (by rfl) 30 _ rfl _ _ rfl _ _ (by repeat (first | exact Has.here | refine Has.there ?_)) _ (by (repeat (first | ((with_reducible refine get_hit ?_); exact Nat.le_of_ble_eq_true (by kernel_rfl)) | ((with_reducible refine (get_miss ?_).trans ?_); (focus kernel_rfl)) | ((with_reducible refine (get_pmiss ?_).trans ?_); (focus kernel_rfl)))); all_goals (conv => lhs; whnf; arg 1; whnf)) _ Try.underlying30 rfl ?_)) | ((refine gate_store (by rfl) ?_); first | (refine wpList_kn_storeW KN (by rfl) 35 _ _ rfl _ rfl _ rfl _ _ (by repeat (first | exact Repl.here | apply Repl.there)) (by kernel_rfl) (by kernel_rfl) (by kernel_rfl) ?_; clear KN; intro wx KN) | (refine wpList_kn_storeA KN (by rfl) 35 _ _ rfl _ _ rfl _ rfl _ _ (by repeat (first | exact Repl.here | apply Repl.there)) (by (try simp only [Array.size_setIfInBounds, putL_size]); first | exact Nat.le_of_ble_eq_true rfl | (simp; omega)) (by kernel_rfl) (by kernel_rfl) ?_; clear KN; intro wx KN) | (refine wpList_kn_store1 KN (by rfl) 30 _ _ rfl _ _ rfl _ (by conv => lhs; whnf) (by rfl) _ _ (by repeat (first | exact Repl.here | apply Repl.there)) (by (try simp only [Array.size_setIfInBounds, putL_size]); first | exact Nat.le_of_ble_eq_true rfl | (simp; omega)) (by kernel_rfl) (by rfl) ?_; clear KN; intro wx KN) | (refine wpList_kn_store1 KN (by rfl) 3 _ _ rfl _ _ rfl _ (by conv => lhs; whnf) (by rfl) _ _ (by repeat (first | exact Repl.here | apply Repl.there)) (by (try simp only [Array.size_setIfInBounds, putL_size]); first | exact Nat.le_of_ble_eq_true rfl | (simp; omega)) (by kernel_rfl) (by rfl) ?_; clear KN; intro wx KN) | (refine wpList_kn_storeW KN (by rfl) 33 _ _ rfl _ rfl _ rfl _ _ (by repeat (first | exact Repl.here | apply Repl.there)) (by kernel_rfl) (by kernel_rfl) (by kernel_rfl) ?_; clear KN; intro wx KN) | (refine wpList_kn_storeA KN (by rfl) 33 _ _ rfl _ _ rfl _ rfl _ _ (by repeat (first | exact Repl.here | apply Repl.there)) (by (try simp only [Array.size_setIfInBounds, putL_size]); first | exact Nat.le_of_ble_eq_true rfl | (simp; omega)) (by kernel_rfl) (by kernel_rfl) ?_; clear KN; intro wx KN)) | ((refine gate_new (by rfl) ?_); first | (refine wpList_kn_boxA KN (by rfl) 35 _ rfl 2 rfl _ rfl ?_; clear KN; intro g2 wx hg2 KN) | (refine wpList_kn_alloc KN (by rfl) 35 rfl 4 rfl Vm.zero.cells (by kernel_rfl) ?_; clear KN; intro g4 wx hg4 KN) | (refine wpList_built rfl 35 #[] rfl Vm.zero.cells (by kernel_rfl) ?_) | (refine wpList_built rfl 33 #[] rfl Eff.none.cells (by kernel_rfl) ?_))))
      replace KN := KN.drew
      have hmk := MK.out
      have hk17 : (k : Int) < 16 := by omega
      refine wp_region_held_drew (S := (fun w' => w'.cell? ⟨gv, ov + k, none⟩ = some (.int .u64 x) ∧ w'.cell? ⟨g2, 0, none⟩ = some (.int .i64 u.width))) (by kernel_rfl) ?qhS (fun hHeld => ?qrest)
      case qhS => exact ⟨(KN.old hgv (by simp)).trans HCELL.out, KN.cell (by repeat (first | exact Has.here | refine Has.there ?_)) rfl⟩
      refine wpAnyH_take (i := 0) (oi := ⟨some 29, _, _, _, _, _⟩) (v := ?qv0) rfl (by kernel_rfl) (by kernel_rfl) (by kernel_rfl) (fun _ _ _ h => h) (Or.inl ⟨by rfl, ?qhy0⟩) hHeld ?qr0
      case qhy0 => (intro w hSw; (try dsimp only at hSw); go_simp; (try with_reducible rfl))
      (try simp only [Act.put, List.setIfInBounds_toArray, List.set_cons_zero, List.set_cons_succ])
      refine wpAnyH_take (i := 1) (oi := ⟨some 30, _, _, _, _, _⟩) (v := ?qv1) rfl (by kernel_rfl) (by kernel_rfl) (by kernel_rfl) (fun _ _ _ h => h) (Or.inl ⟨by rfl, ?qhy1⟩) hHeld ?qr1
      case qhy1 => (intro w hSw; (try dsimp only at hSw); go_simp; (try with_reducible rfl))
      (try simp only [Act.put, List.setIfInBounds_toArray, List.set_cons_zero, List.set_cons_succ])
      refine wpAnyH_take (i := 2) (oi := ⟨some 31, _, _, _, _, _⟩) (v := ?qv2) rfl (by kernel_rfl) (by kernel_rfl) (by kernel_rfl) (fun _ _ _ h => h) (Or.inl ⟨by rfl, ?qhy2⟩) hHeld ?qr2
      case qhy2 => (intro w hSw; (try dsimp only at hSw); go_simp; (try with_reducible rfl))
      (try simp only [Act.put, List.setIfInBounds_toArray, List.set_cons_zero, List.set_cons_succ])
      refine wpAnyH_take (i := 3) (oi := ⟨some 32, _, _, _, _, _⟩) (v := ?qv3) rfl (by kernel_rfl) (by kernel_rfl) (by kernel_rfl) (fun _ _ _ h => h) (Or.inl ⟨by rfl, ?qhy3⟩) hHeld ?qr3
      case qhy3 => (intro w hSw; (try dsimp only at hSw); go_simp; (try with_reducible rfl))
      (try simp only [Act.put, List.setIfInBounds_toArray, List.set_cons_zero, List.set_cons_succ])
      refine wpAnyH_take (i := 4) (oi := ⟨some 33, _, _, _, _, _⟩) (v := (.int .u64 x)) rfl (by kernel_rfl) (by kernel_rfl) (by kernel_rfl) (fun _ _ _ h => h) (kn_yields_cell (by rfl) 30 _ rfl gv (ov + k) rfl _ (fun _ h => h.1) _ Try.underlying30 rfl) hHeld ?qr4
      (try simp only [Act.put, List.setIfInBounds_toArray, List.set_cons_zero, List.set_cons_succ])
      refine wpAnyH_take (i := 5) (oi := ⟨some 34, _, _, _, _, _⟩) (v := ?qv5) rfl (by kernel_rfl) (by kernel_rfl) (by kernel_rfl) (fun _ _ _ h => h) (Or.inl ⟨by rfl, ?qhy5⟩) hHeld ?qr5
      case qhy5 => (intro w hSw; (try dsimp only at hSw); go_simp; (try with_reducible rfl))
      (try simp only [Act.put, List.setIfInBounds_toArray, List.set_cons_zero, List.set_cons_succ])
      refine wpAnyH_take (i := 6) (oi := ⟨some 35, _, _, _, _, _⟩) (v := (.int .i64 u.width)) rfl (by kernel_rfl) (by kernel_rfl) (by kernel_rfl) (fun _ _ _ h => h) (kn_yields_cell (by rfl) 3 _ rfl g2 0 rfl _ (fun _ h => h.2) _ Try.underlying3 rfl) hHeld ?qr6
      (try simp only [Act.put, List.setIfInBounds_toArray, List.set_cons_zero, List.set_cons_succ])
      refine wpAnyH_take (i := 9) (oi := ⟨some 38, _, _, _, _, _⟩) (v := ?qv9) rfl (by kernel_rfl) (by kernel_rfl) (by kernel_rfl) (fun _ _ _ h => h) (Or.inl ⟨by rfl, ?qhy9⟩) hHeld ?qr9
      case qhy9 => (intro w hSw; (try dsimp only at hSw); go_simp; (try with_reducible rfl))
      (try simp only [Act.put, List.setIfInBounds_toArray, List.set_cons_zero, List.set_cons_succ])
      refine wpAnyH_ready (rs := [7]) (by kernel_rfl) (by simp) ?qc7
      refine AllReadyH.cons (o := ⟨some 36, _, _, _, _, _⟩) rfl (fun K hK => ?qst7) AllReadyH.nil
      go_simp
      (refine (mask_any _ _ FU.out.wide).mono ?_; rintro e w' ⟨rfl, rfl⟩)
      refine hK.out _ _ ?qk7 (fun hHeld2 => ?qm7)
      case qk7 => exact ⟨(KN.old hgv (by simp)).trans HCELL.out, KN.cell (by repeat (first | exact Has.here | refine Has.there ?_)) rfl⟩
      clear hK K hHeld
      have hHeld := hHeld2; clear hHeld2
      (try simp only [Act.put, List.setIfInBounds_toArray, List.set_cons_zero, List.set_cons_succ])
      refine wpAnyH_take (i := 8) (oi := ⟨some 37, _, _, _, _, _⟩) (v := ?qv8) rfl (by kernel_rfl) (by kernel_rfl) (by kernel_rfl) (fun _ _ _ h => h) (Or.inl ⟨by rfl, ?qhy8⟩) hHeld ?qr8
      case qhy8 => (intro w hSw; (try dsimp only at hSw); go_simp; (try with_reducible rfl))
      (try simp only [Act.put, List.setIfInBounds_toArray, List.set_cons_zero, List.set_cons_succ])
      refine wpAnyH_take (i := 10) (oi := ⟨some 39, _, _, _, _, _⟩) (v := ?qv10) rfl (by kernel_rfl) (by kernel_rfl) (by kernel_rfl) (fun _ _ _ h => h) (Or.inl ⟨by rfl, ?qhy10⟩) hHeld ?qr10
      case qhy10 => (intro w hSw; (try dsimp only at hSw); go_simp; (try with_reducible rfl))
      (try simp only [Act.put, List.setIfInBounds_toArray, List.set_cons_zero, List.set_cons_succ])
      refine wpAnyH_ready (rs := [11]) (by kernel_rfl) (by simp) ?qc11
      refine AllReadyH.cons (o := ⟨none, _, _, _, _, _⟩) rfl (fun K hK => ?qst11) AllReadyH.nil
      (rw [if_pos (by rfl)]; refine wp_kn_store1 KN 30 _ _ rfl g2 (4 + k) rfl _ (by conv => lhs; whnf) (by rfl) _ _ (by repeat (first | exact Repl.here | apply Repl.there)) (by show 4 + k + 1 ≤ 25; omega) (by kernel_rfl) (by rfl) ?_; clear KN; intro wx KN; replace KN := KN.as_ g2 _ (by repeat (first | exact Repl.here | apply Repl.there)) (u.cells_set k _ FU.out.len hk16))
      refine hK.out _ _ ?qk11 (fun hHeld2 => ?qm11)
      case qk11 => exact ⟨(KN.old hgv (by simp)).trans HCELL.out, KN.cell (by repeat (first | exact Has.here | refine Has.there ?_)) rfl⟩
      clear hK K hHeld
      have hHeld := hHeld2; clear hHeld2
      (try simp only [Act.put, List.setIfInBounds_toArray, List.set_cons_zero, List.set_cons_succ])
      refine wpAnyH_done (by kernel_rfl) ?qdone _
      clear hHeld hmk
      go_wp2_with fail
      go_roundw
      case rel =>
        refine ⟨k + 1, by rw [← HN.out]; omega, by go_num, ?_⟩
        rw [HNX.out]
        exact KN
      case measure => simp [intOf]; omega
    · have hfull : xs.take k = xs := List.take_of_length_le (by rw [← HN.out]; omega)
      rw [hfull] at KN
      clear hfull
      obtain ⟨u, hu⟩ : ∃ u, u = v.setRs 0 xs := ⟨_, rfl⟩
      rw [← hu] at KN
      have HU := Lib.hid hu
      clear hu
      go_wp2_with (first | ((with_reducible refine wpList_gate ?_); first | ((refine gate_load (by rfl) ?_); first | (refine wpList_kn_loadW KN (by rfl) 35 _ rfl _ rfl _ _ (by repeat (first | exact Has.here | refine Has.there ?_)) _ Try.underlying35 rfl (by kernel_rfl) ?_) | (refine wpList_kn_load1 KN (by rfl) 3 _ rfl _ _ rfl _ _ (by repeat (first | exact Has.here | refine Has.there ?_)) _ (by (repeat (first | ((with_reducible refine get_hit ?_); exact Nat.le_of_ble_eq_true (by kernel_rfl)) | ((with_reducible refine (get_miss ?_).trans ?_); (focus kernel_rfl)) | ((with_reducible refine (get_pmiss ?_).trans ?_); (focus kernel_rfl)))); all_goals (conv => lhs; whnf; arg 1; whnf)) _ Try.underlying3 rfl ?_) | (refine wpList_kn_load1 KN (by rfl) 30 _ rfl _ _ rfl _ _ (by repeat (first | exact Has.here | refine Has.there ?_)) _ (by (repeat (first | ((with_reducible refine get_hit ?_); exact Nat.le_of_ble_eq_true (by kernel_rfl)) | ((with_reducible refine (get_miss ?_).trans ?_); (focus kernel_rfl)) | ((with_reducible refine (get_pmiss ?_).trans ?_); (focus kernel_rfl)))); all_goals (conv => lhs; whnf; arg 1; whnf)) _ Try.underlying30 rfl ?_)) | ((refine gate_store (by rfl) ?_); first | (refine wpList_kn_storeA KN (by rfl) 33 _ _ rfl g2 20 rfl _ rfl _ _ (by repeat (first | exact Repl.here | apply Repl.there)) (by show 20 + 5 ≤ 25; decide) (by kernel_rfl) (by kernel_rfl) ?_; clear KN; intro wx KN; replace KN := KN.as_ g2 ({ u with state := 0, wait := Eff.none } : Vm).cells (by repeat (first | exact Repl.here | apply Repl.there)) (by kernel_rfl)) | (refine wpList_kn_storeW KN (by rfl) 35 _ _ rfl _ rfl _ rfl _ _ (by repeat (first | exact Repl.here | apply Repl.there)) (by kernel_rfl) (by kernel_rfl) (by kernel_rfl) ?_; clear KN; intro wx KN) | (refine wpList_kn_storeA KN (by rfl) 35 _ _ rfl _ _ rfl _ rfl _ _ (by repeat (first | exact Repl.here | apply Repl.there)) (by (try simp only [Array.size_setIfInBounds, putL_size]); first | exact Nat.le_of_ble_eq_true rfl | (simp; omega)) (by kernel_rfl) (by kernel_rfl) ?_; clear KN; intro wx KN) | (refine wpList_kn_store1 KN (by rfl) 30 _ _ rfl _ _ rfl _ (by conv => lhs; whnf) (by rfl) _ _ (by repeat (first | exact Repl.here | apply Repl.there)) (by (try simp only [Array.size_setIfInBounds, putL_size]); first | exact Nat.le_of_ble_eq_true rfl | (simp; omega)) (by kernel_rfl) (by rfl) ?_; clear KN; intro wx KN) | (refine wpList_kn_store1 KN (by rfl) 3 _ _ rfl _ _ rfl _ (by conv => lhs; whnf) (by rfl) _ _ (by repeat (first | exact Repl.here | apply Repl.there)) (by (try simp only [Array.size_setIfInBounds, putL_size]); first | exact Nat.le_of_ble_eq_true rfl | (simp; omega)) (by kernel_rfl) (by rfl) ?_; clear KN; intro wx KN) | (refine wpList_kn_storeW KN (by rfl) 33 _ _ rfl _ rfl _ rfl _ _ (by repeat (first | exact Repl.here | apply Repl.there)) (by kernel_rfl) (by kernel_rfl) (by kernel_rfl) ?_; clear KN; intro wx KN) | (refine wpList_kn_storeA KN (by rfl) 33 _ _ rfl _ _ rfl _ rfl _ _ (by repeat (first | exact Repl.here | apply Repl.there)) (by (try simp only [Array.size_setIfInBounds, putL_size]); first | exact Nat.le_of_ble_eq_true rfl | (simp; omega)) (by kernel_rfl) (by kernel_rfl) ?_; clear KN; intro wx KN)) | ((refine gate_new (by rfl) ?_); first | (refine wpList_kn_boxA KN (by rfl) 35 _ rfl 2 rfl _ rfl ?_; clear KN; intro g2 wx hg2 KN) | (refine wpList_kn_alloc KN (by rfl) 35 rfl 4 rfl Vm.zero.cells (by kernel_rfl) ?_; clear KN; intro g4 wx hg4 KN) | (refine wpList_built rfl 35 #[] rfl Vm.zero.cells (by kernel_rfl) ?_) | (refine wpList_built rfl 33 #[] rfl Eff.none.cells (by kernel_rfl) ?_))))
      refine bodyPost_ret (results_ct Try.results22 _ _ _ ({ u with state := 0, wait := Eff.none } : Vm).cells _ rfl (load_vm (KN.at_ (by repeat (first | exact Has.here | refine Has.there ?_)))) rfl) rfl ⟨?_, KN.toBelow⟩
      unfold finV
      rw [HREG.out, show (0 : Int).toNat = 0 from rfl, ← HU.out]
      rfl
set_option maxRecDepth 100000 in
set_option maxHeartbeats 2000000 in
theorem RFinish_2 (wd pc st ca : Int) (regs : List Int) (nm ad vl : Int) (va : Value) (w : World) (ht : Vm.typed ⟨wd, pc, st, ca, regs, ⟨2, 0, nm, ad, vl⟩⟩) (hx : U64s w va []) (h : Vm.waitErr ⟨wd, pc, st, ca, regs, ⟨2, 0, nm, ad, vl⟩⟩ = 0) :
    Calls Try.prog 22 #[.agg (Vm.mk wd pc st ca regs ⟨2, 0, nm, ad, vl⟩).cells, va] w fun e w' => e = .returned (pairVal (finV ⟨wd, pc, st, ca, regs, ⟨2, 0, nm, ad, vl⟩⟩ [], 0)) ∧ Below w.heap.size w w' := by
  have KN := Kn.start w
  obtain ⟨a, c, rfl, -⟩ := hx.form
  obtain ⟨v, hv⟩ : ∃ v : Vm, v = ⟨wd, pc, st, ca, regs, ⟨2, 0, nm, ad, vl⟩⟩ := ⟨_, rfl⟩
  rw [← hv] at ht h ⊢
  have hs := (Vm.wait_ok h).2
  have hsb : (v.state != 1) = false := by rw [bne_eq_false_iff_eq]; exact hs
  have HOK := Lib.hid (Vm.wait_ok h).1
  have hg20 : v.cells[20]? = some (.int .i64 2) := by rw [hv]; rfl
  have G20 := Lib.hid hg20
  have HT := Lib.hid ht
  clear hx h hg20 hv ht hs
  go_enter Try.func22, Try.ntmps22
  go_wp2_with (first | (go_at_call 25; refine (RValid_any v _ HT.out).mono ?_; rintro e w1 ⟨rfl, hb1⟩; replace KN := KN.below hb1; clear hb1; rw [HOK.out]) | ((with_reducible refine wpList_gate ?_); first | ((refine gate_load (by rfl) ?_); first | (refine wpList_kn_load1 KN (by rfl) 3 (.tmp 19) rfl g2 20 rfl _ _ (by repeat (first | exact Has.here | refine Has.there ?_)) _ G20.out _ Try.underlying3 rfl ?_) | (refine wpList_kn_loadW KN (by rfl) 35 _ rfl _ rfl _ _ (by repeat (first | exact Has.here | refine Has.there ?_)) _ Try.underlying35 rfl (by kernel_rfl) ?_) | (refine wpList_kn_load1 KN (by rfl) 3 _ rfl _ _ rfl _ _ (by repeat (first | exact Has.here | refine Has.there ?_)) _ (by (repeat (first | ((with_reducible refine get_hit ?_); exact Nat.le_of_ble_eq_true (by kernel_rfl)) | ((with_reducible refine (get_miss ?_).trans ?_); (focus kernel_rfl)) | ((with_reducible refine (get_pmiss ?_).trans ?_); (focus kernel_rfl)))); all_goals (conv => lhs; whnf; arg 1; whnf)) _ Try.underlying3 rfl ?_) | (refine wpList_kn_load1 KN (by rfl) 30 _ rfl _ _ rfl _ _ (by repeat (first | exact Has.here | refine Has.there ?_)) _ (by (repeat (first | ((with_reducible refine get_hit ?_); exact Nat.le_of_ble_eq_true (by kernel_rfl)) | ((with_reducible refine (get_miss ?_).trans ?_); (focus kernel_rfl)) | ((with_reducible refine (get_pmiss ?_).trans ?_); (focus kernel_rfl)))); all_goals (conv => lhs; whnf; arg 1; whnf)) _ Try.underlying30 rfl ?_)) | ((refine gate_store (by rfl) ?_); first | (refine wpList_kn_storeA KN (by rfl) 33 _ _ rfl g2 20 rfl _ rfl _ _ (by repeat (first | exact Repl.here | apply Repl.there)) (by show 20 + 5 ≤ 25; decide) (by kernel_rfl) (by kernel_rfl) ?_; clear KN; intro wx KN; replace KN := KN.as_ g2 ({ v with state := 0, wait := Eff.none } : Vm).cells (by repeat (first | exact Repl.here | apply Repl.there)) (by kernel_rfl)) | (refine wpList_kn_storeW KN (by rfl) 35 _ _ rfl _ rfl _ rfl _ _ (by repeat (first | exact Repl.here | apply Repl.there)) (by kernel_rfl) (by kernel_rfl) (by kernel_rfl) ?_; clear KN; intro wx KN) | (refine wpList_kn_storeA KN (by rfl) 35 _ _ rfl _ _ rfl _ rfl _ _ (by repeat (first | exact Repl.here | apply Repl.there)) (by (try simp only [Array.size_setIfInBounds, putL_size]); first | exact Nat.le_of_ble_eq_true rfl | (simp; omega)) (by kernel_rfl) (by kernel_rfl) ?_; clear KN; intro wx KN) | (refine wpList_kn_store1 KN (by rfl) 30 _ _ rfl _ _ rfl _ (by conv => lhs; whnf) (by rfl) _ _ (by repeat (first | exact Repl.here | apply Repl.there)) (by (try simp only [Array.size_setIfInBounds, putL_size]); first | exact Nat.le_of_ble_eq_true rfl | (simp; omega)) (by kernel_rfl) (by rfl) ?_; clear KN; intro wx KN) | (refine wpList_kn_store1 KN (by rfl) 3 _ _ rfl _ _ rfl _ (by conv => lhs; whnf) (by rfl) _ _ (by repeat (first | exact Repl.here | apply Repl.there)) (by (try simp only [Array.size_setIfInBounds, putL_size]); first | exact Nat.le_of_ble_eq_true rfl | (simp; omega)) (by kernel_rfl) (by rfl) ?_; clear KN; intro wx KN) | (refine wpList_kn_storeW KN (by rfl) 33 _ _ rfl _ rfl _ rfl _ _ (by repeat (first | exact Repl.here | apply Repl.there)) (by kernel_rfl) (by kernel_rfl) (by kernel_rfl) ?_; clear KN; intro wx KN) | (refine wpList_kn_storeA KN (by rfl) 33 _ _ rfl _ _ rfl _ rfl _ _ (by repeat (first | exact Repl.here | apply Repl.there)) (by (try simp only [Array.size_setIfInBounds, putL_size]); first | exact Nat.le_of_ble_eq_true rfl | (simp; omega)) (by kernel_rfl) (by kernel_rfl) ?_; clear KN; intro wx KN)) | ((refine gate_new (by rfl) ?_); first | (refine wpList_kn_boxA KN (by rfl) 35 _ rfl 2 rfl _ rfl ?_; clear KN; intro g2 wx hg2 KN) | (refine wpList_kn_alloc KN (by rfl) 35 rfl 4 rfl Vm.zero.cells (by kernel_rfl) ?_; clear KN; intro g4 wx hg4 KN) | (refine wpList_built rfl 35 #[] rfl Vm.zero.cells (by kernel_rfl) ?_) | (refine wpList_built rfl 33 #[] rfl Eff.none.cells (by kernel_rfl) ?_))))
  exact bodyPost_ret (results_ct Try.results22 _ _ _ ({ v with state := 0, wait := Eff.none } : Vm).cells _ rfl (load_vm (KN.at_ (by repeat (first | exact Has.here | refine Has.there ?_)))) rfl) rfl ⟨rfl, KN.toBelow⟩
set_option maxRecDepth 100000 in
set_option maxHeartbeats 2000000 in
theorem RFinish_1 (wd pc st ca : Int) (regs : List Int) (nm ad vl : Int) (R : Nat) (va : Value) (x : Int) (w : World) (ht : Vm.typed ⟨wd, pc, st, ca, regs, ⟨1, R, nm, ad, vl⟩⟩) (hx : U64s w va [x]) (h : Vm.waitErr ⟨wd, pc, st, ca, regs, ⟨1, R, nm, ad, vl⟩⟩ = 0) (hr : R < 16) :
    Calls Try.prog 22 #[.agg (Vm.mk wd pc st ca regs ⟨1, R, nm, ad, vl⟩).cells, va] w fun e w' => e = .returned (pairVal (finV ⟨wd, pc, st, ca, regs, ⟨1, R, nm, ad, vl⟩⟩ [x], 0)) ∧ Below w.heap.size w w' := by
  have KN := Kn.start w
  obtain ⟨a, c, rfl, hxl, hxc⟩ := hx.form
  obtain ⟨gv, ov, rfl, hgv, hlc, hcm, hcell⟩ := hxc 0 x rfl
  obtain ⟨hxm0, hxm1⟩ := hx.2 x (by simp)
  obtain ⟨v, hv⟩ : ∃ v : Vm, v = ⟨wd, pc, st, ca, regs, ⟨1, R, nm, ad, vl⟩⟩ := ⟨_, rfl⟩
  rw [← hv] at ht h ⊢
  have hs := (Vm.wait_ok h).2
  have hsb : (v.state != 1) = false := by rw [bne_eq_false_iff_eq]; exact hs
  have HOK := Lib.hid (Vm.wait_ok h).1
  have FT := Lib.hid (Vm.ok_fits (Vm.wait_ok h).1 ht)
  have hreg : v.wait.reg = R := by rw [hv]
  have hg20 : v.cells[20]? = some (.int .i64 1) := by rw [hv]; rfl
  have hg21 : ∀ u : Vm, u.wait = v.wait → u.cells[21]? = some (.int .i64 R) := by intro u hu; show some (Value.int .i64 u.wait.reg) = _; rw [hu, hreg]
  have G20 := Lib.hid hg20
  have G21 := Lib.hid hg21
  have HREG := Lib.hid hreg
  have HT := Lib.hid ht
  have HCELL := Lib.hid hcell
  have MK := Lib.hid (any_mask x v.width FT.out.wide hxm0 hxm1)
  unfold maxLen at hcm
  simp only [List.length_cons, List.length_nil, Nat.zero_add] at hlc ⊢
  clear hx hxc h hreg hg20 hg21 hv ht hs hcell
  go_enter Try.func22, Try.ntmps22
  go_wp2_with (first | (go_at_call 25; refine (RValid_any v _ HT.out).mono ?_; rintro e w1 ⟨rfl, hb1⟩; replace KN := KN.below hb1; clear hb1; rw [HOK.out]) | ((with_reducible refine wpList_gate ?_); first | ((refine gate_load (by rfl) ?_); first | (refine wpList_kn_load1 KN (by rfl) 3 (.tmp 19) rfl g2 20 rfl _ _ (by repeat (first | exact Has.here | refine Has.there ?_)) _ G20.out _ Try.underlying3 rfl ?_) | (refine wpList_kn_loadW KN (by rfl) 35 _ rfl _ rfl _ _ (by repeat (first | exact Has.here | refine Has.there ?_)) _ Try.underlying35 rfl (by kernel_rfl) ?_) | (refine wpList_kn_load1 KN (by rfl) 3 _ rfl _ _ rfl _ _ (by repeat (first | exact Has.here | refine Has.there ?_)) _ (by (repeat (first | ((with_reducible refine get_hit ?_); exact Nat.le_of_ble_eq_true (by kernel_rfl)) | ((with_reducible refine (get_miss ?_).trans ?_); (focus kernel_rfl)) | ((with_reducible refine (get_pmiss ?_).trans ?_); (focus kernel_rfl)))); all_goals (conv => lhs; whnf; arg 1; whnf)) _ Try.underlying3 rfl ?_) | (refine wpList_kn_load1 KN (by rfl) 30 _ rfl _ _ rfl _ _ (by repeat (first | exact Has.here | refine Has.there ?_)) _ (by (repeat (first | ((with_reducible refine get_hit ?_); exact Nat.le_of_ble_eq_true (by kernel_rfl)) | ((with_reducible refine (get_miss ?_).trans ?_); (focus kernel_rfl)) | ((with_reducible refine (get_pmiss ?_).trans ?_); (focus kernel_rfl)))); all_goals (conv => lhs; whnf; arg 1; whnf)) _ Try.underlying30 rfl ?_)) | ((refine gate_store (by rfl) ?_); first | (refine wpList_kn_storeW KN (by rfl) 35 _ _ rfl _ rfl _ rfl _ _ (by repeat (first | exact Repl.here | apply Repl.there)) (by kernel_rfl) (by kernel_rfl) (by kernel_rfl) ?_; clear KN; intro wx KN) | (refine wpList_kn_storeA KN (by rfl) 35 _ _ rfl _ _ rfl _ rfl _ _ (by repeat (first | exact Repl.here | apply Repl.there)) (by (try simp only [Array.size_setIfInBounds, putL_size]); first | exact Nat.le_of_ble_eq_true rfl | (simp; omega)) (by kernel_rfl) (by kernel_rfl) ?_; clear KN; intro wx KN) | (refine wpList_kn_store1 KN (by rfl) 30 _ _ rfl _ _ rfl _ (by conv => lhs; whnf) (by rfl) _ _ (by repeat (first | exact Repl.here | apply Repl.there)) (by (try simp only [Array.size_setIfInBounds, putL_size]); first | exact Nat.le_of_ble_eq_true rfl | (simp; omega)) (by kernel_rfl) (by rfl) ?_; clear KN; intro wx KN) | (refine wpList_kn_store1 KN (by rfl) 3 _ _ rfl _ _ rfl _ (by conv => lhs; whnf) (by rfl) _ _ (by repeat (first | exact Repl.here | apply Repl.there)) (by (try simp only [Array.size_setIfInBounds, putL_size]); first | exact Nat.le_of_ble_eq_true rfl | (simp; omega)) (by kernel_rfl) (by rfl) ?_; clear KN; intro wx KN) | (refine wpList_kn_storeW KN (by rfl) 33 _ _ rfl _ rfl _ rfl _ _ (by repeat (first | exact Repl.here | apply Repl.there)) (by kernel_rfl) (by kernel_rfl) (by kernel_rfl) ?_; clear KN; intro wx KN) | (refine wpList_kn_storeA KN (by rfl) 33 _ _ rfl _ _ rfl _ rfl _ _ (by repeat (first | exact Repl.here | apply Repl.there)) (by (try simp only [Array.size_setIfInBounds, putL_size]); first | exact Nat.le_of_ble_eq_true rfl | (simp; omega)) (by kernel_rfl) (by kernel_rfl) ?_; clear KN; intro wx KN)) | ((refine gate_new (by rfl) ?_); first | (refine wpList_kn_boxA KN (by rfl) 35 _ rfl 2 rfl _ rfl ?_; clear KN; intro g2 wx hg2 KN) | (refine wpList_kn_alloc KN (by rfl) 35 rfl 4 rfl Vm.zero.cells (by kernel_rfl) ?_; clear KN; intro g4 wx hg4 KN) | (refine wpList_built rfl 35 #[] rfl Vm.zero.cells (by kernel_rfl) ?_) | (refine wpList_built rfl 33 #[] rfl Eff.none.cells (by kernel_rfl) ?_))))
  replace KN := KN.drew
  have hmk := MK.out
  have hr17 : (R : Int) < 16 := by omega
  refine wp_region_held_drew (S := (fun w' => w'.cell? ⟨gv, ov, none⟩ = some (.int .u64 x) ∧ w'.cell? ⟨g2, 0, none⟩ = some (.int .i64 v.width) ∧ w'.cell? ⟨g2, 21, none⟩ = some (.int .i64 R))) (by kernel_rfl) ?qhS (fun hHeld => ?qrest)
  case qhS => first | exact ⟨(KN.old hgv (by simp)).trans HCELL.out, KN.cell (by repeat (first | exact Has.here | refine Has.there ?_)) rfl, KN.cell (by repeat (first | exact Has.here | refine Has.there ?_)) (G21.out v rfl)⟩ | exact ⟨(KN.old hgv (by simp)).trans HCELL.out, KN.cell (by repeat (first | exact Has.here | refine Has.there ?_)) rfl, KN.cell (by repeat (first | exact Has.here | refine Has.there ?_)) (G21.out (v.setR R (x % pw2 v.width)) rfl)⟩
  refine wpAnyH_take (i := 0) (oi := ⟨some 45, _, _, _, _, _⟩) (v := ?qv0) rfl (by kernel_rfl) (by kernel_rfl) (by kernel_rfl) (fun _ _ _ h => h) (Or.inl ⟨by rfl, ?qhy0⟩) hHeld ?qr0
  case qhy0 => (intro w hSw; (try dsimp only at hSw); go_simp; (try with_reducible rfl))
  (try simp only [Act.put, List.setIfInBounds_toArray, List.set_cons_zero, List.set_cons_succ])
  refine wpAnyH_take (i := 1) (oi := ⟨some 46, _, _, _, _, _⟩) (v := ?qv1) rfl (by kernel_rfl) (by kernel_rfl) (by kernel_rfl) (fun _ _ _ h => h) (Or.inl ⟨by rfl, ?qhy1⟩) hHeld ?qr1
  case qhy1 => (intro w hSw; (try dsimp only at hSw); go_simp; (try with_reducible rfl))
  (try simp only [Act.put, List.setIfInBounds_toArray, List.set_cons_zero, List.set_cons_succ])
  refine wpAnyH_take (i := 2) (oi := ⟨some 47, _, _, _, _, _⟩) (v := (.int .i64 R)) rfl (by kernel_rfl) (by kernel_rfl) (by kernel_rfl) (fun _ _ _ h => h) (kn_yields_cell (by rfl) 3 _ rfl g2 21 rfl _ (fun _ h => h.2.2) _ Try.underlying3 rfl) hHeld ?qr2
  (try simp only [Act.put, List.setIfInBounds_toArray, List.set_cons_zero, List.set_cons_succ])
  refine wpAnyH_take (i := 3) (oi := ⟨some 48, _, _, _, _, _⟩) (v := ?qv3) rfl (by kernel_rfl) (by kernel_rfl) (by kernel_rfl) (fun _ _ _ h => h) (Or.inl ⟨by rfl, ?qhy3⟩) hHeld ?qr3
  case qhy3 => (intro w hSw; (try dsimp only at hSw); go_simp; (try with_reducible rfl))
  (try simp only [Act.put, List.setIfInBounds_toArray, List.set_cons_zero, List.set_cons_succ])
  refine wpAnyH_take (i := 4) (oi := ⟨some 49, _, _, _, _, _⟩) (v := ?qv4) rfl (by kernel_rfl) (by kernel_rfl) (by kernel_rfl) (fun _ _ _ h => h) (Or.inl ⟨by rfl, ?qhy4⟩) hHeld ?qr4
  case qhy4 => (intro w hSw; (try dsimp only at hSw); go_simp; (try with_reducible rfl))
  (try simp only [Act.put, List.setIfInBounds_toArray, List.set_cons_zero, List.set_cons_succ])
  refine wpAnyH_take (i := 5) (oi := ⟨some 50, _, _, _, _, _⟩) (v := (.int .u64 x)) rfl (by kernel_rfl) (by kernel_rfl) (by kernel_rfl) (fun _ _ _ h => h) (kn_yields_cell (by rfl) 30 _ rfl gv ov rfl _ (fun _ h => h.1) _ Try.underlying30 rfl) hHeld ?qr5
  (try simp only [Act.put, List.setIfInBounds_toArray, List.set_cons_zero, List.set_cons_succ])
  refine wpAnyH_take (i := 6) (oi := ⟨some 51, _, _, _, _, _⟩) (v := ?qv6) rfl (by kernel_rfl) (by kernel_rfl) (by kernel_rfl) (fun _ _ _ h => h) (Or.inl ⟨by rfl, ?qhy6⟩) hHeld ?qr6
  case qhy6 => (intro w hSw; (try dsimp only at hSw); go_simp; (try with_reducible rfl))
  (try simp only [Act.put, List.setIfInBounds_toArray, List.set_cons_zero, List.set_cons_succ])
  refine wpAnyH_take (i := 7) (oi := ⟨some 52, _, _, _, _, _⟩) (v := (.int .i64 v.width)) rfl (by kernel_rfl) (by kernel_rfl) (by kernel_rfl) (fun _ _ _ h => h) (kn_yields_cell (by rfl) 3 _ rfl g2 0 rfl _ (fun _ h => h.2.1) _ Try.underlying3 rfl) hHeld ?qr7
  (try simp only [Act.put, List.setIfInBounds_toArray, List.set_cons_zero, List.set_cons_succ])
  refine wpAnyH_take (i := 10) (oi := ⟨some 55, _, _, _, _, _⟩) (v := ?qv10) rfl (by kernel_rfl) (by kernel_rfl) (by kernel_rfl) (fun _ _ _ h => h) (Or.inl ⟨by rfl, ?qhy10⟩) hHeld ?qr10
  case qhy10 => (intro w hSw; (try dsimp only at hSw); go_simp; (try with_reducible rfl))
  (try simp only [Act.put, List.setIfInBounds_toArray, List.set_cons_zero, List.set_cons_succ])
  refine wpAnyH_ready (rs := [8]) (by kernel_rfl) (by simp) ?qc8
  refine AllReadyH.cons (o := ⟨some 53, _, _, _, _, _⟩) rfl (fun K hK => ?qst8) AllReadyH.nil
  go_simp
  (refine (mask_any _ _ FT.out.wide).mono ?_; rintro e w' ⟨rfl, rfl⟩)
  refine hK.out _ _ ?qk8 (fun hHeld2 => ?qm8)
  case qk8 => first | exact ⟨(KN.old hgv (by simp)).trans HCELL.out, KN.cell (by repeat (first | exact Has.here | refine Has.there ?_)) rfl, KN.cell (by repeat (first | exact Has.here | refine Has.there ?_)) (G21.out v rfl)⟩ | exact ⟨(KN.old hgv (by simp)).trans HCELL.out, KN.cell (by repeat (first | exact Has.here | refine Has.there ?_)) rfl, KN.cell (by repeat (first | exact Has.here | refine Has.there ?_)) (G21.out (v.setR R (x % pw2 v.width)) rfl)⟩
  clear hK K hHeld
  have hHeld := hHeld2; clear hHeld2
  (try simp only [Act.put, List.setIfInBounds_toArray, List.set_cons_zero, List.set_cons_succ])
  refine wpAnyH_take (i := 9) (oi := ⟨some 54, _, _, _, _, _⟩) (v := ?qv9) rfl (by kernel_rfl) (by kernel_rfl) (by kernel_rfl) (fun _ _ _ h => h) (Or.inl ⟨by rfl, ?qhy9⟩) hHeld ?qr9
  case qhy9 => (intro w hSw; (try dsimp only at hSw); go_simp; (try with_reducible rfl))
  (try simp only [Act.put, List.setIfInBounds_toArray, List.set_cons_zero, List.set_cons_succ])
  refine wpAnyH_take (i := 11) (oi := ⟨some 56, _, _, _, _, _⟩) (v := ?qv11) rfl (by kernel_rfl) (by kernel_rfl) (by kernel_rfl) (fun _ _ _ h => h) (Or.inl ⟨by rfl, ?qhy11⟩) hHeld ?qr11
  case qhy11 => (intro w hSw; (try dsimp only at hSw); go_simp; (try with_reducible rfl))
  (try simp only [Act.put, List.setIfInBounds_toArray, List.set_cons_zero, List.set_cons_succ])
  refine wpAnyH_ready (rs := [12]) (by kernel_rfl) (by simp) ?qc12
  refine AllReadyH.cons (o := ⟨none, _, _, _, _, _⟩) rfl (fun K hK => ?qst12) AllReadyH.nil
  (rw [if_pos (by rfl)]; refine wp_kn_store1 KN 30 _ _ rfl g2 (4 + R) rfl _ (by conv => lhs; whnf) (by rfl) _ _ (by repeat (first | exact Repl.here | apply Repl.there)) (by show 4 + R + 1 ≤ 25; omega) (by kernel_rfl) (by rfl) ?_; clear KN; intro wx KN; replace KN := KN.as_ g2 _ (by repeat (first | exact Repl.here | apply Repl.there)) (v.cells_set R _ FT.out.len hr))
  refine hK.out _ _ ?qk12 (fun hHeld2 => ?qm12)
  case qk12 => first | exact ⟨(KN.old hgv (by simp)).trans HCELL.out, KN.cell (by repeat (first | exact Has.here | refine Has.there ?_)) rfl, KN.cell (by repeat (first | exact Has.here | refine Has.there ?_)) (G21.out v rfl)⟩ | exact ⟨(KN.old hgv (by simp)).trans HCELL.out, KN.cell (by repeat (first | exact Has.here | refine Has.there ?_)) rfl, KN.cell (by repeat (first | exact Has.here | refine Has.there ?_)) (G21.out (v.setR R (x % pw2 v.width)) rfl)⟩
  clear hK K hHeld
  have hHeld := hHeld2; clear hHeld2
  (try simp only [Act.put, List.setIfInBounds_toArray, List.set_cons_zero, List.set_cons_succ])
  refine wpAnyH_done (by kernel_rfl) ?qdone _
  clear hHeld hmk
  obtain ⟨u, hu⟩ : ∃ u, u = v.setR R (x % pw2 v.width) := ⟨_, rfl⟩
  rw [← hu] at KN
  have HU := Lib.hid hu
  clear hu
  go_wp2_with (first | ((with_reducible refine wpList_gate ?_); first | ((refine gate_load (by rfl) ?_); first | (refine wpList_kn_loadW KN (by rfl) 35 _ rfl _ rfl _ _ (by repeat (first | exact Has.here | refine Has.there ?_)) _ Try.underlying35 rfl (by kernel_rfl) ?_) | (refine wpList_kn_load1 KN (by rfl) 3 _ rfl _ _ rfl _ _ (by repeat (first | exact Has.here | refine Has.there ?_)) _ (by (repeat (first | ((with_reducible refine get_hit ?_); exact Nat.le_of_ble_eq_true (by kernel_rfl)) | ((with_reducible refine (get_miss ?_).trans ?_); (focus kernel_rfl)) | ((with_reducible refine (get_pmiss ?_).trans ?_); (focus kernel_rfl)))); all_goals (conv => lhs; whnf; arg 1; whnf)) _ Try.underlying3 rfl ?_) | (refine wpList_kn_load1 KN (by rfl) 30 _ rfl _ _ rfl _ _ (by repeat (first | exact Has.here | refine Has.there ?_)) _ (by (repeat (first | ((with_reducible refine get_hit ?_); exact Nat.le_of_ble_eq_true (by kernel_rfl)) | ((with_reducible refine (get_miss ?_).trans ?_); (focus kernel_rfl)) | ((with_reducible refine (get_pmiss ?_).trans ?_); (focus kernel_rfl)))); all_goals (conv => lhs; whnf; arg 1; whnf)) _ Try.underlying30 rfl ?_)) | ((refine gate_store (by rfl) ?_); first | (refine wpList_kn_storeA KN (by rfl) 33 _ _ rfl g2 20 rfl _ rfl _ _ (by repeat (first | exact Repl.here | apply Repl.there)) (by show 20 + 5 ≤ 25; decide) (by kernel_rfl) (by kernel_rfl) ?_; clear KN; intro wx KN; replace KN := KN.as_ g2 ({ u with state := 0, wait := Eff.none } : Vm).cells (by repeat (first | exact Repl.here | apply Repl.there)) (by kernel_rfl)) | (refine wpList_kn_storeW KN (by rfl) 35 _ _ rfl _ rfl _ rfl _ _ (by repeat (first | exact Repl.here | apply Repl.there)) (by kernel_rfl) (by kernel_rfl) (by kernel_rfl) ?_; clear KN; intro wx KN) | (refine wpList_kn_storeA KN (by rfl) 35 _ _ rfl _ _ rfl _ rfl _ _ (by repeat (first | exact Repl.here | apply Repl.there)) (by (try simp only [Array.size_setIfInBounds, putL_size]); first | exact Nat.le_of_ble_eq_true rfl | (simp; omega)) (by kernel_rfl) (by kernel_rfl) ?_; clear KN; intro wx KN) | (refine wpList_kn_store1 KN (by rfl) 30 _ _ rfl _ _ rfl _ (by conv => lhs; whnf) (by rfl) _ _ (by repeat (first | exact Repl.here | apply Repl.there)) (by (try simp only [Array.size_setIfInBounds, putL_size]); first | exact Nat.le_of_ble_eq_true rfl | (simp; omega)) (by kernel_rfl) (by rfl) ?_; clear KN; intro wx KN) | (refine wpList_kn_store1 KN (by rfl) 3 _ _ rfl _ _ rfl _ (by conv => lhs; whnf) (by rfl) _ _ (by repeat (first | exact Repl.here | apply Repl.there)) (by (try simp only [Array.size_setIfInBounds, putL_size]); first | exact Nat.le_of_ble_eq_true rfl | (simp; omega)) (by kernel_rfl) (by rfl) ?_; clear KN; intro wx KN) | (refine wpList_kn_storeW KN (by rfl) 33 _ _ rfl _ rfl _ rfl _ _ (by repeat (first | exact Repl.here | apply Repl.there)) (by kernel_rfl) (by kernel_rfl) (by kernel_rfl) ?_; clear KN; intro wx KN) | (refine wpList_kn_storeA KN (by rfl) 33 _ _ rfl _ _ rfl _ rfl _ _ (by repeat (first | exact Repl.here | apply Repl.there)) (by (try simp only [Array.size_setIfInBounds, putL_size]); first | exact Nat.le_of_ble_eq_true rfl | (simp; omega)) (by kernel_rfl) (by kernel_rfl) ?_; clear KN; intro wx KN)) | ((refine gate_new (by rfl) ?_); first | (refine wpList_kn_boxA KN (by rfl) 35 _ rfl 2 rfl _ rfl ?_; clear KN; intro g2 wx hg2 KN) | (refine wpList_kn_alloc KN (by rfl) 35 rfl 4 rfl Vm.zero.cells (by kernel_rfl) ?_; clear KN; intro g4 wx hg4 KN) | (refine wpList_built rfl 35 #[] rfl Vm.zero.cells (by kernel_rfl) ?_) | (refine wpList_built rfl 33 #[] rfl Eff.none.cells (by kernel_rfl) ?_))))
  refine bodyPost_ret (results_ct Try.results22 _ _ _ ({ u with state := 0, wait := Eff.none } : Vm).cells _ rfl (load_vm (KN.at_ (by repeat (first | exact Has.here | refine Has.there ?_)))) rfl) rfl ⟨?_, KN.toBelow⟩
  unfold finV Vm.setRs Vm.setRs
  rw [HREG.out, Int.toNat_natCast, ← HU.out]
  rfl
theorem RFinish_any (v : Vm) (va : Value) (xs : List Int) (w : World) (ht : v.typed) (hx : U64s w va xs) :
    Calls Try.prog 22 #[.agg v.cells, va] w fun e w' => e = .returned (pairVal (finRes v xs)) ∧ Below w.heap.size w w' := by
  by_cases h : v.waitErr = 0
  · have hk := Vm.wait_kind h
    obtain ⟨wd, pc, st, ca, regs, ⟨kd, rg, nm, ad, vl⟩⟩ := v
    have hr0 : 0 ≤ rg := by simp only at hk; omega
    obtain ⟨R, rfl⟩ := Int.eq_ofNat_of_zero_le hr0
    have hk' : kd = 1 ∨ kd = 2 ∨ kd = 3 := by simp only at hk; omega
    simp only at hk
    cases hn : finOk kd xs.length with
    | false => rw [finRes_bad h hn]; exact RFinish_bad wd pc st ca regs kd nm ad vl R va xs w hk' ht hx h hn
    | true =>
      rw [finRes_ok h hn]
      rcases hk' with rfl | rfl | rfl
      · have h1 : xs.length = 1 := by simpa [finOk] using hn
        match xs, h1 with
        | [x], _ => exact RFinish_1 wd pc st ca regs nm ad vl R va x w ht hx h (by omega)
      · have h1 : xs = [] := by simpa [finOk] using hn
        have hR : R = 0 := by omega
        subst h1; subst hR
        exact RFinish_2 wd pc st ca regs nm ad vl va w ht hx h
      · have hR : R = 0 := by omega
        subst hR
        exact RFinish_3 wd pc st ca regs nm ad vl va xs w ht hx h (by simpa [finOk] using hn)
  · rw [finRes_no h]; exact RFinish_no v va xs w ht hx h
end
section
open Go.RowKit
theorem U64s.sub {w : World} {ad : Option Addr} {n cap : Nat} {xs : List Int} (h : U64s w (.slice ad n cap) xs) (k m : Nat) (h1 : k ≤ m) (h2 : m ≤ xs.length) : U64s w (sliced ad k m cap 1) ((xs.drop k).take (m - k)) := by
  refine ⟨?_, fun x hx => h.2 x (List.mem_of_mem_drop (List.mem_of_mem_take hx))⟩
  have := h.1.sub k m h1 (by simpa using h2)
  rw [List.map_take, List.map_drop]
  exact this
set_option maxRecDepth 100000 in
set_option maxHeartbeats 4000000 in
theorem steps_far (va vb vr vq : Value) (zs ys xs qs : List Int) (w : World) (hz : Ints w va zs) (hy : Ints w vb ys) (hx : U64s w vr xs) (hq : U64s w vq qs) (h : 100 < zs.length ∨ (zs.length ≤ 100 ∧ 200 < ys.length) ∨ (zs.length ≤ 100 ∧ ys.length ≤ 200 ∧ 20 < xs.length) ∨ (zs.length ≤ 100 ∧ ys.length ≤ 200 ∧ xs.length ≤ 20 ∧ 60 < qs.length)) :
    Calls Try.prog 7 #[va, vb, vr, vq] w fun e w' => e = .returned (.bool true) ∧ Below w.heap.size w w' := by
  have KN := Kn.start w
  obtain ⟨a1, c1, rfl, -⟩ := hz.form
  obtain ⟨a2, c2, rfl, -⟩ := hy.form
  obtain ⟨a3, c3, rfl, -⟩ := hx.form
  obtain ⟨a4, c4, rfl, -⟩ := hq.form
  clear hz hy hx hq
  rcases h with h | ⟨h1, h2⟩ | ⟨h1, h2, h3⟩ | ⟨h1, h2, h3, h4⟩
  all_goals
    go_enter Try.func7, Try.ntmps7
    go_wp2_with (first | (go_at_call 9; refine (awake_any _).mono ?_; rintro e wx ⟨rfl, hb1⟩; replace KN := KN.below hb1; clear hb1) | ((with_reducible refine wpList_gate ?_); first | ((refine gate_load (by rfl) ?_); first | (refine wpList_kn_load1 KN (by rfl) 3 _ rfl _ _ rfl _ _ (by repeat (first | exact Has.here | refine Has.there ?_)) _ (by (repeat (first | ((with_reducible refine get_hit ?_); exact Nat.le_of_ble_eq_true (by kernel_rfl)) | ((with_reducible refine (get_miss ?_).trans ?_); (focus kernel_rfl)) | ((with_reducible refine (get_pmiss ?_).trans ?_); (focus kernel_rfl)))); all_goals (conv => lhs; whnf; arg 1; whnf)) _ Try.underlying3 rfl ?_) | (refine wpList_kn_loadW KN (by rfl) 35 _ rfl _ rfl _ _ (by repeat (first | exact Has.here | refine Has.there ?_)) _ Try.underlying35 rfl (by kernel_rfl) ?_) | (refine wpList_kn_loadW KN (by rfl) 33 _ rfl _ rfl _ _ (by repeat (first | exact Has.here | refine Has.there ?_)) _ Try.underlying33 rfl (by kernel_rfl) ?_)) | ((refine gate_store (by rfl) ?_); first | (refine wpList_kn_storeW KN (by rfl) 35 _ _ rfl _ rfl _ rfl _ _ (by repeat (first | exact Repl.here | apply Repl.there)) (by kernel_rfl) (by kernel_rfl) (by kernel_rfl) ?_; clear KN; intro wx KN) | (refine wpList_kn_storeA KN (by rfl) 35 _ _ rfl _ _ rfl _ rfl _ _ (by repeat (first | exact Repl.here | apply Repl.there)) (by (try simp only [Array.size_setIfInBounds, putL_size]); first | exact Nat.le_of_ble_eq_true rfl | (simp; omega)) (by kernel_rfl) (by kernel_rfl) ?_; clear KN; intro wx KN) | (refine wpList_kn_storeW KN (by rfl) 33 _ _ rfl _ rfl _ rfl _ _ (by repeat (first | exact Repl.here | apply Repl.there)) (by kernel_rfl) (by kernel_rfl) (by kernel_rfl) ?_; clear KN; intro wx KN) | (refine wpList_kn_storeA KN (by rfl) 33 _ _ rfl _ _ rfl _ rfl _ _ (by repeat (first | exact Repl.here | apply Repl.there)) (by (try simp only [Array.size_setIfInBounds, putL_size]); first | exact Nat.le_of_ble_eq_true rfl | (simp; omega)) (by kernel_rfl) (by kernel_rfl) ?_; clear KN; intro wx KN)) | ((refine gate_new (by rfl) ?_); first | (refine wpList_kn_alloc KN (by rfl) 35 rfl 10 rfl Vm.zero.cells (by kernel_rfl) ?_; clear KN; intro g10 wx hg10 KN) | (refine wpList_kn_alloc KN (by rfl) 35 rfl 13 rfl Vm.zero.cells (by kernel_rfl) ?_; clear KN; intro g13 wx hg13 KN) | (refine wpList_kn_alloc KN (by rfl) 33 rfl 14 rfl Eff.none.cells (by kernel_rfl) ?_; clear KN; intro g14 wx hg14 KN) | (refine wpList_kn_alloc KN (by rfl) 35 rfl 16 rfl Vm.zero.cells (by kernel_rfl) ?_; clear KN; intro g16 wx hg16 KN) | (refine wpList_kn_alloc KN (by rfl) 33 rfl 17 rfl Eff.none.cells (by kernel_rfl) ?_; clear KN; intro g17 wx hg17 KN) | (refine wpList_kn_alloc KN (by rfl) 35 rfl 19 rfl Vm.zero.cells (by kernel_rfl) ?_; clear KN; intro g19 wx hg19 KN) | (refine wpList_kn_alloc KN (by rfl) 35 rfl 21 rfl Vm.zero.cells (by kernel_rfl) ?_; clear KN; intro g21 wx hg21 KN) | (refine wpList_kn_alloc KN (by rfl) 35 rfl 24 rfl Vm.zero.cells (by kernel_rfl) ?_; clear KN; intro g24 wx hg24 KN) | (refine wpList_kn_alloc KN (by rfl) 35 rfl 26 rfl Vm.zero.cells (by kernel_rfl) ?_; clear KN; intro g26 wx hg26 KN))))
    go_ret
    exact ⟨rfl, KN.toBelow⟩
def StepsRel (L : Nat) (w : World) (g10 : Nat) (l : Ents) (nx i : Value) (wr : World) : Prop :=
  ∃ (j k : Nat) (u : Vm), i = .int .i64 (j : Int) ∧ j ≤ 60 ∧ nx = .int .i64 (k : Int) ∧ k ≤ L ∧ VG u ∧ Kn [] w wr ((g10, At u.cells 35) :: l)
set_option maxRecDepth 100000 in
set_option maxHeartbeats 40000000 in
theorem steps_near (va vb vr vq : Value) (zs ys xs qs : List Int) (w : World) (hz : Ints w va zs) (hy : Ints w vb ys) (hx : U64s w vr xs) (hq : U64s w vq qs) (h1 : zs.length ≤ 100) (h2 : ys.length ≤ 200) (h3 : xs.length ≤ 20) (h4 : qs.length ≤ 60) :
    Calls Try.prog 7 #[va, vb, vr, vq] w fun e w' => e = .returned (.bool true) ∧ Below w.heap.size w w' := by
  have KN := Kn.start w
  obtain ⟨a1, c1, rfl, -⟩ := hz.form
  obtain ⟨a2, c2, rfl, -⟩ := hy.form
  obtain ⟨a3, c3, rfl, -⟩ := hx.form
  have hqc : ∃ a c, vq = .slice a qs.length c ∧ qs.length ≤ c := by
    have := hq.1.2
    rcases this with ⟨hL, a, c, rfl⟩ | ⟨g, off, cap, rfl, _, hc, _⟩
    · have : qs = [] := by simpa using hL
      subst this
      exact ⟨a, c, rfl, Nat.zero_le _⟩
    · rw [List.length_map] at hc
      exact ⟨_, cap, by rw [List.length_map], hc⟩
  obtain ⟨a4, c4, rfl, hc4⟩ := hqc
  have HZ := Lib.hid hz
  have HY := Lib.hid hy
  have HX := Lib.hid hx
  have HQ := Lib.hid hq
  obtain ⟨L, hL⟩ : ∃ L, L = qs.length := ⟨_, rfl⟩
  rw [← hL] at h4 hc4 ⊢
  have HL := Lib.hid hL
  clear hz hy hx hq hL
  go_enter Try.func7, Try.ntmps7
  go_wp2_with (first | (go_at_call 10; refine (Program_any _ _ _ HY.out).mono ?_; rintro e wx ⟨gp, cap, p, rfl, q1, q2, q3, q4, q5, q6, K2⟩; replace KN := KN.call0 K2; clear K2; rw [ent_app] at KN) | (go_at_call 15; refine (Machine_any _ _ _ _ _ _ (HZ.out.below KN.toBelow) (HX.out.below KN.toBelow) (by omega) (by omega)).mono ?_; rintro e wx ⟨v, rfl, v1, v2, v3, hb1⟩; replace KN := KN.below hb1; clear hb1) | ((with_reducible refine wpList_gate ?_); first | ((refine gate_load (by rfl) ?_); first | (refine wpList_kn_load1 KN (by rfl) 3 _ rfl _ _ rfl _ _ (by repeat (first | exact Has.here | refine Has.there ?_)) _ (by (repeat (first | ((with_reducible refine get_hit ?_); exact Nat.le_of_ble_eq_true (by kernel_rfl)) | ((with_reducible refine (get_miss ?_).trans ?_); (focus kernel_rfl)) | ((with_reducible refine (get_pmiss ?_).trans ?_); (focus kernel_rfl)))); all_goals (conv => lhs; whnf; arg 1; whnf)) _ Try.underlying3 rfl ?_) | (refine wpList_kn_loadW KN (by rfl) 35 _ rfl _ rfl _ _ (by repeat (first | exact Has.here | refine Has.there ?_)) _ Try.underlying35 rfl (by kernel_rfl) ?_) | (refine wpList_kn_loadW KN (by rfl) 33 _ rfl _ rfl _ _ (by repeat (first | exact Has.here | refine Has.there ?_)) _ Try.underlying33 rfl (by kernel_rfl) ?_)) | ((refine gate_store (by rfl) ?_); first | (refine wpList_kn_storeW KN (by rfl) 35 _ _ rfl _ rfl _ rfl _ _ (by repeat (first | exact Repl.here | apply Repl.there)) (by kernel_rfl) (by kernel_rfl) (by kernel_rfl) ?_; clear KN; intro wx KN) | (refine wpList_kn_storeA KN (by rfl) 35 _ _ rfl _ _ rfl _ rfl _ _ (by repeat (first | exact Repl.here | apply Repl.there)) (by (try simp only [Array.size_setIfInBounds, putL_size]); first | exact Nat.le_of_ble_eq_true rfl | (simp; omega)) (by kernel_rfl) (by kernel_rfl) ?_; clear KN; intro wx KN) | (refine wpList_kn_storeW KN (by rfl) 33 _ _ rfl _ rfl _ rfl _ _ (by repeat (first | exact Repl.here | apply Repl.there)) (by kernel_rfl) (by kernel_rfl) (by kernel_rfl) ?_; clear KN; intro wx KN) | (refine wpList_kn_storeA KN (by rfl) 33 _ _ rfl _ _ rfl _ rfl _ _ (by repeat (first | exact Repl.here | apply Repl.there)) (by (try simp only [Array.size_setIfInBounds, putL_size]); first | exact Nat.le_of_ble_eq_true rfl | (simp; omega)) (by kernel_rfl) (by kernel_rfl) ?_; clear KN; intro wx KN)) | ((refine gate_new (by rfl) ?_); first | (refine wpList_kn_alloc KN (by rfl) 35 rfl 10 rfl Vm.zero.cells (by kernel_rfl) ?_; clear KN; intro g10 wx hg10 KN) | (refine wpList_kn_alloc KN (by rfl) 35 rfl 13 rfl Vm.zero.cells (by kernel_rfl) ?_; clear KN; intro g13 wx hg13 KN) | (refine wpList_kn_alloc KN (by rfl) 33 rfl 14 rfl Eff.none.cells (by kernel_rfl) ?_; clear KN; intro g14 wx hg14 KN) | (refine wpList_kn_alloc KN (by rfl) 35 rfl 16 rfl Vm.zero.cells (by kernel_rfl) ?_; clear KN; intro g16 wx hg16 KN) | (refine wpList_kn_alloc KN (by rfl) 33 rfl 17 rfl Eff.none.cells (by kernel_rfl) ?_; clear KN; intro g17 wx hg17 KN) | (refine wpList_kn_alloc KN (by rfl) 35 rfl 19 rfl Vm.zero.cells (by kernel_rfl) ?_; clear KN; intro g19 wx hg19 KN) | (refine wpList_kn_alloc KN (by rfl) 35 rfl 21 rfl Vm.zero.cells (by kernel_rfl) ?_; clear KN; intro g21 wx hg21 KN) | (refine wpList_kn_alloc KN (by rfl) 35 rfl 24 rfl Vm.zero.cells (by kernel_rfl) ?_; clear KN; intro g24 wx hg24 KN) | (refine wpList_kn_alloc KN (by rfl) 35 rfl 26 rfl Vm.zero.cells (by kernel_rfl) ?_; clear KN; intro g26 wx hg26 KN))))
  have GP := Lib.hid (progErr_good q5 q6)
  have Q1 := Lib.hid q1
  have Q2 := Lib.hid q2
  have Q5 := Lib.hid q5
  have Q6 := Lib.hid q6
  have HREL : Hid (StepsRel L w g10 [(gp, CapAt 29 5 cap (p.map fun x => x.cells.toList))] (.int .i64 0) (.int .i64 0) wx) := Lib.hid ⟨0, 0, v, rfl, Nat.zero_le _, rfl, Nat.zero_le _, v1, KN⟩
  clear KN v1 v2 v3 q1 q2 q5 q6
  go_loopw [11, 12] (fun nx i wr => StepsRel L w g10 [(gp, CapAt 29 5 cap (p.map fun x => x.cells.toList))] nx i wr) (fun _ i _ => 60 - (intOf i).toNat)
  case atStart => exact HREL.out
  case round =>
    obtain ⟨j, k, u, rfl, hj, rfl, hk, vu, KN⟩ := hrel
    have VU := Lib.hid vu
    by_cases hgo : j < 60 ∧ u.state = 0
    · obtain ⟨hlt, hs⟩ := hgo
      have us : (u.state == 0) = true := by rw [beq_iff_eq]; exact hs
      have sr := stepRes_ok (vu.check hs Q5.out)
      obtain ⟨va, af⟩ := vu.step hs GP.out
      obtain ⟨a, x, hax⟩ : ∃ a x, stepS u p = (a, x) := ⟨_, _, rfl⟩
      rw [hax] at sr va af
      have SR : Hid (stepRes u p = (a, x, 0)) := Lib.hid sr
      have VA : Hid (VG a) := Lib.hid va
      have hst := af.noState
      simp only at hst
      have AF := Lib.hid af
      clear sr va af hax hs vu
      by_cases hw : a.state = 1
      · have ast : (a.state != 1) = false := by rw [bne_eq_false_iff_eq]; exact hw
        by_cases hn : L ≤ k
        · have ft := VA.out.fault hw
          obtain ⟨fv, hfv⟩ : ∃ fv : Vm, fv = { a with pc := a.pc - 1, state := 3, cause := 4, wait := Eff.none } := ⟨_, rfl⟩
          have fs : (fv.state == 3) = true := by rw [hfv]; rfl
          rw [← hfv] at ft
          have FT := Lib.hid ft
          clear ft hfv hst hw
          go_wp2_with (first | (go_at_call 13; refine (Step_any _ _ p _ VU.out.typed (Instrs.of_kn KN (by repeat (first | exact Has.here | refine Has.there ?_)) Q1.out Q2.out Q6.out)).mono ?_; rintro e wx ⟨rfl, hb1⟩; replace KN := KN.below hb1; clear hb1; rw [SR.out]; unfold stepVal) | (go_at_call 17; refine (RStep_any _ _ p _ VU.out.typed (Instrs.of_kn KN (by repeat (first | exact Has.here | refine Has.there ?_)) Q1.out Q2.out Q6.out)).mono ?_; rintro e wx ⟨rfl, hb1⟩; replace KN := KN.below hb1; clear hb1; rw [SR.out]; unfold stepVal) | (go_at_call 18; refine (Valid_any _ _ (by first | exact VA.out.typed | exact VC.out.typed)).mono ?_; rintro e wx ⟨rfl, hb1⟩; replace KN := KN.below hb1; clear hb1; first | rw [VA.out.ok] | rw [VC.out.ok]) | (go_at_call 19; refine (Fault_any a _ VA.out.typed).mono ?_; rintro e wx ⟨rfl, hb1⟩; replace KN := KN.below hb1; clear hb1; rw [FT.out]; unfold pairVal) | (go_at_call 20; refine (RFault_any a _ VA.out.typed).mono ?_; rintro e wx ⟨rfl, hb1⟩; replace KN := KN.below hb1; clear hb1; rw [FT.out]; unfold pairVal) | (go_at_call 9; refine (awake_any _).mono ?_; rintro e wx ⟨rfl, hb1⟩; replace KN := KN.below hb1; clear hb1) | ((with_reducible refine wpList_gate ?_); first | ((refine gate_load (by rfl) ?_); first | (refine wpList_kn_load1 KN (by rfl) 3 _ rfl _ _ rfl _ _ (by repeat (first | exact Has.here | refine Has.there ?_)) _ (by (repeat (first | ((with_reducible refine get_hit ?_); exact Nat.le_of_ble_eq_true (by kernel_rfl)) | ((with_reducible refine (get_miss ?_).trans ?_); (focus kernel_rfl)) | ((with_reducible refine (get_pmiss ?_).trans ?_); (focus kernel_rfl)))); all_goals (conv => lhs; whnf; arg 1; whnf)) _ Try.underlying3 rfl ?_) | (refine wpList_kn_loadW KN (by rfl) 35 _ rfl _ rfl _ _ (by repeat (first | exact Has.here | refine Has.there ?_)) _ Try.underlying35 rfl (by kernel_rfl) ?_) | (refine wpList_kn_loadW KN (by rfl) 33 _ rfl _ rfl _ _ (by repeat (first | exact Has.here | refine Has.there ?_)) _ Try.underlying33 rfl (by kernel_rfl) ?_)) | ((refine gate_store (by rfl) ?_); first | (refine wpList_kn_storeW KN (by rfl) 35 _ _ rfl _ rfl _ rfl _ _ (by repeat (first | exact Repl.here | apply Repl.there)) (by kernel_rfl) (by kernel_rfl) (by kernel_rfl) ?_; clear KN; intro wx KN) | (refine wpList_kn_storeA KN (by rfl) 35 _ _ rfl _ _ rfl _ rfl _ _ (by repeat (first | exact Repl.here | apply Repl.there)) (by (try simp only [Array.size_setIfInBounds, putL_size]); first | exact Nat.le_of_ble_eq_true rfl | (simp; omega)) (by kernel_rfl) (by kernel_rfl) ?_; clear KN; intro wx KN) | (refine wpList_kn_storeW KN (by rfl) 33 _ _ rfl _ rfl _ rfl _ _ (by repeat (first | exact Repl.here | apply Repl.there)) (by kernel_rfl) (by kernel_rfl) (by kernel_rfl) ?_; clear KN; intro wx KN) | (refine wpList_kn_storeA KN (by rfl) 33 _ _ rfl _ _ rfl _ rfl _ _ (by repeat (first | exact Repl.here | apply Repl.there)) (by (try simp only [Array.size_setIfInBounds, putL_size]); first | exact Nat.le_of_ble_eq_true rfl | (simp; omega)) (by kernel_rfl) (by kernel_rfl) ?_; clear KN; intro wx KN)) | ((refine gate_new (by rfl) ?_); first | (refine wpList_kn_alloc KN (by rfl) 35 rfl 10 rfl Vm.zero.cells (by kernel_rfl) ?_; clear KN; intro g10 wx hg10 KN) | (refine wpList_kn_alloc KN (by rfl) 35 rfl 13 rfl Vm.zero.cells (by kernel_rfl) ?_; clear KN; intro g13 wx hg13 KN) | (refine wpList_kn_alloc KN (by rfl) 33 rfl 14 rfl Eff.none.cells (by kernel_rfl) ?_; clear KN; intro g14 wx hg14 KN) | (refine wpList_kn_alloc KN (by rfl) 35 rfl 16 rfl Vm.zero.cells (by kernel_rfl) ?_; clear KN; intro g16 wx hg16 KN) | (refine wpList_kn_alloc KN (by rfl) 33 rfl 17 rfl Eff.none.cells (by kernel_rfl) ?_; clear KN; intro g17 wx hg17 KN) | (refine wpList_kn_alloc KN (by rfl) 35 rfl 19 rfl Vm.zero.cells (by kernel_rfl) ?_; clear KN; intro g19 wx hg19 KN) | (refine wpList_kn_alloc KN (by rfl) 35 rfl 21 rfl Vm.zero.cells (by kernel_rfl) ?_; clear KN; intro g21 wx hg21 KN) | (refine wpList_kn_alloc KN (by rfl) 35 rfl 24 rfl Vm.zero.cells (by kernel_rfl) ?_; clear KN; intro g24 wx hg24 KN) | (refine wpList_kn_alloc KN (by rfl) 35 rfl 26 rfl Vm.zero.cells (by kernel_rfl) ?_; clear KN; intro g26 wx hg26 KN)) | ((refine gate_cmp (by rfl) ?_); first | (refine wpList_kn_neq (by rfl) 35 _ _ _ rfl _ rfl rfl (by kernel_rfl) (by kernel_rfl) ?_) | (refine wpList_kn_neq (by rfl) 33 _ _ _ rfl _ rfl rfl (by kernel_rfl) (by kernel_rfl) ?_) | (refine wpList_kn_eql (by rfl) 35 _ _ _ rfl _ rfl rfl (by kernel_rfl) (by kernel_rfl) ?_))))
          go_ret
          exact ⟨rfl, KN.toBelow⟩
        · have hkd := VA.out.kind hw
          have HW := Lib.hid hw
          have hkL : k < L := by omega
          have HKL := Lib.hid hkL
          clear hw hst hn
          have KD := Lib.hid hkd
          clear hkd
          go_upto_region 20 with (first | (go_at_call 13; refine (Step_any _ _ p _ VU.out.typed (Instrs.of_kn KN (by repeat (first | exact Has.here | refine Has.there ?_)) Q1.out Q2.out Q6.out)).mono ?_; rintro e wx ⟨rfl, hb1⟩; replace KN := KN.below hb1; clear hb1; rw [SR.out]; unfold stepVal) | (go_at_call 17; refine (RStep_any _ _ p _ VU.out.typed (Instrs.of_kn KN (by repeat (first | exact Has.here | refine Has.there ?_)) Q1.out Q2.out Q6.out)).mono ?_; rintro e wx ⟨rfl, hb1⟩; replace KN := KN.below hb1; clear hb1; rw [SR.out]; unfold stepVal) | (go_at_call 18; refine (Valid_any _ _ (by first | exact VA.out.typed | exact VC.out.typed)).mono ?_; rintro e wx ⟨rfl, hb1⟩; replace KN := KN.below hb1; clear hb1; first | rw [VA.out.ok] | rw [VC.out.ok]) | ((with_reducible refine wpList_gate ?_); first | ((refine gate_load (by rfl) ?_); first | (refine wpList_kn_load1 KN (by rfl) 3 _ rfl _ _ rfl _ _ (by repeat (first | exact Has.here | refine Has.there ?_)) _ (by (repeat (first | ((with_reducible refine get_hit ?_); exact Nat.le_of_ble_eq_true (by kernel_rfl)) | ((with_reducible refine (get_miss ?_).trans ?_); (focus kernel_rfl)) | ((with_reducible refine (get_pmiss ?_).trans ?_); (focus kernel_rfl)))); all_goals (conv => lhs; whnf; arg 1; whnf)) _ Try.underlying3 rfl ?_) | (refine wpList_kn_loadW KN (by rfl) 35 _ rfl _ rfl _ _ (by repeat (first | exact Has.here | refine Has.there ?_)) _ Try.underlying35 rfl (by kernel_rfl) ?_) | (refine wpList_kn_loadW KN (by rfl) 33 _ rfl _ rfl _ _ (by repeat (first | exact Has.here | refine Has.there ?_)) _ Try.underlying33 rfl (by kernel_rfl) ?_)) | ((refine gate_store (by rfl) ?_); first | (refine wpList_kn_storeW KN (by rfl) 35 _ _ rfl _ rfl _ rfl _ _ (by repeat (first | exact Repl.here | apply Repl.there)) (by kernel_rfl) (by kernel_rfl) (by kernel_rfl) ?_; clear KN; intro wx KN) | (refine wpList_kn_storeA KN (by rfl) 35 _ _ rfl _ _ rfl _ rfl _ _ (by repeat (first | exact Repl.here | apply Repl.there)) (by (try simp only [Array.size_setIfInBounds, putL_size]); first | exact Nat.le_of_ble_eq_true rfl | (simp; omega)) (by kernel_rfl) (by kernel_rfl) ?_; clear KN; intro wx KN) | (refine wpList_kn_storeW KN (by rfl) 33 _ _ rfl _ rfl _ rfl _ _ (by repeat (first | exact Repl.here | apply Repl.there)) (by kernel_rfl) (by kernel_rfl) (by kernel_rfl) ?_; clear KN; intro wx KN) | (refine wpList_kn_storeA KN (by rfl) 33 _ _ rfl _ _ rfl _ rfl _ _ (by repeat (first | exact Repl.here | apply Repl.there)) (by (try simp only [Array.size_setIfInBounds, putL_size]); first | exact Nat.le_of_ble_eq_true rfl | (simp; omega)) (by kernel_rfl) (by kernel_rfl) ?_; clear KN; intro wx KN)) | ((refine gate_new (by rfl) ?_); first | (refine wpList_kn_alloc KN (by rfl) 35 rfl 10 rfl Vm.zero.cells (by kernel_rfl) ?_; clear KN; intro g10 wx hg10 KN) | (refine wpList_kn_alloc KN (by rfl) 35 rfl 13 rfl Vm.zero.cells (by kernel_rfl) ?_; clear KN; intro g13 wx hg13 KN) | (refine wpList_kn_alloc KN (by rfl) 33 rfl 14 rfl Eff.none.cells (by kernel_rfl) ?_; clear KN; intro g14 wx hg14 KN) | (refine wpList_kn_alloc KN (by rfl) 35 rfl 16 rfl Vm.zero.cells (by kernel_rfl) ?_; clear KN; intro g16 wx hg16 KN) | (refine wpList_kn_alloc KN (by rfl) 33 rfl 17 rfl Eff.none.cells (by kernel_rfl) ?_; clear KN; intro g17 wx hg17 KN) | (refine wpList_kn_alloc KN (by rfl) 35 rfl 19 rfl Vm.zero.cells (by kernel_rfl) ?_; clear KN; intro g19 wx hg19 KN) | (refine wpList_kn_alloc KN (by rfl) 35 rfl 21 rfl Vm.zero.cells (by kernel_rfl) ?_; clear KN; intro g21 wx hg21 KN) | (refine wpList_kn_alloc KN (by rfl) 35 rfl 24 rfl Vm.zero.cells (by kernel_rfl) ?_; clear KN; intro g24 wx hg24 KN) | (refine wpList_kn_alloc KN (by rfl) 35 rfl 26 rfl Vm.zero.cells (by kernel_rfl) ?_; clear KN; intro g26 wx hg26 KN)) | ((refine gate_cmp (by rfl) ?_); first | (refine wpList_kn_neq (by rfl) 35 _ _ _ rfl _ rfl rfl (by kernel_rfl) (by kernel_rfl) ?_) | (refine wpList_kn_neq (by rfl) 33 _ _ _ rfl _ rfl rfl (by kernel_rfl) (by kernel_rfl) ?_))))
          go_cut [23, 131] (fun s23 s131 wz => ∃ z : Int, z = 1 ∧ s23 = .int .i64 z ∧ s131 = .int .i64 a.wait.kind ∧ Kn [] w wz [(g17, At x.cells 33), (g16, At a.cells 35), (g14, At x.cells 33), (g13, At a.cells 35), (g10, At a.cells 35), (gp, CapAt 29 5 cap (p.map fun x => x.cells.toList))])
          case first =>
            go_wp2_with (first | ((with_reducible refine wpList_gate ?_); first | ((refine gate_load (by rfl) ?_); first | (refine wpList_kn_load1 KN (by rfl) 3 _ rfl _ _ rfl _ _ (by repeat (first | exact Has.here | refine Has.there ?_)) _ (by (repeat (first | ((with_reducible refine get_hit ?_); exact Nat.le_of_ble_eq_true (by kernel_rfl)) | ((with_reducible refine (get_miss ?_).trans ?_); (focus kernel_rfl)) | ((with_reducible refine (get_pmiss ?_).trans ?_); (focus kernel_rfl)))); all_goals (conv => lhs; whnf; arg 1; whnf)) _ Try.underlying3 rfl ?_) | (refine wpList_kn_loadW KN (by rfl) 35 _ rfl _ rfl _ _ (by repeat (first | exact Has.here | refine Has.there ?_)) _ Try.underlying35 rfl (by kernel_rfl) ?_) | (refine wpList_kn_loadW KN (by rfl) 33 _ rfl _ rfl _ _ (by repeat (first | exact Has.here | refine Has.there ?_)) _ Try.underlying33 rfl (by kernel_rfl) ?_)) | ((refine gate_store (by rfl) ?_); first | (refine wpList_kn_storeW KN (by rfl) 35 _ _ rfl _ rfl _ rfl _ _ (by repeat (first | exact Repl.here | apply Repl.there)) (by kernel_rfl) (by kernel_rfl) (by kernel_rfl) ?_; clear KN; intro wx KN) | (refine wpList_kn_storeA KN (by rfl) 35 _ _ rfl _ _ rfl _ rfl _ _ (by repeat (first | exact Repl.here | apply Repl.there)) (by (try simp only [Array.size_setIfInBounds, putL_size]); first | exact Nat.le_of_ble_eq_true rfl | (simp; omega)) (by kernel_rfl) (by kernel_rfl) ?_; clear KN; intro wx KN) | (refine wpList_kn_storeW KN (by rfl) 33 _ _ rfl _ rfl _ rfl _ _ (by repeat (first | exact Repl.here | apply Repl.there)) (by kernel_rfl) (by kernel_rfl) (by kernel_rfl) ?_; clear KN; intro wx KN) | (refine wpList_kn_storeA KN (by rfl) 33 _ _ rfl _ _ rfl _ rfl _ _ (by repeat (first | exact Repl.here | apply Repl.there)) (by (try simp only [Array.size_setIfInBounds, putL_size]); first | exact Nat.le_of_ble_eq_true rfl | (simp; omega)) (by kernel_rfl) (by kernel_rfl) ?_; clear KN; intro wx KN)) | ((refine gate_new (by rfl) ?_); first | (refine wpList_kn_alloc KN (by rfl) 35 rfl 10 rfl Vm.zero.cells (by kernel_rfl) ?_; clear KN; intro g10 wx hg10 KN) | (refine wpList_kn_alloc KN (by rfl) 35 rfl 13 rfl Vm.zero.cells (by kernel_rfl) ?_; clear KN; intro g13 wx hg13 KN) | (refine wpList_kn_alloc KN (by rfl) 33 rfl 14 rfl Eff.none.cells (by kernel_rfl) ?_; clear KN; intro g14 wx hg14 KN) | (refine wpList_kn_alloc KN (by rfl) 35 rfl 16 rfl Vm.zero.cells (by kernel_rfl) ?_; clear KN; intro g16 wx hg16 KN) | (refine wpList_kn_alloc KN (by rfl) 33 rfl 17 rfl Eff.none.cells (by kernel_rfl) ?_; clear KN; intro g17 wx hg17 KN) | (refine wpList_kn_alloc KN (by rfl) 35 rfl 19 rfl Vm.zero.cells (by kernel_rfl) ?_; clear KN; intro g19 wx hg19 KN) | (refine wpList_kn_alloc KN (by rfl) 35 rfl 21 rfl Vm.zero.cells (by kernel_rfl) ?_; clear KN; intro g21 wx hg21 KN) | (refine wpList_kn_alloc KN (by rfl) 35 rfl 24 rfl Vm.zero.cells (by kernel_rfl) ?_; clear KN; intro g24 wx hg24 KN) | (refine wpList_kn_alloc KN (by rfl) 35 rfl 26 rfl Vm.zero.cells (by kernel_rfl) ?_; clear KN; intro g26 wx hg26 KN))))
            go_meet
            exact ⟨_, rfl, rfl, rfl, KN⟩
          case' rest =>
            clear KN
            obtain ⟨z, rfl, rfl, rfl, KN⟩ := hcut
            go_step
          go_cut [23] (fun s23 wz => ∃ n : Nat, s23 = .int .i64 (n : Int) ∧ finOk a.wait.kind n = true ∧ n ≤ L - k ∧ Kn [] w wz [(g17, At x.cells 33), (g16, At a.cells 35), (g14, At x.cells 33), (g13, At a.cells 35), (g10, At a.cells 35), (gp, CapAt 29 5 cap (p.map fun x => x.cells.toList))])
          case first =>
            have hcs : (a.wait.kind = 1) ∨ (a.wait.kind = 2) ∨ (a.wait.kind = 3 ∧ 4 ≤ L - k) ∨ (a.wait.kind = 3 ∧ L - k < 4) := by have := KD.out; omega
            rcases hcs with hkd | hkd | ⟨hkd, hmn⟩ | ⟨hkd, hmn⟩
            · have k2 : (a.wait.kind == 2) = false := by rw [hkd]; rfl
              have k3 : (a.wait.kind == 3) = false := by rw [hkd]; rfl
              have HKD := Lib.hid hkd
              clear hkd
              go_wp2_with (first | ((with_reducible refine wpList_gate ?_); first | ((refine gate_load (by rfl) ?_); first | (refine wpList_kn_load1 KN (by rfl) 3 _ rfl _ _ rfl _ _ (by repeat (first | exact Has.here | refine Has.there ?_)) _ (by (repeat (first | ((with_reducible refine get_hit ?_); exact Nat.le_of_ble_eq_true (by kernel_rfl)) | ((with_reducible refine (get_miss ?_).trans ?_); (focus kernel_rfl)) | ((with_reducible refine (get_pmiss ?_).trans ?_); (focus kernel_rfl)))); all_goals (conv => lhs; whnf; arg 1; whnf)) _ Try.underlying3 rfl ?_) | (refine wpList_kn_loadW KN (by rfl) 35 _ rfl _ rfl _ _ (by repeat (first | exact Has.here | refine Has.there ?_)) _ Try.underlying35 rfl (by kernel_rfl) ?_) | (refine wpList_kn_loadW KN (by rfl) 33 _ rfl _ rfl _ _ (by repeat (first | exact Has.here | refine Has.there ?_)) _ Try.underlying33 rfl (by kernel_rfl) ?_)) | ((refine gate_store (by rfl) ?_); first | (refine wpList_kn_storeW KN (by rfl) 35 _ _ rfl _ rfl _ rfl _ _ (by repeat (first | exact Repl.here | apply Repl.there)) (by kernel_rfl) (by kernel_rfl) (by kernel_rfl) ?_; clear KN; intro wx KN) | (refine wpList_kn_storeA KN (by rfl) 35 _ _ rfl _ _ rfl _ rfl _ _ (by repeat (first | exact Repl.here | apply Repl.there)) (by (try simp only [Array.size_setIfInBounds, putL_size]); first | exact Nat.le_of_ble_eq_true rfl | (simp; omega)) (by kernel_rfl) (by kernel_rfl) ?_; clear KN; intro wx KN) | (refine wpList_kn_storeW KN (by rfl) 33 _ _ rfl _ rfl _ rfl _ _ (by repeat (first | exact Repl.here | apply Repl.there)) (by kernel_rfl) (by kernel_rfl) (by kernel_rfl) ?_; clear KN; intro wx KN) | (refine wpList_kn_storeA KN (by rfl) 33 _ _ rfl _ _ rfl _ rfl _ _ (by repeat (first | exact Repl.here | apply Repl.there)) (by (try simp only [Array.size_setIfInBounds, putL_size]); first | exact Nat.le_of_ble_eq_true rfl | (simp; omega)) (by kernel_rfl) (by kernel_rfl) ?_; clear KN; intro wx KN)) | ((refine gate_new (by rfl) ?_); first | (refine wpList_kn_alloc KN (by rfl) 35 rfl 10 rfl Vm.zero.cells (by kernel_rfl) ?_; clear KN; intro g10 wx hg10 KN) | (refine wpList_kn_alloc KN (by rfl) 35 rfl 13 rfl Vm.zero.cells (by kernel_rfl) ?_; clear KN; intro g13 wx hg13 KN) | (refine wpList_kn_alloc KN (by rfl) 33 rfl 14 rfl Eff.none.cells (by kernel_rfl) ?_; clear KN; intro g14 wx hg14 KN) | (refine wpList_kn_alloc KN (by rfl) 35 rfl 16 rfl Vm.zero.cells (by kernel_rfl) ?_; clear KN; intro g16 wx hg16 KN) | (refine wpList_kn_alloc KN (by rfl) 33 rfl 17 rfl Eff.none.cells (by kernel_rfl) ?_; clear KN; intro g17 wx hg17 KN) | (refine wpList_kn_alloc KN (by rfl) 35 rfl 19 rfl Vm.zero.cells (by kernel_rfl) ?_; clear KN; intro g19 wx hg19 KN) | (refine wpList_kn_alloc KN (by rfl) 35 rfl 21 rfl Vm.zero.cells (by kernel_rfl) ?_; clear KN; intro g21 wx hg21 KN) | (refine wpList_kn_alloc KN (by rfl) 35 rfl 24 rfl Vm.zero.cells (by kernel_rfl) ?_; clear KN; intro g24 wx hg24 KN) | (refine wpList_kn_alloc KN (by rfl) 35 rfl 26 rfl Vm.zero.cells (by kernel_rfl) ?_; clear KN; intro g26 wx hg26 KN))))
              go_meet
              have hkL2 := HKL.out
              exact ⟨1, by go_num, by rw [HKD.out]; rfl, by omega, KN⟩
            · have k2 : (a.wait.kind == 2) = true := by rw [hkd]; rfl
              have k3 : (a.wait.kind == 3) = false := by rw [hkd]; rfl
              have HKD := Lib.hid hkd
              clear hkd
              go_wp2_with (first | ((with_reducible refine wpList_gate ?_); first | ((refine gate_load (by rfl) ?_); first | (refine wpList_kn_load1 KN (by rfl) 3 _ rfl _ _ rfl _ _ (by repeat (first | exact Has.here | refine Has.there ?_)) _ (by (repeat (first | ((with_reducible refine get_hit ?_); exact Nat.le_of_ble_eq_true (by kernel_rfl)) | ((with_reducible refine (get_miss ?_).trans ?_); (focus kernel_rfl)) | ((with_reducible refine (get_pmiss ?_).trans ?_); (focus kernel_rfl)))); all_goals (conv => lhs; whnf; arg 1; whnf)) _ Try.underlying3 rfl ?_) | (refine wpList_kn_loadW KN (by rfl) 35 _ rfl _ rfl _ _ (by repeat (first | exact Has.here | refine Has.there ?_)) _ Try.underlying35 rfl (by kernel_rfl) ?_) | (refine wpList_kn_loadW KN (by rfl) 33 _ rfl _ rfl _ _ (by repeat (first | exact Has.here | refine Has.there ?_)) _ Try.underlying33 rfl (by kernel_rfl) ?_)) | ((refine gate_store (by rfl) ?_); first | (refine wpList_kn_storeW KN (by rfl) 35 _ _ rfl _ rfl _ rfl _ _ (by repeat (first | exact Repl.here | apply Repl.there)) (by kernel_rfl) (by kernel_rfl) (by kernel_rfl) ?_; clear KN; intro wx KN) | (refine wpList_kn_storeA KN (by rfl) 35 _ _ rfl _ _ rfl _ rfl _ _ (by repeat (first | exact Repl.here | apply Repl.there)) (by (try simp only [Array.size_setIfInBounds, putL_size]); first | exact Nat.le_of_ble_eq_true rfl | (simp; omega)) (by kernel_rfl) (by kernel_rfl) ?_; clear KN; intro wx KN) | (refine wpList_kn_storeW KN (by rfl) 33 _ _ rfl _ rfl _ rfl _ _ (by repeat (first | exact Repl.here | apply Repl.there)) (by kernel_rfl) (by kernel_rfl) (by kernel_rfl) ?_; clear KN; intro wx KN) | (refine wpList_kn_storeA KN (by rfl) 33 _ _ rfl _ _ rfl _ rfl _ _ (by repeat (first | exact Repl.here | apply Repl.there)) (by (try simp only [Array.size_setIfInBounds, putL_size]); first | exact Nat.le_of_ble_eq_true rfl | (simp; omega)) (by kernel_rfl) (by kernel_rfl) ?_; clear KN; intro wx KN)) | ((refine gate_new (by rfl) ?_); first | (refine wpList_kn_alloc KN (by rfl) 35 rfl 10 rfl Vm.zero.cells (by kernel_rfl) ?_; clear KN; intro g10 wx hg10 KN) | (refine wpList_kn_alloc KN (by rfl) 35 rfl 13 rfl Vm.zero.cells (by kernel_rfl) ?_; clear KN; intro g13 wx hg13 KN) | (refine wpList_kn_alloc KN (by rfl) 33 rfl 14 rfl Eff.none.cells (by kernel_rfl) ?_; clear KN; intro g14 wx hg14 KN) | (refine wpList_kn_alloc KN (by rfl) 35 rfl 16 rfl Vm.zero.cells (by kernel_rfl) ?_; clear KN; intro g16 wx hg16 KN) | (refine wpList_kn_alloc KN (by rfl) 33 rfl 17 rfl Eff.none.cells (by kernel_rfl) ?_; clear KN; intro g17 wx hg17 KN) | (refine wpList_kn_alloc KN (by rfl) 35 rfl 19 rfl Vm.zero.cells (by kernel_rfl) ?_; clear KN; intro g19 wx hg19 KN) | (refine wpList_kn_alloc KN (by rfl) 35 rfl 21 rfl Vm.zero.cells (by kernel_rfl) ?_; clear KN; intro g21 wx hg21 KN) | (refine wpList_kn_alloc KN (by rfl) 35 rfl 24 rfl Vm.zero.cells (by kernel_rfl) ?_; clear KN; intro g24 wx hg24 KN) | (refine wpList_kn_alloc KN (by rfl) 35 rfl 26 rfl Vm.zero.cells (by kernel_rfl) ?_; clear KN; intro g26 wx hg26 KN))))
              go_meet
              have hkL2 := HKL.out
              exact ⟨0, by go_num, by rw [HKD.out]; rfl, by omega, KN⟩
            · have k2 : (a.wait.kind == 2) = false := by rw [hkd]; rfl
              have k3 : (a.wait.kind == 3) = true := by rw [hkd]; rfl
              have HKD := Lib.hid hkd
              clear hkd
              go_wp2_with (first | ((with_reducible refine wpList_gate ?_); first | ((refine gate_load (by rfl) ?_); first | (refine wpList_kn_load1 KN (by rfl) 3 _ rfl _ _ rfl _ _ (by repeat (first | exact Has.here | refine Has.there ?_)) _ (by (repeat (first | ((with_reducible refine get_hit ?_); exact Nat.le_of_ble_eq_true (by kernel_rfl)) | ((with_reducible refine (get_miss ?_).trans ?_); (focus kernel_rfl)) | ((with_reducible refine (get_pmiss ?_).trans ?_); (focus kernel_rfl)))); all_goals (conv => lhs; whnf; arg 1; whnf)) _ Try.underlying3 rfl ?_) | (refine wpList_kn_loadW KN (by rfl) 35 _ rfl _ rfl _ _ (by repeat (first | exact Has.here | refine Has.there ?_)) _ Try.underlying35 rfl (by kernel_rfl) ?_) | (refine wpList_kn_loadW KN (by rfl) 33 _ rfl _ rfl _ _ (by repeat (first | exact Has.here | refine Has.there ?_)) _ Try.underlying33 rfl (by kernel_rfl) ?_)) | ((refine gate_store (by rfl) ?_); first | (refine wpList_kn_storeW KN (by rfl) 35 _ _ rfl _ rfl _ rfl _ _ (by repeat (first | exact Repl.here | apply Repl.there)) (by kernel_rfl) (by kernel_rfl) (by kernel_rfl) ?_; clear KN; intro wx KN) | (refine wpList_kn_storeA KN (by rfl) 35 _ _ rfl _ _ rfl _ rfl _ _ (by repeat (first | exact Repl.here | apply Repl.there)) (by (try simp only [Array.size_setIfInBounds, putL_size]); first | exact Nat.le_of_ble_eq_true rfl | (simp; omega)) (by kernel_rfl) (by kernel_rfl) ?_; clear KN; intro wx KN) | (refine wpList_kn_storeW KN (by rfl) 33 _ _ rfl _ rfl _ rfl _ _ (by repeat (first | exact Repl.here | apply Repl.there)) (by kernel_rfl) (by kernel_rfl) (by kernel_rfl) ?_; clear KN; intro wx KN) | (refine wpList_kn_storeA KN (by rfl) 33 _ _ rfl _ _ rfl _ rfl _ _ (by repeat (first | exact Repl.here | apply Repl.there)) (by (try simp only [Array.size_setIfInBounds, putL_size]); first | exact Nat.le_of_ble_eq_true rfl | (simp; omega)) (by kernel_rfl) (by kernel_rfl) ?_; clear KN; intro wx KN)) | ((refine gate_new (by rfl) ?_); first | (refine wpList_kn_alloc KN (by rfl) 35 rfl 10 rfl Vm.zero.cells (by kernel_rfl) ?_; clear KN; intro g10 wx hg10 KN) | (refine wpList_kn_alloc KN (by rfl) 35 rfl 13 rfl Vm.zero.cells (by kernel_rfl) ?_; clear KN; intro g13 wx hg13 KN) | (refine wpList_kn_alloc KN (by rfl) 33 rfl 14 rfl Eff.none.cells (by kernel_rfl) ?_; clear KN; intro g14 wx hg14 KN) | (refine wpList_kn_alloc KN (by rfl) 35 rfl 16 rfl Vm.zero.cells (by kernel_rfl) ?_; clear KN; intro g16 wx hg16 KN) | (refine wpList_kn_alloc KN (by rfl) 33 rfl 17 rfl Eff.none.cells (by kernel_rfl) ?_; clear KN; intro g17 wx hg17 KN) | (refine wpList_kn_alloc KN (by rfl) 35 rfl 19 rfl Vm.zero.cells (by kernel_rfl) ?_; clear KN; intro g19 wx hg19 KN) | (refine wpList_kn_alloc KN (by rfl) 35 rfl 21 rfl Vm.zero.cells (by kernel_rfl) ?_; clear KN; intro g21 wx hg21 KN) | (refine wpList_kn_alloc KN (by rfl) 35 rfl 24 rfl Vm.zero.cells (by kernel_rfl) ?_; clear KN; intro g24 wx hg24 KN) | (refine wpList_kn_alloc KN (by rfl) 35 rfl 26 rfl Vm.zero.cells (by kernel_rfl) ?_; clear KN; intro g26 wx hg26 KN))))
              go_meet
              have hkL2 := HKL.out
              exact ⟨4, by go_num, by rw [HKD.out]; unfold finOk; rw [if_neg (by decide), if_neg (by decide)]; exact decide_eq_true (by omega), by omega, KN⟩
            · have k2 : (a.wait.kind == 2) = false := by rw [hkd]; rfl
              have k3 : (a.wait.kind == 3) = true := by rw [hkd]; rfl
              have HKD := Lib.hid hkd
              clear hkd
              go_wp2_with (first | ((with_reducible refine wpList_gate ?_); first | ((refine gate_load (by rfl) ?_); first | (refine wpList_kn_load1 KN (by rfl) 3 _ rfl _ _ rfl _ _ (by repeat (first | exact Has.here | refine Has.there ?_)) _ (by (repeat (first | ((with_reducible refine get_hit ?_); exact Nat.le_of_ble_eq_true (by kernel_rfl)) | ((with_reducible refine (get_miss ?_).trans ?_); (focus kernel_rfl)) | ((with_reducible refine (get_pmiss ?_).trans ?_); (focus kernel_rfl)))); all_goals (conv => lhs; whnf; arg 1; whnf)) _ Try.underlying3 rfl ?_) | (refine wpList_kn_loadW KN (by rfl) 35 _ rfl _ rfl _ _ (by repeat (first | exact Has.here | refine Has.there ?_)) _ Try.underlying35 rfl (by kernel_rfl) ?_) | (refine wpList_kn_loadW KN (by rfl) 33 _ rfl _ rfl _ _ (by repeat (first | exact Has.here | refine Has.there ?_)) _ Try.underlying33 rfl (by kernel_rfl) ?_)) | ((refine gate_store (by rfl) ?_); first | (refine wpList_kn_storeW KN (by rfl) 35 _ _ rfl _ rfl _ rfl _ _ (by repeat (first | exact Repl.here | apply Repl.there)) (by kernel_rfl) (by kernel_rfl) (by kernel_rfl) ?_; clear KN; intro wx KN) | (refine wpList_kn_storeA KN (by rfl) 35 _ _ rfl _ _ rfl _ rfl _ _ (by repeat (first | exact Repl.here | apply Repl.there)) (by (try simp only [Array.size_setIfInBounds, putL_size]); first | exact Nat.le_of_ble_eq_true rfl | (simp; omega)) (by kernel_rfl) (by kernel_rfl) ?_; clear KN; intro wx KN) | (refine wpList_kn_storeW KN (by rfl) 33 _ _ rfl _ rfl _ rfl _ _ (by repeat (first | exact Repl.here | apply Repl.there)) (by kernel_rfl) (by kernel_rfl) (by kernel_rfl) ?_; clear KN; intro wx KN) | (refine wpList_kn_storeA KN (by rfl) 33 _ _ rfl _ _ rfl _ rfl _ _ (by repeat (first | exact Repl.here | apply Repl.there)) (by (try simp only [Array.size_setIfInBounds, putL_size]); first | exact Nat.le_of_ble_eq_true rfl | (simp; omega)) (by kernel_rfl) (by kernel_rfl) ?_; clear KN; intro wx KN)) | ((refine gate_new (by rfl) ?_); first | (refine wpList_kn_alloc KN (by rfl) 35 rfl 10 rfl Vm.zero.cells (by kernel_rfl) ?_; clear KN; intro g10 wx hg10 KN) | (refine wpList_kn_alloc KN (by rfl) 35 rfl 13 rfl Vm.zero.cells (by kernel_rfl) ?_; clear KN; intro g13 wx hg13 KN) | (refine wpList_kn_alloc KN (by rfl) 33 rfl 14 rfl Eff.none.cells (by kernel_rfl) ?_; clear KN; intro g14 wx hg14 KN) | (refine wpList_kn_alloc KN (by rfl) 35 rfl 16 rfl Vm.zero.cells (by kernel_rfl) ?_; clear KN; intro g16 wx hg16 KN) | (refine wpList_kn_alloc KN (by rfl) 33 rfl 17 rfl Eff.none.cells (by kernel_rfl) ?_; clear KN; intro g17 wx hg17 KN) | (refine wpList_kn_alloc KN (by rfl) 35 rfl 19 rfl Vm.zero.cells (by kernel_rfl) ?_; clear KN; intro g19 wx hg19 KN) | (refine wpList_kn_alloc KN (by rfl) 35 rfl 21 rfl Vm.zero.cells (by kernel_rfl) ?_; clear KN; intro g21 wx hg21 KN) | (refine wpList_kn_alloc KN (by rfl) 35 rfl 24 rfl Vm.zero.cells (by kernel_rfl) ?_; clear KN; intro g24 wx hg24 KN) | (refine wpList_kn_alloc KN (by rfl) 35 rfl 26 rfl Vm.zero.cells (by kernel_rfl) ?_; clear KN; intro g26 wx hg26 KN))))
              go_meet
              have hkL2 := HKL.out
              exact ⟨L - k, by go_num, by rw [HKD.out]; unfold finOk; rw [if_neg (by decide), if_neg (by decide)]; exact decide_eq_true (by omega), by omega, KN⟩
          case rest =>
            clear KN
            obtain ⟨n, rfl, fok, hnL, KN⟩ := hcut
            obtain ⟨m, hm⟩ : ∃ m, m = k + n := ⟨_, rfl⟩
            have m1 : k ≤ m := by omega
            have m2 : m ≤ L := by omega
            obtain ⟨vs, hvs⟩ : ∃ vs, vs = sliced a4 k m c4 1 := ⟨_, rfl⟩
            have hu : U64s w vs ((qs.drop k).take (m - k)) := by
              rw [hvs]
              exact HQ.out.sub k m m1 (by rw [← HL.out]; exact m2)
            have hln : ((qs.drop k).take (m - k)).length = m - k := by rw [List.length_take, List.length_drop, ← HL.out]; omega
            obtain ⟨f1, f2, f3⟩ := VA.out.fin (xs := (qs.drop k).take (m - k)) HW.out (by rw [hln, show m - k = n from by omega]; exact fok)
            obtain ⟨c, hc⟩ : ∃ c, c = finV a ((qs.drop k).take (m - k)) := ⟨_, rfl⟩
            rw [← hc] at f1 f2
            have HVS := Lib.hid hvs
            have HU := Lib.hid hu
            have FI := Lib.hid f1
            have VC := Lib.hid f2
            have HM := Lib.hid hm
            have wr1 : IntKind.i64.wrap ((k : Int) + (n : Int)) = (m : Int) := by rw [IntWalk.i64_in _ (by omega)]; omega
            clear hvs hu hln f1 f2 f3 hc fok
            go_wp2_with fail

            go_cut [24, 25] (fun sp se wz => ∃ g24 : Nat, sp = .pointer (some ⟨g24, 0, none⟩) ∧ se = .int .i64 0 ∧ Kn [] w wz [(g24, At c.cells 35), (g17, At x.cells 33), (g16, At a.cells 35), (g14, At x.cells 33), (g13, At a.cells 35), (g10, At a.cells 35), (gp, CapAt 29 5 cap (p.map fun x => x.cells.toList))])
            case first =>
              replace KN := KN.drew
              refine wp_region_held_drew (S := (fun w' => BlkT w' g10 a.cells 35)) (by kernel_rfl) ?qahS (fun hHeld => ?qarest)
              case qahS => exact KN.at_ (by repeat (first | exact Has.here | refine Has.there ?_))
              refine wpAnyH_take (i := 0) (oi := ⟨some 142, _, _, _, _, _⟩) (v := (.agg a.cells)) rfl (by kernel_rfl) (by kernel_rfl) (by kernel_rfl) (fun _ _ _ h => h) (kn_yieldsN (by rfl) 35 _ rfl g10 0 rfl _ 35 (fun _ h => h) _ (extract_whole _) _ Try.underlying35 rfl vm_size) hHeld ?qar0
              (try simp only [Act.put, List.setIfInBounds_toArray, List.set_cons_zero, List.set_cons_succ])
              refine wpAnyH_take (i := 1) (oi := ⟨some 143, _, _, _, _, _⟩) (v := ?qav1) rfl (by kernel_rfl) (by kernel_rfl) (by kernel_rfl) (fun _ _ _ h => h) (Or.inl ⟨by rfl, ?qahy1⟩) hHeld ?qar1
              case qahy1 => (intro w hSw; (try dsimp only at hSw); go_simp; (try with_reducible rfl))
              (try simp only [Act.put, List.setIfInBounds_toArray, List.set_cons_zero, List.set_cons_succ])
              refine wpAnyH_take (i := 2) (oi := ⟨some 144, _, _, _, _, _⟩) (v := ?qav2) rfl (by kernel_rfl) (by kernel_rfl) (by kernel_rfl) (fun _ _ _ h => h) (Or.inl ⟨by rfl, ?qahy2⟩) hHeld ?qar2
              case qahy2 => (intro w hSw; (try dsimp only at hSw); go_simp; (try with_reducible rfl))
              (try simp only [Act.put, List.setIfInBounds_toArray, List.set_cons_zero, List.set_cons_succ])
              refine wpAnyH_take (i := 3) (oi := ⟨some 145, _, _, _, _, _⟩) (v := ?qav3) rfl (by kernel_rfl) (by kernel_rfl) (by kernel_rfl) (fun _ _ _ h => h) (Or.inl ⟨by rfl, ?qahy3⟩) hHeld ?qar3
              case qahy3 => (intro w hSw; (try dsimp only at hSw); go_simp; (try with_reducible rfl))
              (try simp only [Act.put, List.setIfInBounds_toArray, List.set_cons_zero, List.set_cons_succ])
              refine wpAnyH_take (i := 4) (oi := ⟨some 146, _, _, _, _, _⟩) (v := ?qav4) rfl (by kernel_rfl) (by kernel_rfl) (by kernel_rfl) (fun _ _ _ h => h) (Or.inl ⟨by rfl, ?qahy4⟩) hHeld ?qar4
              case qahy4 => (intro w hSw; (try dsimp only at hSw); go_simp; (try with_reducible rfl))
              (try simp only [Act.put, List.setIfInBounds_toArray, List.set_cons_zero, List.set_cons_succ])
              refine wpAnyH_take (i := 5) (oi := ⟨some 147, _, _, _, _, _⟩) (v := ?qav5) rfl (by kernel_rfl) (by kernel_rfl) (by kernel_rfl) (fun _ _ _ h => h) (Or.inl ⟨by rfl, ?qahy5⟩) hHeld ?qar5
              case qahy5 => (intro w hSw; (try dsimp only at hSw); go_simp; (try with_reducible rfl))
              (try simp only [Act.put, List.setIfInBounds_toArray, List.set_cons_zero, List.set_cons_succ])
              refine wpAnyH_take (i := 6) (oi := ⟨some 148, _, _, _, _, _⟩) (v := vs) rfl (by kernel_rfl) (by kernel_rfl) (by kernel_rfl) (fun _ _ _ h => h) (kn_yields_slice (by rfl) 23 _ _ _ rfl _ _ _ rfl _ _ _ _ rfl rfl (by kernel_rfl) 1 (fun _ => by kernel_rfl) k m (by omega) (by omega) (by omega) (by omega) vs HVS.out) hHeld ?qar6
              (try simp only [Act.put, List.setIfInBounds_toArray, List.set_cons_zero, List.set_cons_succ])
              refine wpAnyH_ready (rs := [7, 11]) (by kernel_rfl) (by simp) ?qac7_11
              refine (AllReadyH.cons (o := ⟨some 149, _, _, _, _, _⟩) rfl (fun K hK => ?qast7) (AllReadyH.cons (o := ⟨some 24, _, _, _, _, _⟩) rfl (fun K hK => ?qast11) AllReadyH.nil))
              case qast7 =>
                go_simp
                (refine (Finish_any a _ _ _ VA.out.typed (HU.out.below KN.toBelow)).mono ?_; rintro e wx ⟨rfl, hb1⟩; replace KN := KN.below hb1; clear hb1; rw [FI.out]; unfold pairVal)
                refine hK.out _ _ ?qa7xk7 (fun hHeld2 => ?qa7xm7)
                case qa7xk7 => exact KN.at_ (by repeat (first | exact Has.here | refine Has.there ?_))
                clear hK K hHeld
                have hHeld := hHeld2; clear hHeld2
                (try simp only [Act.put, List.setIfInBounds_toArray, List.set_cons_zero, List.set_cons_succ])
                refine wpAnyH_take (i := 8) (oi := ⟨some 141, _, _, _, _, _⟩) (v := ?qa7xv8) rfl (by kernel_rfl) (by kernel_rfl) (by kernel_rfl) (fun _ _ _ h => h) (Or.inl ⟨by rfl, ?qa7xhy8⟩) hHeld ?qa7xr8
                case qa7xhy8 => (intro w hSw; (try dsimp only at hSw); go_simp; (try with_reducible rfl))
                (try simp only [Act.put, List.setIfInBounds_toArray, List.set_cons_zero, List.set_cons_succ])
                refine wpAnyH_take (i := 9) (oi := ⟨some 150, _, _, _, _, _⟩) (v := ?qa7xv9) rfl (by kernel_rfl) (by kernel_rfl) (by kernel_rfl) (fun _ _ _ h => h) (Or.inl ⟨by rfl, ?qa7xhy9⟩) hHeld ?qa7xr9
                case qa7xhy9 => (intro w hSw; (try dsimp only at hSw); go_simp; (try with_reducible rfl))
                (try simp only [Act.put, List.setIfInBounds_toArray, List.set_cons_zero, List.set_cons_succ])
                refine wpAnyH_take (i := 10) (oi := ⟨some 151, _, _, _, _, _⟩) (v := ?qa7xv10) rfl (by kernel_rfl) (by kernel_rfl) (by kernel_rfl) (fun _ _ _ h => h) (Or.inl ⟨by rfl, ?qa7xhy10⟩) hHeld ?qa7xr10
                case qa7xhy10 => (intro w hSw; (try dsimp only at hSw); go_simp; (try with_reducible rfl))
                (try simp only [Act.put, List.setIfInBounds_toArray, List.set_cons_zero, List.set_cons_succ])
                refine wpAnyH_ready (rs := [11]) (by kernel_rfl) (by simp) ?qa7xc11
                refine AllReadyH.cons (o := ⟨some 24, _, _, _, _, _⟩) rfl (fun K hK => ?qa7xst11) AllReadyH.nil
                (rw [if_pos (by rfl)]; refine wp_kn_alloc KN 35 rfl 24 rfl Vm.zero.cells (by kernel_rfl) ?_; clear KN; intro g24 wx hg24 KN hb1; clear hb1)
                refine hK.out _ _ ?qa7xk11 (fun hHeld2 => ?qa7xm11)
                case qa7xk11 => exact KN.at_ (by repeat (first | exact Has.here | refine Has.there ?_))
                clear hK K hHeld
                have hHeld := hHeld2; clear hHeld2
                (try simp only [Act.put, List.setIfInBounds_toArray, List.set_cons_zero, List.set_cons_succ])
                refine wpAnyH_ready (rs := [12]) (by kernel_rfl) (by simp) ?qa7xc12
                refine AllReadyH.cons (o := ⟨none, _, _, _, _, _⟩) rfl (fun K hK => ?qa7xst12) AllReadyH.nil
                (rw [if_pos (by rfl)]; refine wp_kn_storeW KN 35 _ _ rfl _ rfl _ rfl _ _ (by repeat (first | exact Repl.here | apply Repl.there)) (by kernel_rfl) (by kernel_rfl) (by kernel_rfl) ?_; clear KN; intro wx KN)
                refine hK.out _ _ ?qa7xk12 (fun hHeld2 => ?qa7xm12)
                case qa7xk12 => exact KN.at_ (by repeat (first | exact Has.here | refine Has.there ?_))
                clear hK K hHeld
                have hHeld := hHeld2; clear hHeld2
                (try simp only [Act.put, List.setIfInBounds_toArray, List.set_cons_zero, List.set_cons_succ])
                refine wpAnyH_take (i := 13) (oi := ⟨some 25, _, _, _, _, _⟩) (v := ?qa7xv13) rfl (by kernel_rfl) (by kernel_rfl) (by kernel_rfl) (fun _ _ _ h => h) (Or.inl ⟨by rfl, ?qa7xhy13⟩) hHeld ?qa7xr13
                case qa7xhy13 => (intro w hSw; (try dsimp only at hSw); go_simp; (try with_reducible rfl))
                (try simp only [Act.put, List.setIfInBounds_toArray, List.set_cons_zero, List.set_cons_succ])
                refine wpAnyH_done (by kernel_rfl) ?qa7xdone _
                go_wp2_with fail
                go_meet
                exact ⟨_, rfl, rfl, KN⟩
              case qast11 =>
                (rw [if_pos (by rfl)]; refine wp_kn_alloc KN 35 rfl 24 rfl Vm.zero.cells (by kernel_rfl) ?_; clear KN; intro g24 wx hg24 KN hb1; clear hb1)
                refine hK.out _ _ ?qa11xk11 (fun hHeld2 => ?qa11xm11)
                case qa11xk11 => exact KN.at_ (by repeat (first | exact Has.here | refine Has.there ?_))
                clear hK K hHeld
                have hHeld := hHeld2; clear hHeld2
                (try simp only [Act.put, List.setIfInBounds_toArray, List.set_cons_zero, List.set_cons_succ])
                refine wpAnyH_ready (rs := [7]) (by kernel_rfl) (by simp) ?qa11xc7
                refine AllReadyH.cons (o := ⟨some 149, _, _, _, _, _⟩) rfl (fun K hK => ?qa11xst7) AllReadyH.nil
                go_simp
                (refine (Finish_any a _ _ _ VA.out.typed (HU.out.below KN.toBelow)).mono ?_; rintro e wx ⟨rfl, hb1⟩; replace KN := KN.below hb1; clear hb1; rw [FI.out]; unfold pairVal)
                refine hK.out _ _ ?qa11xk7 (fun hHeld2 => ?qa11xm7)
                case qa11xk7 => exact KN.at_ (by repeat (first | exact Has.here | refine Has.there ?_))
                clear hK K hHeld
                have hHeld := hHeld2; clear hHeld2
                (try simp only [Act.put, List.setIfInBounds_toArray, List.set_cons_zero, List.set_cons_succ])
                refine wpAnyH_take (i := 8) (oi := ⟨some 141, _, _, _, _, _⟩) (v := ?qa11xv8) rfl (by kernel_rfl) (by kernel_rfl) (by kernel_rfl) (fun _ _ _ h => h) (Or.inl ⟨by rfl, ?qa11xhy8⟩) hHeld ?qa11xr8
                case qa11xhy8 => (intro w hSw; (try dsimp only at hSw); go_simp; (try with_reducible rfl))
                (try simp only [Act.put, List.setIfInBounds_toArray, List.set_cons_zero, List.set_cons_succ])
                refine wpAnyH_take (i := 9) (oi := ⟨some 150, _, _, _, _, _⟩) (v := ?qa11xv9) rfl (by kernel_rfl) (by kernel_rfl) (by kernel_rfl) (fun _ _ _ h => h) (Or.inl ⟨by rfl, ?qa11xhy9⟩) hHeld ?qa11xr9
                case qa11xhy9 => (intro w hSw; (try dsimp only at hSw); go_simp; (try with_reducible rfl))
                (try simp only [Act.put, List.setIfInBounds_toArray, List.set_cons_zero, List.set_cons_succ])
                refine wpAnyH_take (i := 10) (oi := ⟨some 151, _, _, _, _, _⟩) (v := ?qa11xv10) rfl (by kernel_rfl) (by kernel_rfl) (by kernel_rfl) (fun _ _ _ h => h) (Or.inl ⟨by rfl, ?qa11xhy10⟩) hHeld ?qa11xr10
                case qa11xhy10 => (intro w hSw; (try dsimp only at hSw); go_simp; (try with_reducible rfl))
                (try simp only [Act.put, List.setIfInBounds_toArray, List.set_cons_zero, List.set_cons_succ])
                refine wpAnyH_ready (rs := [12]) (by kernel_rfl) (by simp) ?qa11xc12
                refine AllReadyH.cons (o := ⟨none, _, _, _, _, _⟩) rfl (fun K hK => ?qa11xst12) AllReadyH.nil
                (rw [if_pos (by rfl)]; refine wp_kn_storeW KN 35 _ _ rfl _ rfl _ rfl _ _ (by repeat (first | exact Repl.here | apply Repl.there)) (by kernel_rfl) (by kernel_rfl) (by kernel_rfl) ?_; clear KN; intro wx KN)
                refine hK.out _ _ ?qa11xk12 (fun hHeld2 => ?qa11xm12)
                case qa11xk12 => exact KN.at_ (by repeat (first | exact Has.here | refine Has.there ?_))
                clear hK K hHeld
                have hHeld := hHeld2; clear hHeld2
                (try simp only [Act.put, List.setIfInBounds_toArray, List.set_cons_zero, List.set_cons_succ])
                refine wpAnyH_take (i := 13) (oi := ⟨some 25, _, _, _, _, _⟩) (v := ?qa11xv13) rfl (by kernel_rfl) (by kernel_rfl) (by kernel_rfl) (fun _ _ _ h => h) (Or.inl ⟨by rfl, ?qa11xhy13⟩) hHeld ?qa11xr13
                case qa11xhy13 => (intro w hSw; (try dsimp only at hSw); go_simp; (try with_reducible rfl))
                (try simp only [Act.put, List.setIfInBounds_toArray, List.set_cons_zero, List.set_cons_succ])
                refine wpAnyH_done (by kernel_rfl) ?qa11xdone _
                go_wp2_with fail
                go_meet
                exact ⟨_, rfl, rfl, KN⟩
            case rest =>
              clear KN
              obtain ⟨g24, rfl, rfl, KN⟩ := hcut
              go_wp2_with fail
              go_cut [26, 27] (fun sp se wz => ∃ g26 : Nat, sp = .pointer (some ⟨g26, 0, none⟩) ∧ se = .int .i64 0 ∧ Kn [] w wz [(g26, At c.cells 35), (g24, At c.cells 35), (g17, At x.cells 33), (g16, At a.cells 35), (g14, At x.cells 33), (g13, At a.cells 35), (g10, At a.cells 35), (gp, CapAt 29 5 cap (p.map fun x => x.cells.toList))])
              case first =>
                replace KN := KN.drew
                refine wp_region_held_drew (S := (fun w' => BlkT w' g10 a.cells 35)) (by kernel_rfl) ?qbhS (fun hHeld => ?qbrest)
                case qbhS => exact KN.at_ (by repeat (first | exact Has.here | refine Has.there ?_))
                refine wpAnyH_take (i := 0) (oi := ⟨some 153, _, _, _, _, _⟩) (v := (.agg a.cells)) rfl (by kernel_rfl) (by kernel_rfl) (by kernel_rfl) (fun _ _ _ h => h) (kn_yieldsN (by rfl) 35 _ rfl g10 0 rfl _ 35 (fun _ h => h) _ (extract_whole _) _ Try.underlying35 rfl vm_size) hHeld ?qbr0
                (try simp only [Act.put, List.setIfInBounds_toArray, List.set_cons_zero, List.set_cons_succ])
                refine wpAnyH_take (i := 1) (oi := ⟨some 154, _, _, _, _, _⟩) (v := ?qbv1) rfl (by kernel_rfl) (by kernel_rfl) (by kernel_rfl) (fun _ _ _ h => h) (Or.inl ⟨by rfl, ?qbhy1⟩) hHeld ?qbr1
                case qbhy1 => (intro w hSw; (try dsimp only at hSw); go_simp; (try with_reducible rfl))
                (try simp only [Act.put, List.setIfInBounds_toArray, List.set_cons_zero, List.set_cons_succ])
                refine wpAnyH_take (i := 2) (oi := ⟨some 155, _, _, _, _, _⟩) (v := ?qbv2) rfl (by kernel_rfl) (by kernel_rfl) (by kernel_rfl) (fun _ _ _ h => h) (Or.inl ⟨by rfl, ?qbhy2⟩) hHeld ?qbr2
                case qbhy2 => (intro w hSw; (try dsimp only at hSw); go_simp; (try with_reducible rfl))
                (try simp only [Act.put, List.setIfInBounds_toArray, List.set_cons_zero, List.set_cons_succ])
                refine wpAnyH_take (i := 3) (oi := ⟨some 156, _, _, _, _, _⟩) (v := ?qbv3) rfl (by kernel_rfl) (by kernel_rfl) (by kernel_rfl) (fun _ _ _ h => h) (Or.inl ⟨by rfl, ?qbhy3⟩) hHeld ?qbr3
                case qbhy3 => (intro w hSw; (try dsimp only at hSw); go_simp; (try with_reducible rfl))
                (try simp only [Act.put, List.setIfInBounds_toArray, List.set_cons_zero, List.set_cons_succ])
                refine wpAnyH_take (i := 4) (oi := ⟨some 157, _, _, _, _, _⟩) (v := ?qbv4) rfl (by kernel_rfl) (by kernel_rfl) (by kernel_rfl) (fun _ _ _ h => h) (Or.inl ⟨by rfl, ?qbhy4⟩) hHeld ?qbr4
                case qbhy4 => (intro w hSw; (try dsimp only at hSw); go_simp; (try with_reducible rfl))
                (try simp only [Act.put, List.setIfInBounds_toArray, List.set_cons_zero, List.set_cons_succ])
                refine wpAnyH_take (i := 5) (oi := ⟨some 158, _, _, _, _, _⟩) (v := ?qbv5) rfl (by kernel_rfl) (by kernel_rfl) (by kernel_rfl) (fun _ _ _ h => h) (Or.inl ⟨by rfl, ?qbhy5⟩) hHeld ?qbr5
                case qbhy5 => (intro w hSw; (try dsimp only at hSw); go_simp; (try with_reducible rfl))
                (try simp only [Act.put, List.setIfInBounds_toArray, List.set_cons_zero, List.set_cons_succ])
                refine wpAnyH_take (i := 6) (oi := ⟨some 159, _, _, _, _, _⟩) (v := vs) rfl (by kernel_rfl) (by kernel_rfl) (by kernel_rfl) (fun _ _ _ h => h) (kn_yields_slice (by rfl) 23 _ _ _ rfl _ _ _ rfl _ _ _ _ rfl rfl (by kernel_rfl) 1 (fun _ => by kernel_rfl) k m (by omega) (by omega) (by omega) (by omega) vs HVS.out) hHeld ?qbr6
                (try simp only [Act.put, List.setIfInBounds_toArray, List.set_cons_zero, List.set_cons_succ])
                refine wpAnyH_ready (rs := [7, 11]) (by kernel_rfl) (by simp) ?qbc7_11
                refine (AllReadyH.cons (o := ⟨some 160, _, _, _, _, _⟩) rfl (fun K hK => ?qbst7) (AllReadyH.cons (o := ⟨some 26, _, _, _, _, _⟩) rfl (fun K hK => ?qbst11) AllReadyH.nil))
                case qbst7 =>
                  go_simp
                  (refine (RFinish_any a _ _ _ VA.out.typed (HU.out.below KN.toBelow)).mono ?_; rintro e wx ⟨rfl, hb1⟩; replace KN := KN.below hb1; clear hb1; rw [FI.out]; unfold pairVal)
                  refine hK.out _ _ ?qb7xk7 (fun hHeld2 => ?qb7xm7)
                  case qb7xk7 => exact KN.at_ (by repeat (first | exact Has.here | refine Has.there ?_))
                  clear hK K hHeld
                  have hHeld := hHeld2; clear hHeld2
                  (try simp only [Act.put, List.setIfInBounds_toArray, List.set_cons_zero, List.set_cons_succ])
                  refine wpAnyH_take (i := 8) (oi := ⟨some 152, _, _, _, _, _⟩) (v := ?qb7xv8) rfl (by kernel_rfl) (by kernel_rfl) (by kernel_rfl) (fun _ _ _ h => h) (Or.inl ⟨by rfl, ?qb7xhy8⟩) hHeld ?qb7xr8
                  case qb7xhy8 => (intro w hSw; (try dsimp only at hSw); go_simp; (try with_reducible rfl))
                  (try simp only [Act.put, List.setIfInBounds_toArray, List.set_cons_zero, List.set_cons_succ])
                  refine wpAnyH_take (i := 9) (oi := ⟨some 161, _, _, _, _, _⟩) (v := ?qb7xv9) rfl (by kernel_rfl) (by kernel_rfl) (by kernel_rfl) (fun _ _ _ h => h) (Or.inl ⟨by rfl, ?qb7xhy9⟩) hHeld ?qb7xr9
                  case qb7xhy9 => (intro w hSw; (try dsimp only at hSw); go_simp; (try with_reducible rfl))
                  (try simp only [Act.put, List.setIfInBounds_toArray, List.set_cons_zero, List.set_cons_succ])
                  refine wpAnyH_take (i := 10) (oi := ⟨some 162, _, _, _, _, _⟩) (v := ?qb7xv10) rfl (by kernel_rfl) (by kernel_rfl) (by kernel_rfl) (fun _ _ _ h => h) (Or.inl ⟨by rfl, ?qb7xhy10⟩) hHeld ?qb7xr10
                  case qb7xhy10 => (intro w hSw; (try dsimp only at hSw); go_simp; (try with_reducible rfl))
                  (try simp only [Act.put, List.setIfInBounds_toArray, List.set_cons_zero, List.set_cons_succ])
                  refine wpAnyH_ready (rs := [11]) (by kernel_rfl) (by simp) ?qb7xc11
                  refine AllReadyH.cons (o := ⟨some 26, _, _, _, _, _⟩) rfl (fun K hK => ?qb7xst11) AllReadyH.nil
                  (rw [if_pos (by rfl)]; refine wp_kn_alloc KN 35 rfl 26 rfl Vm.zero.cells (by kernel_rfl) ?_; clear KN; intro g26 wx hg26 KN hb1; clear hb1)
                  refine hK.out _ _ ?qb7xk11 (fun hHeld2 => ?qb7xm11)
                  case qb7xk11 => exact KN.at_ (by repeat (first | exact Has.here | refine Has.there ?_))
                  clear hK K hHeld
                  have hHeld := hHeld2; clear hHeld2
                  (try simp only [Act.put, List.setIfInBounds_toArray, List.set_cons_zero, List.set_cons_succ])
                  refine wpAnyH_ready (rs := [12]) (by kernel_rfl) (by simp) ?qb7xc12
                  refine AllReadyH.cons (o := ⟨none, _, _, _, _, _⟩) rfl (fun K hK => ?qb7xst12) AllReadyH.nil
                  (rw [if_pos (by rfl)]; refine wp_kn_storeW KN 35 _ _ rfl _ rfl _ rfl _ _ (by repeat (first | exact Repl.here | apply Repl.there)) (by kernel_rfl) (by kernel_rfl) (by kernel_rfl) ?_; clear KN; intro wx KN)
                  refine hK.out _ _ ?qb7xk12 (fun hHeld2 => ?qb7xm12)
                  case qb7xk12 => exact KN.at_ (by repeat (first | exact Has.here | refine Has.there ?_))
                  clear hK K hHeld
                  have hHeld := hHeld2; clear hHeld2
                  (try simp only [Act.put, List.setIfInBounds_toArray, List.set_cons_zero, List.set_cons_succ])
                  refine wpAnyH_take (i := 13) (oi := ⟨some 27, _, _, _, _, _⟩) (v := ?qb7xv13) rfl (by kernel_rfl) (by kernel_rfl) (by kernel_rfl) (fun _ _ _ h => h) (Or.inl ⟨by rfl, ?qb7xhy13⟩) hHeld ?qb7xr13
                  case qb7xhy13 => (intro w hSw; (try dsimp only at hSw); go_simp; (try with_reducible rfl))
                  (try simp only [Act.put, List.setIfInBounds_toArray, List.set_cons_zero, List.set_cons_succ])
                  refine wpAnyH_done (by kernel_rfl) ?qb7xdone _
                  go_wp2_with fail
                  go_meet
                  exact ⟨_, rfl, rfl, KN⟩
                case qbst11 =>
                  (rw [if_pos (by rfl)]; refine wp_kn_alloc KN 35 rfl 26 rfl Vm.zero.cells (by kernel_rfl) ?_; clear KN; intro g26 wx hg26 KN hb1; clear hb1)
                  refine hK.out _ _ ?qb11xk11 (fun hHeld2 => ?qb11xm11)
                  case qb11xk11 => exact KN.at_ (by repeat (first | exact Has.here | refine Has.there ?_))
                  clear hK K hHeld
                  have hHeld := hHeld2; clear hHeld2
                  (try simp only [Act.put, List.setIfInBounds_toArray, List.set_cons_zero, List.set_cons_succ])
                  refine wpAnyH_ready (rs := [7]) (by kernel_rfl) (by simp) ?qb11xc7
                  refine AllReadyH.cons (o := ⟨some 160, _, _, _, _, _⟩) rfl (fun K hK => ?qb11xst7) AllReadyH.nil
                  go_simp
                  (refine (RFinish_any a _ _ _ VA.out.typed (HU.out.below KN.toBelow)).mono ?_; rintro e wx ⟨rfl, hb1⟩; replace KN := KN.below hb1; clear hb1; rw [FI.out]; unfold pairVal)
                  refine hK.out _ _ ?qb11xk7 (fun hHeld2 => ?qb11xm7)
                  case qb11xk7 => exact KN.at_ (by repeat (first | exact Has.here | refine Has.there ?_))
                  clear hK K hHeld
                  have hHeld := hHeld2; clear hHeld2
                  (try simp only [Act.put, List.setIfInBounds_toArray, List.set_cons_zero, List.set_cons_succ])
                  refine wpAnyH_take (i := 8) (oi := ⟨some 152, _, _, _, _, _⟩) (v := ?qb11xv8) rfl (by kernel_rfl) (by kernel_rfl) (by kernel_rfl) (fun _ _ _ h => h) (Or.inl ⟨by rfl, ?qb11xhy8⟩) hHeld ?qb11xr8
                  case qb11xhy8 => (intro w hSw; (try dsimp only at hSw); go_simp; (try with_reducible rfl))
                  (try simp only [Act.put, List.setIfInBounds_toArray, List.set_cons_zero, List.set_cons_succ])
                  refine wpAnyH_take (i := 9) (oi := ⟨some 161, _, _, _, _, _⟩) (v := ?qb11xv9) rfl (by kernel_rfl) (by kernel_rfl) (by kernel_rfl) (fun _ _ _ h => h) (Or.inl ⟨by rfl, ?qb11xhy9⟩) hHeld ?qb11xr9
                  case qb11xhy9 => (intro w hSw; (try dsimp only at hSw); go_simp; (try with_reducible rfl))
                  (try simp only [Act.put, List.setIfInBounds_toArray, List.set_cons_zero, List.set_cons_succ])
                  refine wpAnyH_take (i := 10) (oi := ⟨some 162, _, _, _, _, _⟩) (v := ?qb11xv10) rfl (by kernel_rfl) (by kernel_rfl) (by kernel_rfl) (fun _ _ _ h => h) (Or.inl ⟨by rfl, ?qb11xhy10⟩) hHeld ?qb11xr10
                  case qb11xhy10 => (intro w hSw; (try dsimp only at hSw); go_simp; (try with_reducible rfl))
                  (try simp only [Act.put, List.setIfInBounds_toArray, List.set_cons_zero, List.set_cons_succ])
                  refine wpAnyH_ready (rs := [12]) (by kernel_rfl) (by simp) ?qb11xc12
                  refine AllReadyH.cons (o := ⟨none, _, _, _, _, _⟩) rfl (fun K hK => ?qb11xst12) AllReadyH.nil
                  (rw [if_pos (by rfl)]; refine wp_kn_storeW KN 35 _ _ rfl _ rfl _ rfl _ _ (by repeat (first | exact Repl.here | apply Repl.there)) (by kernel_rfl) (by kernel_rfl) (by kernel_rfl) ?_; clear KN; intro wx KN)
                  refine hK.out _ _ ?qb11xk12 (fun hHeld2 => ?qb11xm12)
                  case qb11xk12 => exact KN.at_ (by repeat (first | exact Has.here | refine Has.there ?_))
                  clear hK K hHeld
                  have hHeld := hHeld2; clear hHeld2
                  (try simp only [Act.put, List.setIfInBounds_toArray, List.set_cons_zero, List.set_cons_succ])
                  refine wpAnyH_take (i := 13) (oi := ⟨some 27, _, _, _, _, _⟩) (v := ?qb11xv13) rfl (by kernel_rfl) (by kernel_rfl) (by kernel_rfl) (fun _ _ _ h => h) (Or.inl ⟨by rfl, ?qb11xhy13⟩) hHeld ?qb11xr13
                  case qb11xhy13 => (intro w hSw; (try dsimp only at hSw); go_simp; (try with_reducible rfl))
                  (try simp only [Act.put, List.setIfInBounds_toArray, List.set_cons_zero, List.set_cons_succ])
                  refine wpAnyH_done (by kernel_rfl) ?qb11xdone _
                  go_wp2_with fail
                  go_meet
                  exact ⟨_, rfl, rfl, KN⟩
              case rest =>
                clear KN
                obtain ⟨g26, rfl, rfl, KN⟩ := hcut
                rcases Nat.eq_zero_or_pos n with hn0 | hn0
                all_goals
                  go_wp2_with (first | (go_at_call 18; refine (Valid_any _ _ (by first | exact VA.out.typed | exact VC.out.typed)).mono ?_; rintro e wx ⟨rfl, hb1⟩; replace KN := KN.below hb1; clear hb1; first | rw [VA.out.ok] | rw [VC.out.ok]) | ((with_reducible refine wpList_gate ?_); first | ((refine gate_load (by rfl) ?_); first | (refine wpList_kn_load1 KN (by rfl) 3 _ rfl _ _ rfl _ _ (by repeat (first | exact Has.here | refine Has.there ?_)) _ (by (repeat (first | ((with_reducible refine get_hit ?_); exact Nat.le_of_ble_eq_true (by kernel_rfl)) | ((with_reducible refine (get_miss ?_).trans ?_); (focus kernel_rfl)) | ((with_reducible refine (get_pmiss ?_).trans ?_); (focus kernel_rfl)))); all_goals (conv => lhs; whnf; arg 1; whnf)) _ Try.underlying3 rfl ?_) | (refine wpList_kn_loadW KN (by rfl) 35 _ rfl _ rfl _ _ (by repeat (first | exact Has.here | refine Has.there ?_)) _ Try.underlying35 rfl (by kernel_rfl) ?_) | (refine wpList_kn_loadW KN (by rfl) 33 _ rfl _ rfl _ _ (by repeat (first | exact Has.here | refine Has.there ?_)) _ Try.underlying33 rfl (by kernel_rfl) ?_)) | ((refine gate_store (by rfl) ?_); first | (refine wpList_kn_storeW KN (by rfl) 35 _ _ rfl _ rfl _ rfl _ _ (by repeat (first | exact Repl.here | apply Repl.there)) (by kernel_rfl) (by kernel_rfl) (by kernel_rfl) ?_; clear KN; intro wx KN) | (refine wpList_kn_storeA KN (by rfl) 35 _ _ rfl _ _ rfl _ rfl _ _ (by repeat (first | exact Repl.here | apply Repl.there)) (by (try simp only [Array.size_setIfInBounds, putL_size]); first | exact Nat.le_of_ble_eq_true rfl | (simp; omega)) (by kernel_rfl) (by kernel_rfl) ?_; clear KN; intro wx KN) | (refine wpList_kn_storeW KN (by rfl) 33 _ _ rfl _ rfl _ rfl _ _ (by repeat (first | exact Repl.here | apply Repl.there)) (by kernel_rfl) (by kernel_rfl) (by kernel_rfl) ?_; clear KN; intro wx KN) | (refine wpList_kn_storeA KN (by rfl) 33 _ _ rfl _ _ rfl _ rfl _ _ (by repeat (first | exact Repl.here | apply Repl.there)) (by (try simp only [Array.size_setIfInBounds, putL_size]); first | exact Nat.le_of_ble_eq_true rfl | (simp; omega)) (by kernel_rfl) (by kernel_rfl) ?_; clear KN; intro wx KN)) | ((refine gate_new (by rfl) ?_); first | (refine wpList_kn_alloc KN (by rfl) 35 rfl 10 rfl Vm.zero.cells (by kernel_rfl) ?_; clear KN; intro g10 wx hg10 KN) | (refine wpList_kn_alloc KN (by rfl) 35 rfl 13 rfl Vm.zero.cells (by kernel_rfl) ?_; clear KN; intro g13 wx hg13 KN) | (refine wpList_kn_alloc KN (by rfl) 33 rfl 14 rfl Eff.none.cells (by kernel_rfl) ?_; clear KN; intro g14 wx hg14 KN) | (refine wpList_kn_alloc KN (by rfl) 35 rfl 16 rfl Vm.zero.cells (by kernel_rfl) ?_; clear KN; intro g16 wx hg16 KN) | (refine wpList_kn_alloc KN (by rfl) 33 rfl 17 rfl Eff.none.cells (by kernel_rfl) ?_; clear KN; intro g17 wx hg17 KN) | (refine wpList_kn_alloc KN (by rfl) 35 rfl 19 rfl Vm.zero.cells (by kernel_rfl) ?_; clear KN; intro g19 wx hg19 KN) | (refine wpList_kn_alloc KN (by rfl) 35 rfl 21 rfl Vm.zero.cells (by kernel_rfl) ?_; clear KN; intro g21 wx hg21 KN) | (refine wpList_kn_alloc KN (by rfl) 35 rfl 24 rfl Vm.zero.cells (by kernel_rfl) ?_; clear KN; intro g24 wx hg24 KN) | (refine wpList_kn_alloc KN (by rfl) 35 rfl 26 rfl Vm.zero.cells (by kernel_rfl) ?_; clear KN; intro g26 wx hg26 KN)) | ((refine gate_cmp (by rfl) ?_); first | (refine wpList_kn_neq (by rfl) 35 _ _ _ rfl _ rfl rfl (by kernel_rfl) (by kernel_rfl) ?_) | (refine wpList_kn_neq (by rfl) 33 _ _ _ rfl _ rfl rfl (by kernel_rfl) (by kernel_rfl) ?_))))
                  go_roundw
                  case rel => exact ⟨j + 1, k + max n 1, c, by go_num, hlt, by go_num, by omega, VC.out, (((((KN.drop .here).drop .here).drop .here).drop .here).drop .here).drop .here⟩
                  case measure => simp [intOf]; omega
      · have ast : (a.state != 1) = true := by rw [bne_iff_ne]; exact hw
        clear hst hw
        go_wp2_with (first | (go_at_call 13; refine (Step_any _ _ p _ VU.out.typed (Instrs.of_kn KN (by repeat (first | exact Has.here | refine Has.there ?_)) Q1.out Q2.out Q6.out)).mono ?_; rintro e wx ⟨rfl, hb1⟩; replace KN := KN.below hb1; clear hb1; rw [SR.out]; unfold stepVal) | (go_at_call 17; refine (RStep_any _ _ p _ VU.out.typed (Instrs.of_kn KN (by repeat (first | exact Has.here | refine Has.there ?_)) Q1.out Q2.out Q6.out)).mono ?_; rintro e wx ⟨rfl, hb1⟩; replace KN := KN.below hb1; clear hb1; rw [SR.out]; unfold stepVal) | (go_at_call 18; refine (Valid_any _ _ (by first | exact VA.out.typed | exact VC.out.typed)).mono ?_; rintro e wx ⟨rfl, hb1⟩; replace KN := KN.below hb1; clear hb1; first | rw [VA.out.ok] | rw [VC.out.ok]) | ((with_reducible refine wpList_gate ?_); first | ((refine gate_load (by rfl) ?_); first | (refine wpList_kn_load1 KN (by rfl) 3 _ rfl _ _ rfl _ _ (by repeat (first | exact Has.here | refine Has.there ?_)) _ (by (repeat (first | ((with_reducible refine get_hit ?_); exact Nat.le_of_ble_eq_true (by kernel_rfl)) | ((with_reducible refine (get_miss ?_).trans ?_); (focus kernel_rfl)) | ((with_reducible refine (get_pmiss ?_).trans ?_); (focus kernel_rfl)))); all_goals (conv => lhs; whnf; arg 1; whnf)) _ Try.underlying3 rfl ?_) | (refine wpList_kn_loadW KN (by rfl) 35 _ rfl _ rfl _ _ (by repeat (first | exact Has.here | refine Has.there ?_)) _ Try.underlying35 rfl (by kernel_rfl) ?_) | (refine wpList_kn_loadW KN (by rfl) 33 _ rfl _ rfl _ _ (by repeat (first | exact Has.here | refine Has.there ?_)) _ Try.underlying33 rfl (by kernel_rfl) ?_)) | ((refine gate_store (by rfl) ?_); first | (refine wpList_kn_storeW KN (by rfl) 35 _ _ rfl _ rfl _ rfl _ _ (by repeat (first | exact Repl.here | apply Repl.there)) (by kernel_rfl) (by kernel_rfl) (by kernel_rfl) ?_; clear KN; intro wx KN) | (refine wpList_kn_storeA KN (by rfl) 35 _ _ rfl _ _ rfl _ rfl _ _ (by repeat (first | exact Repl.here | apply Repl.there)) (by (try simp only [Array.size_setIfInBounds, putL_size]); first | exact Nat.le_of_ble_eq_true rfl | (simp; omega)) (by kernel_rfl) (by kernel_rfl) ?_; clear KN; intro wx KN) | (refine wpList_kn_storeW KN (by rfl) 33 _ _ rfl _ rfl _ rfl _ _ (by repeat (first | exact Repl.here | apply Repl.there)) (by kernel_rfl) (by kernel_rfl) (by kernel_rfl) ?_; clear KN; intro wx KN) | (refine wpList_kn_storeA KN (by rfl) 33 _ _ rfl _ _ rfl _ rfl _ _ (by repeat (first | exact Repl.here | apply Repl.there)) (by (try simp only [Array.size_setIfInBounds, putL_size]); first | exact Nat.le_of_ble_eq_true rfl | (simp; omega)) (by kernel_rfl) (by kernel_rfl) ?_; clear KN; intro wx KN)) | ((refine gate_new (by rfl) ?_); first | (refine wpList_kn_alloc KN (by rfl) 35 rfl 10 rfl Vm.zero.cells (by kernel_rfl) ?_; clear KN; intro g10 wx hg10 KN) | (refine wpList_kn_alloc KN (by rfl) 35 rfl 13 rfl Vm.zero.cells (by kernel_rfl) ?_; clear KN; intro g13 wx hg13 KN) | (refine wpList_kn_alloc KN (by rfl) 33 rfl 14 rfl Eff.none.cells (by kernel_rfl) ?_; clear KN; intro g14 wx hg14 KN) | (refine wpList_kn_alloc KN (by rfl) 35 rfl 16 rfl Vm.zero.cells (by kernel_rfl) ?_; clear KN; intro g16 wx hg16 KN) | (refine wpList_kn_alloc KN (by rfl) 33 rfl 17 rfl Eff.none.cells (by kernel_rfl) ?_; clear KN; intro g17 wx hg17 KN) | (refine wpList_kn_alloc KN (by rfl) 35 rfl 19 rfl Vm.zero.cells (by kernel_rfl) ?_; clear KN; intro g19 wx hg19 KN) | (refine wpList_kn_alloc KN (by rfl) 35 rfl 21 rfl Vm.zero.cells (by kernel_rfl) ?_; clear KN; intro g21 wx hg21 KN) | (refine wpList_kn_alloc KN (by rfl) 35 rfl 24 rfl Vm.zero.cells (by kernel_rfl) ?_; clear KN; intro g24 wx hg24 KN) | (refine wpList_kn_alloc KN (by rfl) 35 rfl 26 rfl Vm.zero.cells (by kernel_rfl) ?_; clear KN; intro g26 wx hg26 KN)) | ((refine gate_cmp (by rfl) ?_); first | (refine wpList_kn_neq (by rfl) 35 _ _ _ rfl _ rfl rfl (by kernel_rfl) (by kernel_rfl) ?_) | (refine wpList_kn_neq (by rfl) 33 _ _ _ rfl _ rfl rfl (by kernel_rfl) (by kernel_rfl) ?_))))
        go_roundw
        case rel => exact ⟨j + 1, k, a, by go_num, hlt, rfl, hk, VA.out, (((KN.drop .here).drop .here).drop .here).drop .here⟩
        case measure => simp [intOf]; omega
    · have hge : ¬ j < 60 ∨ (j < 60 ∧ (u.state == 0) = false) := by
        rcases Nat.lt_or_ge j 60 with h | h
        · exact .inr ⟨h, by rw [beq_eq_false_iff_ne]; exact fun q => hgo ⟨h, q⟩⟩
        · exact .inl (by omega)
      clear hgo
      rcases hge with hge | ⟨hlt, hge⟩
      all_goals
        go_wp2_with (first | (go_at_call 9; refine (awake_any _).mono ?_; rintro e wx ⟨rfl, hb1⟩; replace KN := KN.below hb1; clear hb1) | ((with_reducible refine wpList_gate ?_); first | ((refine gate_load (by rfl) ?_); first | (refine wpList_kn_load1 KN (by rfl) 3 _ rfl _ _ rfl _ _ (by repeat (first | exact Has.here | refine Has.there ?_)) _ (by (repeat (first | ((with_reducible refine get_hit ?_); exact Nat.le_of_ble_eq_true (by kernel_rfl)) | ((with_reducible refine (get_miss ?_).trans ?_); (focus kernel_rfl)) | ((with_reducible refine (get_pmiss ?_).trans ?_); (focus kernel_rfl)))); all_goals (conv => lhs; whnf; arg 1; whnf)) _ Try.underlying3 rfl ?_) | (refine wpList_kn_loadW KN (by rfl) 35 _ rfl _ rfl _ _ (by repeat (first | exact Has.here | refine Has.there ?_)) _ Try.underlying35 rfl (by kernel_rfl) ?_) | (refine wpList_kn_loadW KN (by rfl) 33 _ rfl _ rfl _ _ (by repeat (first | exact Has.here | refine Has.there ?_)) _ Try.underlying33 rfl (by kernel_rfl) ?_)) | ((refine gate_store (by rfl) ?_); first | (refine wpList_kn_storeW KN (by rfl) 35 _ _ rfl _ rfl _ rfl _ _ (by repeat (first | exact Repl.here | apply Repl.there)) (by kernel_rfl) (by kernel_rfl) (by kernel_rfl) ?_; clear KN; intro wx KN) | (refine wpList_kn_storeA KN (by rfl) 35 _ _ rfl _ _ rfl _ rfl _ _ (by repeat (first | exact Repl.here | apply Repl.there)) (by (try simp only [Array.size_setIfInBounds, putL_size]); first | exact Nat.le_of_ble_eq_true rfl | (simp; omega)) (by kernel_rfl) (by kernel_rfl) ?_; clear KN; intro wx KN) | (refine wpList_kn_storeW KN (by rfl) 33 _ _ rfl _ rfl _ rfl _ _ (by repeat (first | exact Repl.here | apply Repl.there)) (by kernel_rfl) (by kernel_rfl) (by kernel_rfl) ?_; clear KN; intro wx KN) | (refine wpList_kn_storeA KN (by rfl) 33 _ _ rfl _ _ rfl _ rfl _ _ (by repeat (first | exact Repl.here | apply Repl.there)) (by (try simp only [Array.size_setIfInBounds, putL_size]); first | exact Nat.le_of_ble_eq_true rfl | (simp; omega)) (by kernel_rfl) (by kernel_rfl) ?_; clear KN; intro wx KN)) | ((refine gate_new (by rfl) ?_); first | (refine wpList_kn_alloc KN (by rfl) 35 rfl 10 rfl Vm.zero.cells (by kernel_rfl) ?_; clear KN; intro g10 wx hg10 KN) | (refine wpList_kn_alloc KN (by rfl) 35 rfl 13 rfl Vm.zero.cells (by kernel_rfl) ?_; clear KN; intro g13 wx hg13 KN) | (refine wpList_kn_alloc KN (by rfl) 33 rfl 14 rfl Eff.none.cells (by kernel_rfl) ?_; clear KN; intro g14 wx hg14 KN) | (refine wpList_kn_alloc KN (by rfl) 35 rfl 16 rfl Vm.zero.cells (by kernel_rfl) ?_; clear KN; intro g16 wx hg16 KN) | (refine wpList_kn_alloc KN (by rfl) 33 rfl 17 rfl Eff.none.cells (by kernel_rfl) ?_; clear KN; intro g17 wx hg17 KN) | (refine wpList_kn_alloc KN (by rfl) 35 rfl 19 rfl Vm.zero.cells (by kernel_rfl) ?_; clear KN; intro g19 wx hg19 KN) | (refine wpList_kn_alloc KN (by rfl) 35 rfl 21 rfl Vm.zero.cells (by kernel_rfl) ?_; clear KN; intro g21 wx hg21 KN) | (refine wpList_kn_alloc KN (by rfl) 35 rfl 24 rfl Vm.zero.cells (by kernel_rfl) ?_; clear KN; intro g24 wx hg24 KN) | (refine wpList_kn_alloc KN (by rfl) 35 rfl 26 rfl Vm.zero.cells (by kernel_rfl) ?_; clear KN; intro g26 wx hg26 KN))))
        go_ret
        exact ⟨rfl, KN.toBelow⟩
theorem vmSteps_any (va vb vr vq : Value) (zs ys xs qs : List Int) (w : World) (hz : Ints w va zs) (hy : Ints w vb ys) (hx : U64s w vr xs) (hq : U64s w vq qs) :
    Calls Try.prog 7 #[va, vb, vr, vq] w fun e w' => e = .returned (.bool true) ∧ Below w.heap.size w w' := by
  by_cases h : zs.length ≤ 100 ∧ ys.length ≤ 200 ∧ xs.length ≤ 20 ∧ qs.length ≤ 60
  · exact steps_near va vb vr vq zs ys xs qs w hz hy hx hq h.1 h.2.1 h.2.2.1 h.2.2.2
  · exact steps_far va vb vr vq zs ys xs qs w hz hy hx hq (by omega)
end
end Go.Proofs.Ytbllialcfmpkaaa
