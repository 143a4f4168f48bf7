/- Assemble: the program of any text. -/
import Derived.Test.YtemigcdieghkfaaDoorPkAsmT
import Derived.Test.YtemigcdieghkfaaDoorPkKnAll
import Derived.Test.YtemigcdieghkfaaDoorShelf
set_option linter.unusedVariables false
set_option linter.unusedSimpArgs false
set_option linter.unusedSectionVars false
namespace Go.Proofs.YtemigcdieghkfaaDoor
open Go.RowKit Go.BigFrame

theorem wpList_kn_makeMap {P : Program} {ops : Array Oper} {rest : List Oper} {op : Oper} {a : Act} {Q : Exit → Act → World → Prop} {M : List Nat} {W w : World} {l : Ents} {H : Type} (KN : Kn M W w l) (hg : op.guard = none) (t : TypeId) (hop : op.op = .makeMap t none) (k : TypeId) (R : Value → Option (DataW H × List MemPlace))
    (h : ∀ g w', W.heap.size ≤ g → Kn M W w' ((g, MapAt P k R 0 (.map [])) :: l) → wpList P ops Q rest (a.put op.dst (.map (some g))) w') : wpList P ops Q (op :: rest) a w := by
  refine wpList_plain hg fun K' hK' => ?_
  unfold Oper.wp
  simp [execOp, hop, run_makeMap, Result.andThen]
  exact hK' _ _ (h _ _ KN.size (KN.madeMap P k R))
theorem formats_kn (w : World) : Calls Tryd.prog 25 #[] w fun e w' => ∃ t, e = .returned (asmT t) ∧ Kn [] w w' [(t, At fmtA 92)] :=
  (formats_any w).mono (by
    rintro e w' ⟨rfl, ft, hb, hlt⟩
    refine ⟨_, rfl, hb.os, hb.tape, hb.output, hb.size, fun k hk _ => hb.block k hk, fun g Φ h => ?_, fun g Φ h => ?_, by simp⟩
    · cases h with
      | here => exact ⟨_, ft, rfl⟩
      | there h => cases h
    · cases h with
      | here => exact .inr (Nat.le_refl _)
      | there h => cases h)
def AsmOut (l : List UInt8) (w : World) (e : Ending) (w' : World) : Prop :=
  ∃ (v : Value) (ol : Ents), e = .returned (.tuple #[v, .agg #[.int .i64 (asm l).2.1.1, .int .i64 (asm l).2.1.2], .int .i64 (asm l).2.2]) ∧ OwnT 35 5 v ((asm l).1.map fun x => x.cells.toList) ol ∧ Kn [] w w' ol
theorem leaves_put {P : Program} {fn : Func} {R : Ending → World → Prop} {i : Nat} {v : Value} (hr : ∀ tmps : Array Value, results fn (tmps.setIfInBounds i v) = results fn tmps) : ∀ (ds : List Deferred) (u : FrameMode) (w : World) (tmps : Array Value), Leaves P fn (tmps.setIfInBounds i v) R ds u w → Leaves P fn tmps R ds u w
  | [], .returning, w, tmps, ⟨x, h1, h2⟩ => ⟨x, by rw [← hr]; exact h1, h2⟩
  | [], .panicking c, w, tmps, h => h
  | [], .run, w, tmps, h => h.elim
  | d :: ds, u, w, tmps, ⟨hu, fv, cap, f, args, ht, hi, hc⟩ => ⟨hu, fv, cap, f, args, ht, hi, hc.mono (by
      intro e u' w' h
      cases e with
      | returned x => exact leaves_put hr ds _ _ _ h
      | panicked x => exact leaves_put hr ds _ _ _ h
      | outgrown => exact h)⟩
theorem asm_results_put (i : Nat) (hi : 5 ≤ i) (v : Value) (tmps : Array Value) : results Tryd.f8 (tmps.setIfInBounds i v) = results Tryd.f8 tmps := by
  have h2 : (tmps.setIfInBounds i v).getD 2 undef = tmps.getD 2 undef := by simp [Array.getD_eq_getD_getElem?, Array.getElem?_setIfInBounds_ne (show i ≠ 2 by omega)]
  have h3 : (tmps.setIfInBounds i v).getD 3 undef = tmps.getD 3 undef := by simp [Array.getD_eq_getD_getElem?, Array.getElem?_setIfInBounds_ne (show i ≠ 3 by omega)]
  have h4 : (tmps.setIfInBounds i v).getD 4 undef = tmps.getD 4 undef := by simp [Array.getD_eq_getD_getElem?, Array.getElem?_setIfInBounds_ne (show i ≠ 4 by omega)]
  simp only [results, Tryd.results8]
  simp [Array.getElem?_setIfInBounds_ne (show i ≠ 2 by omega), Array.getElem?_setIfInBounds_ne (show i ≠ 3 by omega), Array.getElem?_setIfInBounds_ne (show i ≠ 4 by omega)]
theorem load_one {w : World} {g : Nat} {v : Value} {T ty : TypeId} (h : BlkT w g #[v] T) (d : TypeDesc) (hu : Tryd.prog.underlying ty = some d) (hd : d.isRow = false) : (loadVar ty ⟨g, 0, none⟩).run Tryd.prog w = .ok v w := by
  have h1 := run_loadAt_one (w := w) g 0 ty v (by rw [blk_cell h]; rfl) d hu hd
  exact h1
theorem results_ccc {P : Program} {fn : Func} {p q r : Tmp} {t1 t2 t3 : TypeId} (h : fn.results = #[.cell p t1, .cell q t2, .cell r t3]) (tmps : Array Value) (w : World) (g1 g2 g3 : Nat) (v1 v2 v3 : Value)
    (hp : tmps.getD p undef = .pointer (some ⟨g1, 0, none⟩)) (h1 : (loadVar t1 ⟨g1, 0, none⟩).run P w = .ok v1 w) (hq : tmps.getD q undef = .pointer (some ⟨g2, 0, none⟩)) (h2 : (loadVar t2 ⟨g2, 0, none⟩).run P w = .ok v2 w) (hr : tmps.getD r undef = .pointer (some ⟨g3, 0, none⟩)) (h3 : (loadVar t3 ⟨g3, 0, none⟩).run P w = .ok v3 w) :
    (results fn tmps).run P w = .ok (.tuple #[v1, v2, v3]) w := by
  have hp' : tmps[p]?.getD undef = .pointer (some ⟨g1, 0, none⟩) := by simpa using hp
  have hq' : tmps[q]?.getD undef = .pointer (some ⟨g2, 0, none⟩) := by simpa using hq
  have hr' : tmps[r]?.getD undef = .pointer (some ⟨g3, 0, none⟩) := by simpa using hr
  simp [results, h, hp', hq', hr', asAddr, h1, h2, h3]
def AllRel (W : World) (g m t : Nat) (tv : Value) (el ec : Int) (d : List Tok) (L : Ents) (r : Except AErr ASt) (w : World) : Prop :=
  ∃ (f : Nat) (x : ASt), r = aAll d f x ∧ d.length ≤ f + x.i ∧ AsmOk d x ∧ AsmKn W g m t tv el ec d L x w
theorem AsmOk.start (d : List Tok) : AsmOk d ⟨0, [], [], []⟩ :=
  ⟨Nat.zero_le _, Nat.zero_le _, Nat.zero_le _, Nat.zero_le _, (fun u hu => by cases hu), (fun u hu => by cases hu), (fun u hu => by cases hu), (fun u hu => by cases hu), Dist.nil⟩
/-- The deferred closure behind an error. -/
theorem asm_door_bad {l : List UInt8} {w w' w2 : World} {tl : Ents} {g2 g3 g4 : Nat} {a b : Int} {q : Int × Int} {e : Int} {ds : List Deferred} {tmps : Array Value}
    (K0 : Kn [] w w' ((g4, At #[.int .i64 0] 26) :: (g3, At #[.int .i64 a, .int .i64 b] 25) :: (g2, At #[.slice none 0 0] 23) :: tl))
    (hb : Below w'.heap.size w' w2) (hasm : asm l = ([], q, e)) (h2 : tmps.getD 2 undef = .pointer (some ⟨g2, 0, none⟩)) (h3 : tmps.getD 3 undef = .pointer (some ⟨g3, 0, none⟩)) (h4 : tmps.getD 4 undef = .pointer (some ⟨g4, 0, none⟩))
    (hds : ds = [{ target := .fn (.func 23) #[.pointer (some ⟨g2, 0, none⟩), .pointer (some ⟨g3, 0, none⟩), .pointer (some ⟨g4, 0, none⟩)], args := #[] }]) :
    Leaves Tryd.prog Tryd.f8 tmps (AsmOut l w) ds (.panicking [{ v := .iface 55 (.agg #[.int .i64 q.1, .int .i64 q.2, .int .i64 e]), recovered := false }]) w2 := by
  subst hds
  refine leaves_cons (f := 23) (args := #[.pointer (some ⟨g2, 0, none⟩), .pointer (some ⟨g3, 0, none⟩), .pointer (some ⟨g4, 0, none⟩)]) (by simp) (by simp [go_sem]) ?_
  refine (asm_catch (L := tl) (v0 := .slice none 0 0) (v1 := .int .i64 a) (v2 := .int .i64 b) (v3 := .int .i64 0) q.1 q.2 e [] ((K0.below hb).perm ?_)).mono ?_
  · exact (List.Perm.swap _ _ _).trans ((List.Perm.cons _ (List.Perm.swap _ _ _)).trans (List.Perm.swap _ _ _))
  rintro e' u' w3 ⟨rfl, rfl, KN⟩
  refine ⟨_, results_ccc rfl _ _ g2 g3 g4 (.slice none 0 0) (.agg #[.int .i64 q.1, .int .i64 q.2]) (.int .i64 e) h2 (load_one (KN.at_ (by repeat (first | exact Has.here | refine Has.there ?_))) _ Tryd.underlying23 rfl) h3 (run_loadVar_row _ g3 _ _ _ (0, 0) _ (KN.at_ (by repeat (first | exact Has.here | refine Has.there ?_))) Tryd.underlying25 rfl (by kernel_rfl)) h4 (load_one (KN.at_ (by repeat (first | exact Has.here | refine Has.there ?_))) _ Tryd.underlying26 rfl), ?_⟩
  unfold AsmOut
  rw [hasm]
  exact ⟨_, [], rfl, .nil, KN.frame0⟩
/-- The deferred closure behind a program. -/
theorem asm_door_good {l : List UInt8} {w w2 : World} {g2 g3 g4 : Nat} {v : Value} {p : List Ins} {pl tl : Ents} {ds : List Deferred} {tmps : Array Value}
    (KN : Kn [] w w2 ((g4, At #[.int .i64 0] 26) :: (g3, At #[.int .i64 0, .int .i64 0] 25) :: (g2, At #[v] 23) :: (pl ++ tl)))
    (hp : OwnT 35 5 v (p.map fun x => x.cells.toList) pl) (hasm : asm l = (p, (0, 0), 0)) (h2 : tmps.getD 2 undef = .pointer (some ⟨g2, 0, none⟩)) (h3 : tmps.getD 3 undef = .pointer (some ⟨g3, 0, none⟩)) (h4 : tmps.getD 4 undef = .pointer (some ⟨g4, 0, none⟩))
    (hds : ds = [{ target := .fn (.func 23) #[.pointer (some ⟨g2, 0, none⟩), .pointer (some ⟨g3, 0, none⟩), .pointer (some ⟨g4, 0, none⟩)], args := #[] }]) :
    Leaves Tryd.prog Tryd.f8 tmps (AsmOut l w) ds .returning w2 := by
  subst hds
  refine leaves_cons (f := 23) (args := #[.pointer (some ⟨g2, 0, none⟩), .pointer (some ⟨g3, 0, none⟩), .pointer (some ⟨g4, 0, none⟩)]) (by simp) (by simp [go_sem]) ?_
  refine asm_idle.mono ?_
  rintro e' u' w3 ⟨rfl, rfl, rfl⟩
  refine ⟨_, results_ccc rfl _ _ g2 g3 g4 v (.agg #[.int .i64 0, .int .i64 0]) (.int .i64 0) h2 (load_one (KN.at_ (by repeat (first | exact Has.here | refine Has.there ?_))) _ Tryd.underlying23 rfl) h3 (run_loadVar_row _ g3 _ _ _ (0, 0) _ (KN.at_ (by repeat (first | exact Has.here | refine Has.there ?_))) Tryd.underlying25 rfl (by kernel_rfl)) h4 (load_one (KN.at_ (by repeat (first | exact Has.here | refine Has.there ?_))) _ Tryd.underlying26 rfl), ?_⟩
  unfold AsmOut
  rw [hasm]
  exact ⟨v, pl, rfl, hp, KN.sub (((List.sublist_append_left pl tl).cons _).cons _ |>.cons _)⟩
theorem asm_subl {α : Type _} (a b c : α) (l m : List α) : (a :: l).Sublist (a :: b :: c :: (l ++ m ++ [])) := by
  rw [List.append_nil]
  exact (((List.sublist_append_left l m).cons c).cons b).cons_cons a
theorem asm_perm {α : Type _} (a x y z : α) (l t : List α) : ((a :: l) ++ (x :: y :: z :: t)).Perm (x :: y :: z :: a :: (l ++ t)) :=
  List.perm_middle.trans ((List.perm_middle.trans (List.perm_middle.cons y)).cons x)
theorem posE_eq (l : List UInt8) (d : List Tok) (el ec : Int) (h : adv l (1, 1) = (el, ec)) (i : Nat) : tpos l d i = posE el ec d i := by
  unfold tpos posE; rw [h]; cases d[i]? <;> rfl
theorem asm_cases (l : List UInt8) (d : List Tok) (a b : Int) (h : scanRes l = (d, a, b, 0)) (el ec : Int) (hp : adv l (1, 1) = (el, ec)) :
    (∀ x, aAll d d.length ⟨0, [], [], []⟩ = .error x → asm l = ([], posE el ec d x.1, x.2)) ∧
    (∀ s, aAll d d.length ⟨0, [], [], []⟩ = .ok s → (s.prog = [] → asm l = ([], (0, 0), 15)) ∧ (¬ s.prog = [] → (∀ x, aResolve s = .error x → asm l = ([], posE el ec d x.1, x.2)) ∧ ∀ p, aResolve s = .ok p → asm l = (p, (0, 0), 0))) := by
  have hq := posE_eq l d el ec hp
  unfold asm
  rw [h]
  dsimp only
  rw [if_neg (by decide)]
  refine ⟨fun x hx => ?_, fun s hs => ⟨fun h0 => ?_, fun h0 => ⟨fun x hx => ?_, fun p hx => ?_⟩⟩⟩
  · rw [hx]; dsimp only; rw [hq]
  · rw [hs]; dsimp only; rw [if_pos h0]
  · rw [hs]; dsimp only; rw [if_neg h0, hx]; dsimp only; rw [hq]
  · rw [hs]; dsimp only; rw [if_neg h0, hx]
set_option maxRecDepth 100000 in
set_option maxHeartbeats 40000000 in
theorem Assemble_any (s : ByteArray) (w : World) (hs : s.size ≤ maxLen) : Calls Tryd.prog 8 #[.string s] w (AsmOut s.data.toList w) := by
  have hmf : ∀ (fn : Fn) (first cap : Array Value) (w : World), (Instr.makeFunc fn first cap).run Tryd.prog w = .ok (.func fn first cap) w := fun _ _ _ _ => rfl
  have KN := Kn.start w
  have HS := Lib.hid hs
  obtain ⟨d, hd⟩ : ∃ d, d = (scanRes s.data.toList).1 := ⟨_, rfl⟩
  obtain ⟨a, ha⟩ : ∃ a, a = (scanRes s.data.toList).2.1 := ⟨_, rfl⟩
  obtain ⟨b, hb⟩ : ∃ b, b = (scanRes s.data.toList).2.2.1 := ⟨_, rfl⟩
  obtain ⟨er, her⟩ : ∃ er, er = (scanRes s.data.toList).2.2.2 := ⟨_, rfl⟩
  have hsc : ∀ w0, ∀ e w', ScanPost s.data.toList w0 e w' → ∃ ta tc ol, e = .returned (.tuple #[.slice ta d.length tc, .agg #[.int .i64 a, .int .i64 b], .int .i64 er]) ∧ OwnT 45 5 (.slice ta d.length tc) (d.map fun t => t.cells.toList) ol ∧ Kn [] w0 w' ol := by
    rintro w0 e w' ⟨v, rfl, hown, hbel⟩
    rw [flat_map, ← hd] at hown
    obtain ⟨ol, h1, h2⟩ := Kn.of_owned hbel (tok_len d) (by rw [List.length_map]) hown
    obtain ⟨ta, tc, hv⟩ := h1.form
    rw [List.length_map] at hv
    subst hv
    exact ⟨ta, tc, ol, by rw [ha, hb, her], h1, h2⟩
  have HSC := Lib.hid hsc
  have HD := Lib.hid hd
  have HA := Lib.hid ha
  have HB := Lib.hid hb
  have HER := Lib.hid her
  clear hsc hd ha hb her hs
  by_cases he : er = 0
  · subst he
    have hsz : s.size ≤ 65536 := by
      rcases Nat.lt_or_ge 65536 s.size with h | h
      · have := HER.out
        rw [scanRes_long (l := s.data.toList) h] at this
        exact absurd this (by decide)
      · exact h
    have HSS : Hid (s.size < 4611686018427387904) := Lib.hid (by omega)
    have HDL : Hid (d.length ≤ 65536) := Lib.hid (by rw [HD.out]; exact scanRes_len _)
    have HTL : Hid (∀ t ∈ d, t.raw.text.length ≤ maxLen) := Lib.hid (by rw [HD.out]; exact fun t ht => Nat.le_trans (scanRes_tlen _ t ht) (by show s.size ≤ maxLen; unfold maxLen; omega))
    have HVAL : Hid (∀ t ∈ d, 0 ≤ t.raw.value ∧ t.raw.value ≤ 18446744073709551615) := Lib.hid (by rw [HD.out]; exact scanRes_val _)
    go_enter_defers Tryd.func8, Tryd.ntmps8
    go_upto_region 6 with (first | (go_at_call 22; refine (ScanP_any s _ HS.out).mono ?_; intro e wx hp; obtain ⟨ta, tc, tl, rfl, HTV, K2⟩ := HSC.out _ _ _ hp; replace KN := (KN.call0 K2).perm List.perm_append_comm; clear K2 hp; simp only [List.cons_append, List.nil_append] at KN) | (go_at_call 24; refine (Tryd.strings_LastIndexByte s _ HSS.out _).mono ?_; rintro e w' ⟨rfl, rfl⟩) | ((with_reducible refine wpList_gate ?_); first | ((refine gate_load (by rfl) ?_); first | (refine ks_load1 KN 26 Tryd.underlying26 ?_) | (refine ks_loadW KN 25 Tryd.underlying25 ?_) | (refine ks_load1 KN 3 Tryd.underlying3 ?_) | (refine ks_load1 KN 23 Tryd.underlying23 ?_)) | ((refine gate_store (by rfl) ?_); first | (refine ks_storeW KN 25 ?_; clear KN; intro wx KN) | (refine ks_storeA KN 25 ?_; clear KN; intro wx KN) | (refine ks_store1 KN 26 ?_; clear KN; intro wx KN) | (refine ks_store1 KN 23 ?_; clear KN; intro wx KN)) | ((refine gate_new (by rfl) ?_); first | (refine ks_alloc KN 23 (q := 2) #[.slice none 0 0] ?_; clear KN; intro g2 wx hg2 KN) | (refine ks_alloc KN 25 (q := 3) #[.int .i64 0, .int .i64 0] ?_; clear KN; intro g3 wx hg3 KN) | (refine ks_alloc KN 26 (q := 4) #[.int .i64 0] ?_; clear KN; intro g4 wx hg4 KN) | (refine ks_boxA KN 64 (q := 25) ?_; clear KN; intro g25 wx hg25 KN) | (refine wpList_built rfl 25 #[] rfl #[.int .i64 0, .int .i64 0] (by kernel_rfl) ?_))))
    have hrd := TokRd.of_own HTV KN (fun x hx => by simp [hx])
    have HRD := Lib.hid hrd
    have K0 := Lib.hid KN
    clear hrd
    replace KN := Kn.start w'
    go_upto_region 8 with (first | (go_at_call 25; refine (formats_kn _).mono ?_; intro e wx hp; obtain ⟨t, rfl, K2⟩ := hp; replace KN := (KN.call0 K2); clear K2; simp only [List.cons_append, List.nil_append] at KN) | (go_at_call 26; refine (Tryd.strings_Count_one s 10 _).mono ?_; rintro e w9 ⟨rfl, rfl⟩) | ((with_reducible refine wpList_gate ?_); first | (refine wpList_kn_makeMap KN rfl 61 rfl 9 (plainElem (H := Unit) Tryd.prog 3) ?_; clear KN; intro m wx hm KN) | ((refine gate_load (by rfl) ?_); first | (refine ks_load1 KN 26 Tryd.underlying26 ?_) | (refine ks_loadW KN 25 Tryd.underlying25 ?_) | (refine ks_load1 KN 3 Tryd.underlying3 ?_) | (refine ks_load1 KN 23 Tryd.underlying23 ?_)) | ((refine gate_store (by rfl) ?_); first | (refine ks_storeW KN 25 ?_; clear KN; intro wx KN) | (refine ks_storeA KN 25 ?_; clear KN; intro wx KN) | (refine ks_store1 KN 26 ?_; clear KN; intro wx KN) | (refine ks_store1 KN 23 ?_; clear KN; intro wx KN)) | ((refine gate_new (by rfl) ?_); first | (refine wpList_built rfl 64 _ rfl (asmC (.slice ta d.length tc) 0 0 0 (asmT t) (.slice none 0 0) (.map (some m)) (.slice none 0 0)) (by kernel_rfl) ?_) | (refine ks_alloc KN 23 (q := 2) #[.slice none 0 0] ?_; clear KN; intro g2 wx hg2 KN) | (refine ks_alloc KN 25 (q := 3) #[.int .i64 0, .int .i64 0] ?_; clear KN; intro g3 wx hg3 KN) | (refine ks_alloc KN 26 (q := 4) #[.int .i64 0] ?_; clear KN; intro g4 wx hg4 KN) | (refine ks_boxA KN 64 (q := 25) ?_; clear KN; intro g25 wx hg25 KN) | (refine wpList_built rfl 25 #[] rfl #[.int .i64 0, .int .i64 0] (by kernel_rfl) ?_))))
    have hend := adv_end s
    have hcb : (Lib.countByte s.data.toList 10 : Int) ≤ 65536 := by
      have : Lib.countByte s.data.toList 10 ≤ s.data.toList.length := List.count_le_length
      have e : s.data.toList.length = s.size := rfl
      omega
    obtain ⟨el, hel⟩ : ∃ el : Int, el = (Lib.countByte s.data.toList 10 : Int) + 1 := ⟨_, rfl⟩
    obtain ⟨ec, hec⟩ : ∃ ec : Int, ec = (s.size : Int) - Lib.lastIndexByte s 10 := ⟨_, rfl⟩
    have hbd := adv_bd s s.size (Nat.le_refl _)
    rw [List.take_of_length_le (show s.data.toList.length ≤ s.size from Nat.le_refl _), hend, ← hel, ← hec] at hbd
    have hw1 : wrap64 ((Lib.countByte s.data.toList 10 : Int) + 1) = el := by unfold wrap64; have h1 := hbd.1; have h2 := hbd.2.1; simp only at h1 h2; omega
    have hw2 : wrap64 ((s.size : Int) - Lib.lastIndexByte s 10) = ec := by unfold wrap64; have h1 := hbd.2.2.1; have h2 := hbd.2.2.2; simp only at h1 h2; omega
    replace KN := KN.as_ g25 (asmC (.slice ta d.length tc) 0 el ec (asmT t) (.slice none 0 0) (.map (some m)) (.slice none 0 0)) (by repeat (first | exact Repl.here | apply Repl.there)) (by rw [← hw1, ← hw2]; rfl)
    obtain ⟨r0, hr0⟩ : ∃ r0, r0 = aAll d d.length ⟨0, [], [], []⟩ := ⟨_, rfl⟩
    have HW := Lib.hid hw1
    clear hw1 hw2
    go_loopw [37] (fun _ wr => AllRel w' g25 m t (.slice ta d.length tc) el ec d [] r0 wr) (fun _ wr => d.length - asmAt g25 wr)
    case atStart => exact ⟨d.length, _, hr0, by omega, AsmOk.start d, none, 0, [], .slice none 0 0, [], .nil, .nil, KN⟩
    case round =>
      clear KN
      obtain ⟨f, x, hr, hf, hok, hk⟩ := hrel
      have HOK := Lib.hid hok
      have HR := Lib.hid (hr0.symm.trans hr)
      have HK := Lib.hid hk
      obtain ⟨pa, pc, pl, ov, ol, OP, OO, KN⟩ := hk
      have HOP := Lib.hid OP
      have hat := asmAt_eq KN (by repeat (first | exact Has.here | refine Has.there ?_))
      have HAT := Lib.hid hat
      clear hr hok hat OP OO
      have HASM := Lib.hid (asm_cases s.data.toList d a b (by rw [HD.out, HA.out, HB.out, HER.out]) el ec (by rw [hend, hel, hec]))
      clear hel hec hend
      rcases Nat.lt_or_ge x.i d.length with hx | hx
      · have hlt : decide ((x.i : Int) < (d.length : Int)) = true := decide_eq_true (by omega)
        cases hI : aInstr d x with
        | error er =>
          have HI := Lib.hid hI
          clear hI
          have HAE : Hid (asm s.data.toList = ([], posE el ec d er.1, er.2)) := Lib.hid (HASM.out.1 er (by
            rw [HR.out]
            obtain ⟨f, rfl⟩ : ∃ f', f = f' + 1 := ⟨f - 1, by omega⟩
            rw [aAll, if_pos hx, HI.out]))
          go_wp2_with (first | (go_at_call 27; refine (asm_instr HK.out HOK.out.dist HRD.out HDL.out HOK.out.i HOK.out.lab HOK.out.prog (by have := HOK.out.uses; have := HOK.out.prog; omega) HVAL.out HTL.out).mono ?_; rw [HI.out]; rintro e wx ⟨rfl, hb⟩) | ((with_reducible refine wpList_gate ?_); first | ((refine gate_load (by rfl) ?_); first | (refine ks_load1 KN 26 Tryd.underlying26 ?_) | (refine ks_loadW KN 25 Tryd.underlying25 ?_) | (refine ks_load1 KN 3 Tryd.underlying3 ?_) | (refine ks_load1 KN 23 Tryd.underlying23 ?_)) | ((refine gate_store (by rfl) ?_); first | (refine ks_storeW KN 25 ?_; clear KN; intro wx KN) | (refine ks_storeA KN 25 ?_; clear KN; intro wx KN) | (refine ks_store1 KN 26 ?_; clear KN; intro wx KN) | (refine ks_store1 KN 23 ?_; clear KN; intro wx KN)) | ((refine gate_new (by rfl) ?_); first | (refine ks_alloc KN 23 (q := 2) #[.slice none 0 0] ?_; clear KN; intro g2 wx hg2 KN) | (refine ks_alloc KN 25 (q := 3) #[.int .i64 0, .int .i64 0] ?_; clear KN; intro g3 wx hg3 KN) | (refine ks_alloc KN 26 (q := 4) #[.int .i64 0] ?_; clear KN; intro g4 wx hg4 KN) | (refine ks_boxA KN 64 (q := 25) ?_; clear KN; intro g25 wx hg25 KN) | (refine wpList_built rfl 25 #[] rfl #[.int .i64 0, .int .i64 0] (by kernel_rfl) ?_))))
          exact asm_door_bad K0.out hb HAE.out (by rfl) (by rfl) (by rfl) (by rfl)
        | ok x' =>
          have hi2 := HOK.out.instr HVAL.out HTL.out hI
          have HI := Lib.hid hI
          have HI2 := Lib.hid hi2
          clear hI hi2
          go_wp2_with (first | (go_at_call 27; refine (asm_instr HK.out HOK.out.dist HRD.out HDL.out HOK.out.i HOK.out.lab HOK.out.prog (by have := HOK.out.uses; have := HOK.out.prog; omega) HVAL.out HTL.out).mono ?_; rw [HI.out]; rintro e wx ⟨rfl, HK2, _⟩) | ((with_reducible refine wpList_gate ?_); first | ((refine gate_load (by rfl) ?_); first | (refine ks_load1 KN 26 Tryd.underlying26 ?_) | (refine ks_loadW KN 25 Tryd.underlying25 ?_) | (refine ks_load1 KN 3 Tryd.underlying3 ?_) | (refine ks_load1 KN 23 Tryd.underlying23 ?_)) | ((refine gate_store (by rfl) ?_); first | (refine ks_storeW KN 25 ?_; clear KN; intro wx KN) | (refine ks_storeA KN 25 ?_; clear KN; intro wx KN) | (refine ks_store1 KN 26 ?_; clear KN; intro wx KN) | (refine ks_store1 KN 23 ?_; clear KN; intro wx KN)) | ((refine gate_new (by rfl) ?_); first | (refine ks_alloc KN 23 (q := 2) #[.slice none 0 0] ?_; clear KN; intro g2 wx hg2 KN) | (refine ks_alloc KN 25 (q := 3) #[.int .i64 0, .int .i64 0] ?_; clear KN; intro g3 wx hg3 KN) | (refine ks_alloc KN 26 (q := 4) #[.int .i64 0] ?_; clear KN; intro g4 wx hg4 KN) | (refine ks_boxA KN 64 (q := 25) ?_; clear KN; intro g25 wx hg25 KN) | (refine wpList_built rfl 25 #[] rfl #[.int .i64 0, .int .i64 0] (by kernel_rfl) ?_))))
          go_round
          case rel => exact ⟨f - 1, x', by
            rw [hr0, HR.out]
            obtain ⟨f, rfl⟩ : ∃ f', f = f' + 1 := ⟨f - 1, by omega⟩
            rw [aAll, if_pos hx, HI.out]; rfl, by have := HI2.out.2.2; omega, HI2.out.1, HK2⟩
          case measure =>
            obtain ⟨pa2, pc2, pl2, ov2, ol2, _, _, KN2⟩ := HK2
            rw [HAT.out, asmAt_eq KN2 (by repeat (first | exact Has.here | refine Has.there ?_))]
            have := HI2.out.2.2
            omega
      · have hlt : decide ((x.i : Int) < (d.length : Int)) = false := decide_eq_false (by omega)
        have HAX : Hid (aAll d d.length ⟨0, [], [], []⟩ = .ok x) := Lib.hid (by
          rw [HR.out]
          cases f with
          | zero => rfl
          | succ f => rw [aAll, if_neg (by omega)])
        by_cases hp : x.prog = []
        · have HPN := Lib.hid hp
          clear hp
          have HAE : Hid (asm s.data.toList = ([], (0, 0), 15)) := Lib.hid ((HASM.out.2 x HAX.out).1 HPN.out)
          go_wp2_with (first | (go_at_call 28; refine (asm_resolve_nil HK.out HPN.out).mono ?_; rintro e wx ⟨rfl, hb⟩) | ((with_reducible refine wpList_gate ?_); first | ((refine gate_load (by rfl) ?_); first | (refine ks_load1 KN 26 Tryd.underlying26 ?_) | (refine ks_loadW KN 25 Tryd.underlying25 ?_) | (refine ks_load1 KN 3 Tryd.underlying3 ?_) | (refine ks_load1 KN 23 Tryd.underlying23 ?_)) | ((refine gate_store (by rfl) ?_); first | (refine ks_storeW KN 25 ?_; clear KN; intro wx KN) | (refine ks_storeA KN 25 ?_; clear KN; intro wx KN) | (refine ks_store1 KN 26 ?_; clear KN; intro wx KN) | (refine ks_store1 KN 23 ?_; clear KN; intro wx KN)) | ((refine gate_new (by rfl) ?_); first | (refine ks_alloc KN 23 (q := 2) #[.slice none 0 0] ?_; clear KN; intro g2 wx hg2 KN) | (refine ks_alloc KN 25 (q := 3) #[.int .i64 0, .int .i64 0] ?_; clear KN; intro g3 wx hg3 KN) | (refine ks_alloc KN 26 (q := 4) #[.int .i64 0] ?_; clear KN; intro g4 wx hg4 KN) | (refine ks_boxA KN 64 (q := 25) ?_; clear KN; intro g25 wx hg25 KN) | (refine wpList_built rfl 25 #[] rfl #[.int .i64 0, .int .i64 0] (by kernel_rfl) ?_))))
          exact asm_door_bad K0.out hb HAE.out (by rfl) (by rfl) (by rfl) (by rfl)
        · have HPN := Lib.hid hp
          have HP1 : Hid (1 ≤ x.prog.length) := Lib.hid (by
            rcases Nat.eq_zero_or_pos x.prog.length with h | h
            · exact absurd (List.eq_nil_of_length_eq_zero h) hp
            · exact h)
          clear hp
          cases hI : aResolve x with
          | error er =>
            have HI := Lib.hid hI
            clear hI
            have HAE : Hid (asm s.data.toList = ([], posE el ec d er.1, er.2)) := Lib.hid (((HASM.out.2 x HAX.out).2 HPN.out).1 er HI.out)
            go_wp2_with (first | (go_at_call 28; refine (asm_resolve HK.out HOK.out.dist HP1.out HOK.out.prog (by have := HOK.out.uses; have := HOK.out.prog; omega) HOK.out.ins HOK.out.num HOK.out.imm HOK.out.len).mono ?_; rw [HI.out]; rintro e wx ⟨rfl, hb⟩) | ((with_reducible refine wpList_gate ?_); first | ((refine gate_load (by rfl) ?_); first | (refine ks_load1 KN 26 Tryd.underlying26 ?_) | (refine ks_loadW KN 25 Tryd.underlying25 ?_) | (refine ks_load1 KN 3 Tryd.underlying3 ?_) | (refine ks_load1 KN 23 Tryd.underlying23 ?_)) | ((refine gate_store (by rfl) ?_); first | (refine ks_storeW KN 25 ?_; clear KN; intro wx KN) | (refine ks_storeA KN 25 ?_; clear KN; intro wx KN) | (refine ks_store1 KN 26 ?_; clear KN; intro wx KN) | (refine ks_store1 KN 23 ?_; clear KN; intro wx KN)) | ((refine gate_new (by rfl) ?_); first | (refine ks_alloc KN 23 (q := 2) #[.slice none 0 0] ?_; clear KN; intro g2 wx hg2 KN) | (refine ks_alloc KN 25 (q := 3) #[.int .i64 0, .int .i64 0] ?_; clear KN; intro g3 wx hg3 KN) | (refine ks_alloc KN 26 (q := 4) #[.int .i64 0] ?_; clear KN; intro g4 wx hg4 KN) | (refine ks_boxA KN 64 (q := 25) ?_; clear KN; intro g25 wx hg25 KN) | (refine wpList_built rfl 25 #[] rfl #[.int .i64 0, .int .i64 0] (by kernel_rfl) ?_))))
            exact asm_door_bad K0.out hb HAE.out (by rfl) (by rfl) (by rfl) (by rfl)
          | ok p =>
            have HI := Lib.hid hI
            clear hI
            have HAE : Hid (asm s.data.toList = (p, (0, 0), 0)) := Lib.hid (((HASM.out.2 x HAX.out).2 HPN.out).2 p HI.out)
            go_upto_region 11 with (first | (go_at_call 28; refine (asm_resolve HK.out HOK.out.dist HP1.out HOK.out.prog (by have := HOK.out.uses; have := HOK.out.prog; omega) HOK.out.ins HOK.out.num HOK.out.imm HOK.out.len).mono ?_; rw [HI.out]; rintro e wx ⟨rfl, HK2⟩) | ((with_reducible refine wpList_gate ?_); first | ((refine gate_load (by rfl) ?_); first | (refine ks_load1 KN 26 Tryd.underlying26 ?_) | (refine ks_loadW KN 25 Tryd.underlying25 ?_) | (refine ks_load1 KN 3 Tryd.underlying3 ?_) | (refine ks_load1 KN 23 Tryd.underlying23 ?_)) | ((refine gate_store (by rfl) ?_); first | (refine ks_storeW KN 25 ?_; clear KN; intro wx KN) | (refine ks_storeA KN 25 ?_; clear KN; intro wx KN) | (refine ks_store1 KN 26 ?_; clear KN; intro wx KN) | (refine ks_store1 KN 23 ?_; clear KN; intro wx KN)) | ((refine gate_new (by rfl) ?_); first | (refine ks_alloc KN 23 (q := 2) #[.slice none 0 0] ?_; clear KN; intro g2 wx hg2 KN) | (refine ks_alloc KN 25 (q := 3) #[.int .i64 0, .int .i64 0] ?_; clear KN; intro g3 wx hg3 KN) | (refine ks_alloc KN 26 (q := 4) #[.int .i64 0] ?_; clear KN; intro g4 wx hg4 KN) | (refine ks_boxA KN 64 (q := 25) ?_; clear KN; intro g25 wx hg25 KN) | (refine wpList_built rfl 25 #[] rfl #[.int .i64 0, .int .i64 0] (by kernel_rfl) ?_))))
            clear KN
            obtain ⟨pa2, pc2, pl2, ov2, ol2, OP2, _, KN⟩ := HK2
            have HOP2 := Lib.hid OP2
            clear OP2
            replace KN := (K0.out.call0 (KN.sub (asm_subl _ _ _ pl2 ol2))).perm (asm_perm _ _ _ _ _ _)
            go_wp2_with (first | ((with_reducible refine wpList_gate ?_); first | ((refine gate_load (by rfl) ?_); first | (refine ks_load1 KN 26 Tryd.underlying26 ?_) | (refine ks_loadW KN 25 Tryd.underlying25 ?_) | (refine ks_load1 KN 3 Tryd.underlying3 ?_) | (refine ks_load1 KN 23 Tryd.underlying23 ?_)) | ((refine gate_store (by rfl) ?_); first | (refine ks_storeW KN 25 ?_; clear KN; intro wx KN) | (refine ks_storeA KN 25 ?_; clear KN; intro wx KN) | (refine ks_store1 KN 26 ?_; clear KN; intro wx KN) | (refine ks_store1 KN 23 ?_; clear KN; intro wx KN)) | ((refine gate_new (by rfl) ?_); first | (refine wpList_built rfl 25 _ rfl #[.int .i64 0, .int .i64 0] (by kernel_rfl) ?_) | (refine ks_alloc KN 23 (q := 2) #[.slice none 0 0] ?_; clear KN; intro g2 wx hg2 KN) | (refine ks_alloc KN 25 (q := 3) #[.int .i64 0, .int .i64 0] ?_; clear KN; intro g3 wx hg3 KN) | (refine ks_alloc KN 26 (q := 4) #[.int .i64 0] ?_; clear KN; intro g4 wx hg4 KN) | (refine ks_boxA KN 64 (q := 25) ?_; clear KN; intro g25 wx hg25 KN) | (refine wpList_built rfl 25 #[] rfl #[.int .i64 0, .int .i64 0] (by kernel_rfl) ?_))))
            exact asm_door_good (KN.drop (.there (.there (.there .here)))) HOP2.out HAE.out (by rfl) (by rfl) (by rfl) (by rfl)
  · have he' : (er != 0) = true := by rw [bne_iff_ne]; exact he
    have HE := Lib.hid he
    clear he
    go_enter_defers Tryd.func8, Tryd.ntmps8
    go_upto_region 3 with (first | (go_at_call 22; refine (ScanP_any s _ HS.out).mono ?_; intro e wx hp; obtain ⟨ta, tc, tl, rfl, HTV, K2⟩ := HSC.out _ _ _ hp; replace KN := (KN.call0 K2).perm List.perm_append_comm; clear K2 hp; simp only [List.cons_append, List.nil_append] at KN) | ((with_reducible refine wpList_gate ?_); first | ((refine gate_load (by rfl) ?_); first | (refine ks_load1 KN 26 Tryd.underlying26 ?_) | (refine ks_loadW KN 25 Tryd.underlying25 ?_) | (refine ks_load1 KN 3 Tryd.underlying3 ?_) | (refine ks_load1 KN 23 Tryd.underlying23 ?_)) | ((refine gate_store (by rfl) ?_); first | (refine ks_storeW KN 25 ?_; clear KN; intro wx KN) | (refine ks_storeA KN 25 ?_; clear KN; intro wx KN) | (refine ks_store1 KN 26 ?_; clear KN; intro wx KN) | (refine ks_store1 KN 23 ?_; clear KN; intro wx KN)) | ((refine gate_new (by rfl) ?_); first | (refine ks_alloc KN 23 (q := 2) #[.slice none 0 0] ?_; clear KN; intro g2 wx hg2 KN) | (refine ks_alloc KN 25 (q := 3) #[.int .i64 0, .int .i64 0] ?_; clear KN; intro g3 wx hg3 KN) | (refine ks_alloc KN 26 (q := 4) #[.int .i64 0] ?_; clear KN; intro g4 wx hg4 KN) | (refine ks_boxA KN 64 (q := 25) ?_; clear KN; intro g25 wx hg25 KN) | (refine wpList_built rfl 25 #[] rfl #[.int .i64 0, .int .i64 0] (by kernel_rfl) ?_))))
    (try go_frame)
    go_cut [16, 17] from 16 to 17 (fun _ _ wz => Kn [] w wz ((g4, At #[.int .i64 er] 26) :: (g3, At #[.int .i64 a, .int .i64 b] 25) :: (g2, At #[.slice none 0 0] 23) :: tl))
    case first =>
      replace KN := KN.drew
      refine wp_region_held_drew (S := (fun w' => BlkT w' g3 #[.int .i64 a, .int .i64 b] 25 ∧ BlkT w' g4 #[.int .i64 er] 26)) (by kernel_rfl) ?qehS (fun hHeld => ?qerest)
      case qehS => exact ⟨KN.at_ (by repeat (first | exact Has.here | refine Has.there ?_)), KN.at_ (by repeat (first | exact Has.here | refine Has.there ?_))⟩
      refine wpAnyH_take (i := 0) (oi := ⟨some 16, _, _, _, _, _⟩) (v := (.agg #[.int .i64 a, .int .i64 b])) rfl (by kernel_rfl) (by kernel_rfl) (by kernel_rfl) (fun _ a _ h => leaves_put (asm_results_put _ (by decide) _) _ _ _ a.tmps h) (kn_yieldsN (by rfl) 25 _ rfl g3 0 rfl _ 25 (fun _ h => h.1) #[.int .i64 a, .int .i64 b] rfl _ Tryd.underlying25 rfl (by kernel_rfl)) hHeld ?qer0
      (try simp only [Act.put, List.setIfInBounds_toArray, List.set_cons_zero, List.set_cons_succ])
      refine wpAnyH_take (i := 1) (oi := ⟨some 17, _, _, _, _, _⟩) (v := (.int .i64 er)) rfl (by kernel_rfl) (by kernel_rfl) (by kernel_rfl) (fun _ a _ h => leaves_put (asm_results_put _ (by decide) _) _ _ _ a.tmps h) (kn_yields1 (by rfl) 26 _ rfl g4 0 rfl _ 26 (fun _ h => h.2) _ rfl _ Tryd.underlying26 rfl) hHeld ?qer1
      (try simp only [Act.put, List.setIfInBounds_toArray, List.set_cons_zero, List.set_cons_succ])
      refine wpAnyH_ready (rs := [2]) (by kernel_rfl) (by simp) ?qec2
      refine AllReadyH.cons (o := ⟨none, _, _, _, _, _⟩) rfl (fun K hK => ?qest2) AllReadyH.nil
      (rw [if_pos (by rfl)]; refine wp_kn_store1 KN 23 _ _ rfl g2 0 rfl _ rfl rfl _ _ (by repeat (first | exact Repl.here | apply Repl.there)) (by simp) (by kernel_rfl) (by rfl) ?_; clear KN; intro wx KN)
      refine hK.out _ _ ?qek2 (fun hHeld2 => ?qem2)
      case qek2 => exact ⟨KN.at_ (by repeat (first | exact Has.here | refine Has.there ?_)), KN.at_ (by repeat (first | exact Has.here | refine Has.there ?_))⟩
      clear hK K hHeld
      have hHeld := hHeld2; clear hHeld2
      (try simp only [Act.put, List.setIfInBounds_toArray, List.set_cons_zero, List.set_cons_succ])
      refine wpAnyH_ready (rs := [3]) (by kernel_rfl) (by simp) ?qec3
      refine AllReadyH.cons (o := ⟨none, _, _, _, _, _⟩) rfl (fun K hK => ?qest3) AllReadyH.nil
      (rw [if_pos (by rfl)]; refine wp_kn_storeW KN 25 _ _ rfl _ rfl #[.int .i64 a, .int .i64 b] rfl _ _ (by repeat (first | exact Repl.here | apply Repl.there)) (by kernel_rfl) (by kernel_rfl) (by kernel_rfl) ?_; clear KN; intro wx KN)
      refine hK.out _ _ ?qek3 (fun hHeld2 => ?qem3)
      case qek3 => exact ⟨KN.at_ (by repeat (first | exact Has.here | refine Has.there ?_)), KN.at_ (by repeat (first | exact Has.here | refine Has.there ?_))⟩
      clear hK K hHeld
      have hHeld := hHeld2; clear hHeld2
      (try simp only [Act.put, List.setIfInBounds_toArray, List.set_cons_zero, List.set_cons_succ])
      refine wpAnyH_ready (rs := [4]) (by kernel_rfl) (by simp) ?qec4
      refine AllReadyH.cons (o := ⟨none, _, _, _, _, _⟩) rfl (fun K hK => ?qest4) AllReadyH.nil
      (rw [if_pos (by rfl)]; refine wp_kn_store1 KN 26 _ _ rfl g4 0 rfl _ rfl rfl _ _ (by repeat (first | exact Repl.here | apply Repl.there)) (by simp) (by kernel_rfl) (by rfl) ?_; clear KN; intro wx KN)
      refine hK.out _ _ ?qek4 (fun hHeld2 => ?qem4)
      case qek4 => exact ⟨KN.at_ (by repeat (first | exact Has.here | refine Has.there ?_)), KN.at_ (by repeat (first | exact Has.here | refine Has.there ?_))⟩
      clear hK K hHeld
      have hHeld := hHeld2; clear hHeld2
      (try simp only [Act.put, List.setIfInBounds_toArray, List.set_cons_zero, List.set_cons_succ])
      refine wpAnyH_done (by kernel_rfl) ?qedone _
      go_wp2_with fail
      go_meet
      exact KN
    case rest =>
      replace KN := hcut
      go_wp2_with fail
      have hasm : asm s.data.toList = ([], (a, b), er) := by
        unfold asm
        have h : scanRes s.data.toList = (d, a, b, er) := by rw [HD.out, HA.out, HB.out, HER.out]
        rw [h]
        show (if ¬ er = 0 then _ else _) = _
        rw [if_pos HE.out]
      refine ⟨_, results_ccc rfl _ _ g2 g3 g4 (.slice none 0 0) (.agg #[.int .i64 a, .int .i64 b]) (.int .i64 er) rfl (load_one (KN.at_ (by repeat (first | exact Has.here | refine Has.there ?_))) _ Tryd.underlying23 rfl) rfl (run_loadVar_row _ g3 _ _ _ (0, 0) _ (KN.at_ (by repeat (first | exact Has.here | refine Has.there ?_))) Tryd.underlying25 rfl (by kernel_rfl)) rfl (load_one (KN.at_ (by repeat (first | exact Has.here | refine Has.there ?_))) _ Tryd.underlying26 rfl), ?_⟩
      unfold AsmOut
      rw [hasm]
      exact ⟨_, [], rfl, .nil, KN.frame0⟩
end Go.Proofs.YtemigcdieghkfaaDoor
