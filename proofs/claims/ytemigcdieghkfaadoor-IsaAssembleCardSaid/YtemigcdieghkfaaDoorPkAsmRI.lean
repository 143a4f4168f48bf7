/- Merged: AsmRes, AsmInv. -/
import Derived.Test.YtemigcdieghkfaaDoorPkAsmIns
import Derived.Test.YtemigcdieghkfaaDoorPkKnAll
set_option linter.unusedVariables false
set_option linter.unusedSimpArgs false
set_option linter.unusedSectionVars false
namespace Go.Proofs.YtemigcdieghkfaaDoor
section
open Go.RowKit Go.BigFrame

theorem kn_yields_lookup {P : Program} {ops : Array Oper} {op : Oper} {a : Act} {S : World → Prop} (hw : Region.wanted op (yielded ops a.tmps) = true) (mo x : Operand) (t : TypeId) (hop : op.op = Op.lookup t mo x true) (k e : TypeId) (q : IntKind) (K : Maps.Keyed P k) (ht : P.underlying t = some (.map k e)) (he : P.underlying e = some (.int q))
    (hz : ∀ w, (zeroValue e).run P w = .ok (.int q 0) w) (m n : Nat) (D : DataW Unit) (hm : a.eval mo = .map (some m)) (hS : ∀ w, S w → w.ownsMap P k (plainElem P e) m n D) (key : Value) (kl : Lit) (hx : a.eval x = key) (hkey : keyOf P k key = some kl)
    (c : Int) (hc : D.atKey kl (.lit (.int q 0)) = .lit (.int q c)) (b : Bool) (hb : Maps.has D kl = b) : YieldsIf P ops S op (.tuple #[.int q c, .bool b]) a :=
  .inl ⟨hw, fun w hw' => by
    obtain ⟨v, ps, hrun, hv⟩ := (hS w hw').look_ok K ht (hz w) (plainElem_int he (by cases q <;> decide)) hkey
    obtain ⟨c', rfl, hc', _⟩ := plainElem_int_inv he hv
    have e1 : c' = c := by
      have := (congrArg Prod.fst hc').symm.trans hc
      simpa using this
    subst e1
    subst hb
    unfold execOp
    simp only [hop, hm, hx, Sem.run_bind, hrun]
    rfl⟩
abbrev resEnts (g m t gp go cp co n : Nat) (tv : Value) (el ec : Int) (d : List Tok) (i : Nat) (ls : Labels) (us : List ARef) (L : Ents) (p : List Ins) : Ents :=
  (g, At (asmC tv i el ec (asmT t) (.slice (some ⟨gp, 0, none⟩) n cp) (.map (some m)) (.slice (some ⟨go, 0, none⟩) us.length co)) 64) :: (m, labM ls) :: (t, At fmtA 92) ::
    (gp, CapAt 35 5 cp (p.map fun x => x.cells.toList)) :: (go, CapAt 128 5 co (us.map (refC el ec d))) :: L
def ImmOk (p : List Ins) : Prop := ∀ x ∈ p, -2147483648 ≤ x.imm ∧ x.imm ≤ 2147483647
def ResRel (W : World) (g m t gp go cp co n : Nat) (tv : Value) (el ec : Int) (d : List Tok) (i : Nat) (ls : Labels) (us : List ARef) (L : Ents) (r : Except AErr (List Ins)) (s21 : Value) (w : World) : Prop :=
  ∃ (k : Nat) (p : List Ins), s21 = .int .i64 (k : Int) ∧ k ≤ us.length ∧ p.length = n ∧ ImmOk p ∧ r = aFix ls n (us.drop k) p ∧ Kn [] W w (resEnts g m t gp go cp co n tv el ec d i ls us L p)
/-- What resolve comes to. -/
def ResPost (W : World) (g m t : Nat) (tv : Value) (el ec : Int) (d : List Tok) (L : Ents) (s : ASt) (r : Except AErr (List Ins)) (e : Ending) (w : World) : Prop := match r with
  | .ok p => e = .returned (.tuple #[]) ∧ AsmKn W g m t tv el ec d L ⟨s.i, p, s.labels, s.uses⟩ w
  | .error x => e = failE (posE el ec d x.1) x.2 ∧ Below W.heap.size W w
theorem ResPost.err {W : World} {g m t : Nat} {tv : Value} {el ec : Int} {d : List Tok} {L : Ents} {s : ASt} {r : Except AErr (List Ins)} {x : AErr} {w : World} (h : r = .error x) (hb : Below W.heap.size W w) : ResPost W g m t tv el ec d L s r (failE (posE el ec d x.1) x.2) w := by rw [h]; exact ⟨rfl, hb⟩
theorem ResPost.ok {W : World} {g m t : Nat} {tv : Value} {el ec : Int} {d : List Tok} {L : Ents} {s : ASt} {r : Except AErr (List Ins)} {p : List Ins} {w : World} (h : r = .ok p) (hk : AsmKn W g m t tv el ec d L ⟨s.i, p, s.labels, s.uses⟩ w) : ResPost W g m t tv el ec d L s r (.returned (.tuple #[])) w := by rw [h]; exact ⟨rfl, hk⟩
set_option maxRecDepth 100000 in
set_option maxHeartbeats 40000000 in
theorem asm_resolve_nil {W w : World} {L : Ents} {g m t : Nat} {tv : Value} {el ec : Int} {d : List Tok} {s : ASt} (hk : AsmKn W g m t tv el ec d L s w) (hp : s.prog = []) :
    Calls Tryd.prog 28 #[.pointer (some ⟨g, 0, none⟩)] w fun e w' => e = failE (0, 0) 15 ∧ Below W.heap.size W w' := by
  obtain ⟨pa, pc, pl, ov, ol, OP, OO, KN⟩ := hk
  have hn : s.prog.length = 0 := by rw [hp]; rfl
  rw [hn] at KN
  clear OP OO hp hn
  go_enter Tryd.func28, Tryd.ntmps28
  go_wp2_with (first | ((with_reducible refine wpList_gate ?_); first | ((refine gate_load (by rfl) ?_); first | (refine ks_load1 KN 23 Tryd.underlying23 ?_) | (refine ks_load1 KN 62 Tryd.underlying62 ?_) | (refine ks_loadW KN 128 Tryd.underlying128 ?_) | (refine ks_load1 KN 3 Tryd.underlying3 ?_) | (refine ks_load1 KN 9 Tryd.underlying9 ?_) | (refine ks_load1 KN 61 Tryd.underlying61 ?_) | (refine ks_loadW KN 25 Tryd.underlying25 ?_) | (refine ks_load1 KN 4 Tryd.underlying4 ?_) | (refine ks_load1 KN 21 Tryd.underlying21 ?_)) | ((refine gate_store (by rfl) ?_); first | (refine ks_storeW KN 128 ?_; clear KN; intro wx KN) | (refine ks_storeA KN 128 ?_; clear KN; intro wx KN) | (refine ks_store1 KN 21 ?_; clear KN; intro wx KN)) | ((refine gate_new (by rfl) ?_); first | (refine wpList_built rfl 25 _ rfl #[.int .i64 0, .int .i64 0] (by kernel_rfl) ?_) | (refine wpList_built rfl 55 _ rfl #[.int .i64 0, .int .i64 0, .int .i64 15] (by kernel_rfl) ?_) | (refine wpList_built rfl 25 #[] rfl #[.int .i64 0, .int .i64 0] (by kernel_rfl) ?_) | (refine ks_alloc KN 128 (q := 3) #[.int .i64 0, .string ByteArray.empty, .bool false, .int .i64 0, .int .i64 0] ?_; clear KN; intro g3 wx hg3 KN))))
  exact ⟨rfl, rfl, KN.toBelow⟩
section
variable {ls : Labels} {n : Nat} {u : ARef} {us : List ARef} {p : List Ins} {x : Ins}
theorem getD_of {α : Type} {l : List α} {i : Nat} {x d : α} (h : l[i]? = some x) : l.getD i d = x := by rw [List.getD_eq_getElem?_getD, h]; rfl
theorem aFix_1 (hx : p[u.instr]? = some x) (hl : u.label = []) (h : u.target = true ∧ (n : Int) ≤ x.imm) : aFix ls n (u :: us) p = .error (u.at_, 71) := by rw [aFix, if_pos hl, getD_of hx, if_pos h]
theorem aFix_2 (hx : p[u.instr]? = some x) (hl : u.label = []) (h : ¬ (u.target = true ∧ (n : Int) ≤ x.imm)) : aFix ls n (u :: us) p = aFix ls n us p := by rw [aFix, if_pos hl, getD_of hx, if_neg h]
theorem aFix_3 (hl : ¬ u.label = []) (hn : labelAt ls u.label = none) : aFix ls n (u :: us) p = .error (u.at_, 72) := by rw [aFix, if_neg hl, hn]
theorem aFix_4 {k : Nat} (hl : ¬ u.label = []) (hn : labelAt ls u.label = some k) (h : u.target = true ∧ (n : Int) ≤ (k : Int)) : aFix ls n (u :: us) p = .error (u.at_, 71) := by rw [aFix, if_neg hl, hn]; show (if _ then _ else _) = _; rw [if_pos ⟨h.1, by have := h.2; omega⟩]
theorem aFix_5 {k : Nat} (hx : p[u.instr]? = some x) (hl : ¬ u.label = []) (hn : labelAt ls u.label = some k) (h : ¬ (u.target = true ∧ (n : Int) ≤ (k : Int))) : aFix ls n (u :: us) p = aFix ls n us (p.set u.instr { x with imm := (k : Int) }) := by rw [aFix, if_neg hl, hn]; show (if _ then _ else _) = _; rw [if_neg (fun q => h ⟨q.1, by have := q.2; omega⟩), getD_of hx]
theorem labelAt_mem {s : List UInt8} {k : Nat} (h : labelAt ls s = some k) : ∃ x ∈ ls, x.2 = k := by
  unfold labelAt at h
  cases hf : ls.find? fun x => decide (x.1 = s) with
  | none => rw [hf] at h; cases h
  | some y => rw [hf] at h; exact ⟨y, List.mem_of_find?_eq_some hf, by simpa using h⟩
end
theorem ImmOk.set {p : List Ins} (h : ImmOk p) (i : Nat) {x : Ins} (hx : -2147483648 ≤ x.imm ∧ x.imm ≤ 2147483647) : ImmOk (p.set i x) := fun y hy => by
  rcases List.mem_or_eq_of_mem_set hy with h1 | h1
  · exact h y h1
  · subst h1; exact hx
theorem drop_of_get {α : Type} {l : List α} {k : Nat} {x : α} (h : l[k]? = some x) : l.drop k = x :: l.drop (k + 1) := by
  obtain ⟨hl, rfl⟩ := List.getElem?_eq_some_iff.1 h
  exact List.drop_eq_getElem_cons hl
theorem cells_len (p : List Ins) : ∀ c ∈ p.map fun x => x.cells.toList, c.length = 5 := by
  intro c hc
  rw [List.mem_map] at hc
  obtain ⟨v, _, rfl⟩ := hc
  rfl
theorem refC_len (el ec : Int) (d : List Tok) (us : List ARef) : ∀ c ∈ us.map (refC el ec d), c.length = 5 := by
  intro c hc
  rw [List.mem_map] at hc
  obtain ⟨v, _, rfl⟩ := hc
  rfl
theorem resKn_end {W w : World} {g m t gp go cp co n i : Nat} {tv : Value} {el ec : Int} {d : List Tok} {ls : Labels} {us : List ARef} {L : Ents} {p : List Ins} (hp : p.length = n) (h1 : n ≤ cp) (h2 : cp ≤ maxLen) (h3 : us.length ≤ co) (h4 : co ≤ maxLen)
    (KN : Kn [] W w (resEnts g m t gp go cp co n tv el ec d i ls us L p)) : AsmKn W g m t tv el ec d L ⟨i, p, ls, us⟩ w := by
  subst hp
  unfold AsmKn
  refine ⟨some ⟨gp, 0, none⟩, cp, [(gp, CapAt 35 5 cp (p.map fun x => x.cells.toList))], .slice (some ⟨go, 0, none⟩) us.length co, [(go, CapAt 128 5 co (us.map (refC el ec d)))], ?_, ?_, ?_⟩
  rotate_left 2
  · unfold resEnts at KN; exact KN
  · have := OwnT.blk (e := 35) (sz := 5) (g := gp) (cap := cp) (L := p.map fun x => x.cells.toList) (by rw [List.length_map]; exact h1) h2 (cells_len p)
    rw [List.length_map] at this
    exact this
  · have := OwnT.blk (e := 128) (sz := 5) (g := go) (cap := co) (L := us.map (refC el ec d)) (by rw [List.length_map]; exact h3) h4 (refC_len el ec d us)
    rw [List.length_map] at this
    exact this
set_option maxRecDepth 100000 in
set_option maxHeartbeats 40000000 in
theorem asm_resolve {W w : World} {L : Ents} {g m t : Nat} {tv : Value} {el ec : Int} {d : List Tok} {s : ASt} (hk : AsmKn W g m t tv el ec d L s w) (hD : Dist s.labels) (hp1 : 1 ≤ s.prog.length) (hpl : s.prog.length ≤ 4096) (hus : s.uses.length ≤ 90000) (hin : ∀ u ∈ s.uses, u.instr < s.prog.length) (hlv : ∀ x ∈ s.labels, x.2 ≤ 4096) (him : ImmOk s.prog) (hll : ∀ u ∈ s.uses, u.label.length ≤ maxLen) :
    Calls Tryd.prog 28 #[.pointer (some ⟨g, 0, none⟩)] w (ResPost W g m t tv el ec d L s (aResolve s)) := by
  obtain ⟨pa, pc, pl, ov, ol, OP, OO, KN⟩ := hk
  rcases Nat.eq_zero_or_pos s.uses.length with h0 | h0
  · have hu : s.uses = [] := List.eq_nil_of_length_eq_zero h0
    have HR : Hid (aResolve s = .ok s.prog) := Lib.hid (by unfold aResolve; rw [hu]; rfl)
    have HK : Hid (∀ w, Kn [] W w ((g, At (asmC tv s.i el ec (asmT t) (.slice pa s.prog.length pc) (.map (some m)) ov) 64) :: (m, labM s.labels) :: (t, At fmtA 92) :: (pl ++ ol ++ L)) → AsmKn W g m t tv el ec d L ⟨s.i, s.prog, s.labels, s.uses⟩ w) := Lib.hid (fun w K => ⟨pa, pc, pl, ov, ol, OP, OO, K⟩)
    obtain ⟨oa, oc, rfl⟩ := OO.form
    rw [List.length_map, h0] at KN HK
    obtain ⟨n, hn⟩ : ∃ n, n = s.prog.length := ⟨_, rfl⟩
    rw [← hn] at KN HK hp1
    have hn0 : ((n : Int) == 0) = false := by rw [beq_eq_false_iff_ne]; omega
    clear OP OO hu hn h0
    go_enter Tryd.func28, Tryd.ntmps28
    go_wp2_with (first | ((with_reducible refine wpList_gate ?_); first | ((refine gate_load (by rfl) ?_); first | (refine ks_load1 KN 23 Tryd.underlying23 ?_) | (refine ks_load1 KN 62 Tryd.underlying62 ?_) | (refine ks_loadW KN 128 Tryd.underlying128 ?_) | (refine ks_load1 KN 3 Tryd.underlying3 ?_) | (refine ks_load1 KN 9 Tryd.underlying9 ?_) | (refine ks_load1 KN 61 Tryd.underlying61 ?_) | (refine ks_loadW KN 25 Tryd.underlying25 ?_) | (refine ks_load1 KN 4 Tryd.underlying4 ?_) | (refine ks_load1 KN 21 Tryd.underlying21 ?_)) | ((refine gate_store (by rfl) ?_); first | (refine ks_storeW KN 128 ?_; clear KN; intro wx KN) | (refine ks_storeA KN 128 ?_; clear KN; intro wx KN) | (refine ks_store1 KN 21 ?_; clear KN; intro wx KN)) | ((refine gate_new (by rfl) ?_); first | (refine wpList_built rfl 25 #[] rfl #[.int .i64 0, .int .i64 0] (by kernel_rfl) ?_) | (refine ks_alloc KN 128 (q := 3) #[.int .i64 0, .string ByteArray.empty, .bool false, .int .i64 0, .int .i64 0] ?_; clear KN; intro g3 wx hg3 KN))))
    go_loop [21] (fun s21 => s21 = .int .i64 0) (fun _ => 0)
    case atStart => rfl
    case round =>
      subst hrel
      go_wp2_with fail
      first | go_end0 | refine bodyPost_ret (results_none rfl _ _ _) rfl ?_
      exact ResPost.ok HR.out (HK.out _ KN)
  · obtain ⟨go, co, rfl, ho1, ho2, rfl⟩ := OO.pos (by rw [List.length_map]; exact h0)
    obtain ⟨gp, cp, hpv, hp2, hp3, rfl⟩ := OP.pos (by rw [List.length_map]; exact hp1)
    rw [List.length_map] at hpv
    rw [hpv] at KN
    rw [List.length_map] at KN ho1 hp2
    obtain ⟨n, hn⟩ : ∃ n, n = s.prog.length := ⟨_, rfl⟩
    rw [← hn] at KN hp1 hpl hp2
    replace KN : Kn [] W w (resEnts g m t gp go cp co n tv el ec d s.i s.labels s.uses L s.prog) := KN
    obtain ⟨nu, hnu⟩ : ∃ nu, nu = s.uses.length := ⟨_, rfl⟩
    have hn0 : ((n : Int) == 0) = false := by rw [beq_eq_false_iff_ne]; omega
    obtain ⟨r0, hr0⟩ : ∃ r0, r0 = aResolve s := ⟨_, rfl⟩
    rw [← hr0]
    have HR : Hid (r0 = aFix s.labels n s.uses s.prog) := Lib.hid (by rw [hr0, hn]; rfl)
    have HN := Lib.hid hn
    have HNU := Lib.hid hnu
    have HD := Lib.hid hD
    have HIN : Hid (∀ u ∈ s.uses, u.instr < n) := Lib.hid (by rw [hn]; exact hin)
    have HLV := Lib.hid hlv
    have HIM := Lib.hid him
    have HLL := Lib.hid hll
    rw [← hnu] at hus ho1 h0
    clear OP OO hpv hr0 hD hin hlv him hll hn
    unfold resEnts at KN
    rw [← hnu] at KN
    clear hnu
    go_enter Tryd.func28, Tryd.ntmps28
    go_wp2_with (first | ((with_reducible refine wpList_gate ?_); first | ((refine gate_load (by rfl) ?_); first | (refine ks_load1 KN 23 Tryd.underlying23 ?_) | (refine ks_load1 KN 62 Tryd.underlying62 ?_) | (refine ks_loadW KN 128 Tryd.underlying128 ?_) | (refine ks_load1 KN 3 Tryd.underlying3 ?_) | (refine ks_load1 KN 9 Tryd.underlying9 ?_) | (refine ks_load1 KN 61 Tryd.underlying61 ?_) | (refine ks_loadW KN 25 Tryd.underlying25 ?_) | (refine ks_load1 KN 4 Tryd.underlying4 ?_) | (refine ks_load1 KN 21 Tryd.underlying21 ?_)) | ((refine gate_store (by rfl) ?_); first | (refine ks_storeW KN 128 ?_; clear KN; intro wx KN) | (refine ks_storeA KN 128 ?_; clear KN; intro wx KN) | (refine ks_store1 KN 21 ?_; clear KN; intro wx KN)) | ((refine gate_new (by rfl) ?_); first | (refine wpList_built rfl 25 #[] rfl #[.int .i64 0, .int .i64 0] (by kernel_rfl) ?_) | (refine ks_alloc KN 128 (q := 3) #[.int .i64 0, .string ByteArray.empty, .bool false, .int .i64 0, .int .i64 0] ?_; clear KN; intro g3 wx hg3 KN))))
    go_loopw [3, 4, 5, 6, 21] (fun _ _ _ _ s21 wr => ResRel W g m t gp go cp co n tv el ec d s.i s.labels s.uses L r0 s21 wr) (fun _ _ _ _ s21 _ => nu - (intOf s21).toNat)
    case atStart => exact ⟨0, s.prog, rfl, Nat.zero_le _, HN.out.symm, HIM.out, HR.out, by unfold resEnts; rw [← HNU.out]; exact KN⟩
    case round =>
      clear KN
      obtain ⟨k, p, rfl, hk, hpn, hpi, hr, KN⟩ := hrel
      unfold resEnts at KN
      rw [← HNU.out] at hk KN
      have HPN := Lib.hid hpn
      have HPI := Lib.hid hpi
      have HRR := Lib.hid hr
      clear hpn hpi hr
      by_cases hlt : k < nu
      · obtain ⟨u, hu⟩ : ∃ u, s.uses[k]? = some u := ⟨_, List.getElem?_eq_getElem (by rw [← HNU.out]; exact hlt)⟩
        have hi : (s.uses.map (refC el ec d))[k]? = some (refC el ec d u) := by rw [List.getElem?_map, hu]; rfl
        have hmu : u ∈ s.uses := List.mem_of_getElem? hu
        have hui := HIN.out u hmu
        have hul := HLL.out u hmu
        have hdr : s.uses.drop k = u :: s.uses.drop (k + 1) := drop_of_get hu
        have HDR := Lib.hid hdr
        have hlr := refC_len el ec d s.uses
        have x0 := KN.elem (g := go) (by repeat (first | exact Has.here | refine Has.there ?_)) hlr hi (j := 0) rfl
        have x1 := KN.elem (g := go) (by repeat (first | exact Has.here | refine Has.there ?_)) hlr hi (j := 1) rfl
        have x2 := KN.elem (g := go) (by repeat (first | exact Has.here | refine Has.there ?_)) hlr hi (j := 2) rfl
        have x3 := KN.elem (g := go) (by repeat (first | exact Has.here | refine Has.there ?_)) hlr hi (j := 3) rfl
        have x4 := KN.elem (g := go) (by repeat (first | exact Has.here | refine Has.there ?_)) hlr hi (j := 4) rfl
        rw [Nat.add_zero] at x0
        have HI := Lib.hid hi
        have HUL := Lib.hid hul
        clear hu hi hmu hdr hlr hul
        go_upto_region 5 with (first | ((with_reducible refine wpList_gate ?_); first | ((refine gate_load (by rfl) ?_); first | (refine ks_load1 KN 23 Tryd.underlying23 ?_) | (refine ks_load1 KN 62 Tryd.underlying62 ?_) | (refine ks_loadW KN 128 Tryd.underlying128 ?_) | (refine ks_load1 KN 3 Tryd.underlying3 ?_) | (refine ks_load1 KN 9 Tryd.underlying9 ?_) | (refine ks_load1 KN 61 Tryd.underlying61 ?_) | (refine ks_loadW KN 25 Tryd.underlying25 ?_) | (refine ks_load1 KN 4 Tryd.underlying4 ?_) | (refine ks_load1 KN 21 Tryd.underlying21 ?_)) | ((refine gate_store (by rfl) ?_); first | (refine ks_storeW KN 128 ?_; clear KN; intro wx KN) | (refine ks_storeA KN 128 ?_; clear KN; intro wx KN) | (refine ks_store1 KN 21 ?_; clear KN; intro wx KN)) | ((refine gate_new (by rfl) ?_); first | (refine wpList_built rfl 25 #[] rfl #[.int .i64 0, .int .i64 0] (by kernel_rfl) ?_) | (refine ks_alloc KN 128 (q := 3) #[.int .i64 0, .string ByteArray.empty, .bool false, .int .i64 0, .int .i64 0] ?_; clear KN; intro g3 wx hg3 KN))))
        clear x0 x1 x2 x3 x4
        obtain ⟨x, hx⟩ : ∃ x, p[u.instr]? = some x := ⟨_, List.getElem?_eq_getElem (by rw [HPN.out]; exact hui)⟩
        have hxb := HPI.out x (List.mem_of_getElem? hx)
        have hxi : (p.map fun x => x.cells.toList)[u.instr]? = some x.cells.toList := by rw [List.getElem?_map, hx]; rfl
        have HXX := Lib.hid hx
        have HXI := Lib.hid hxi
        clear hx hxi
        have c5 := KN.cell (g := g) (o := 5) (by repeat (first | exact Has.here | refine Has.there ?_)) rfl
        have c30 := KN.cell (g := g3) (o := 0) (by repeat (first | exact Has.here | refine Has.there ?_)) rfl
        go_quiet (fail)
        rename_i nq
        replace KN := KN.drewN nq
        clear c5 c30
        generalize wx.drewN nq = wy at KN ⊢
        obtain ⟨sv, hsv⟩ : ∃ sv, sv = str u.label := ⟨_, rfl⟩
        by_cases hl : u.label = []
        · have hq : sv.toList.isEmpty = true := by rw [hsv, Lib.toList_data, data_str, hl]; rfl
          have HSV := Lib.hid hsv
          replace KN := KN.as_ g3 #[.int .i64 (u.instr : Int), .string sv, .bool u.target, .int .i64 (posE el ec d u.at_).1, .int .i64 (posE el ec d u.at_).2] (by repeat (first | exact Repl.here | apply Repl.there)) (by rw [hsv])
          clear hsv
          go_upto_region 11 with (first | ((with_reducible refine wpList_gate ?_); first | ((refine gate_load (by rfl) ?_); first | (refine ks_load1 KN 23 Tryd.underlying23 ?_) | (refine ks_load1 KN 62 Tryd.underlying62 ?_) | (refine ks_loadW KN 128 Tryd.underlying128 ?_) | (refine ks_load1 KN 3 Tryd.underlying3 ?_) | (refine ks_load1 KN 9 Tryd.underlying9 ?_) | (refine ks_load1 KN 61 Tryd.underlying61 ?_) | (refine ks_loadW KN 25 Tryd.underlying25 ?_) | (refine ks_load1 KN 4 Tryd.underlying4 ?_) | (refine ks_load1 KN 21 Tryd.underlying21 ?_)) | ((refine gate_store (by rfl) ?_); first | (refine ks_storeW KN 128 ?_; clear KN; intro wx KN) | (refine ks_storeA KN 128 ?_; clear KN; intro wx KN) | (refine ks_store1 KN 21 ?_; clear KN; intro wx KN)) | ((refine gate_new (by rfl) ?_); first | (refine wpList_built rfl 25 #[] rfl #[.int .i64 0, .int .i64 0] (by kernel_rfl) ?_) | (refine ks_alloc KN 128 (q := 3) #[.int .i64 0, .string ByteArray.empty, .bool false, .int .i64 0, .int .i64 0] ?_; clear KN; intro g3 wx hg3 KN))))
          cases htg : u.target with
          | false =>
            rw [htg] at KN
            have hnx := aFix_2 (n := n) (ls := s.labels) (us := s.uses.drop (k + 1)) HXX.out hl (fun q => by rw [htg] at q; exact absurd q.1 (by decide))
            have HNX := Lib.hid hnx
            clear hnx
            have c32 := KN.cell (g := g3) (o := 2) (by repeat (first | exact Has.here | refine Has.there ?_)) rfl
            go_quiet (fail)
            replace KN := KN.drewN nq
            clear c32
            go_wp2_with fail
            go_round
            case rel => (first | exact ⟨k + 1, p, by go_num, by rw [← HNU.out]; omega, HPN.out, HPI.out, (HRR.out.trans (congrArg (fun z => aFix s.labels n z p) HDR.out)).trans HNX.out, by unfold resEnts; rw [← HNU.out]; exact KN.drop .here⟩ | ((repeat apply Exists.intro); exact ⟨⟨k + 1, p, by go_num, by rw [← HNU.out]; omega, HPN.out, HPI.out, (HRR.out.trans (congrArg (fun z => aFix s.labels n z p) HDR.out)).trans HNX.out, by unfold resEnts; rw [← HNU.out]; exact KN.drop .here⟩, rfl⟩))
            case measure => simp [intOf]; omega
          | true =>
            rw [htg] at KN
            have c32 := KN.cell (g := g3) (o := 2) (by repeat (first | exact Has.here | refine Has.there ?_)) rfl
            have c5 := KN.cell (g := g) (o := 5) (by repeat (first | exact Has.here | refine Has.there ?_)) rfl
            have ce := (KN.elem (g := gp) (by repeat (first | exact Has.here | refine Has.there ?_)) (cells_len _) HXI.out (j := 4) rfl).trans (show some _ = some (Value.int .i32 x.imm) from rfl)
            have wv : IntKind.i64.wrap (x.imm) = x.imm := by rw [IntKind.wrap_i64]; omega
            by_cases hge : (n : Int) ≤ x.imm
            · have hd1 : decide ((n : Int) ≤ x.imm) = true := decide_eq_true hge
              have hnx := aFix_1 (n := n) (ls := s.labels) (us := s.uses.drop (k + 1)) HXX.out hl ⟨htg, hge⟩
              have HE := Lib.hid ((HRR.out.trans (congrArg (fun z => aFix s.labels n z p) HDR.out)).trans hnx)
              clear hnx
              go_quiet (fail)
              replace KN := KN.drewN nq
              clear c32 c5 ce
              go_wp2_with (first | ((with_reducible refine wpList_gate ?_); first | ((refine gate_load (by rfl) ?_); first | (refine wpList_kn_loadN KN (by rfl) 25 _ rfl g3 3 rfl _ _ (by repeat (first | exact Has.here | refine Has.there ?_)) #[.int .i64 (posE el ec d u.at_).1, .int .i64 (posE el ec d u.at_).2] (by rfl) _ Tryd.underlying25 rfl (by kernel_rfl) ?_) | (refine ks_load1 KN 23 Tryd.underlying23 ?_) | (refine ks_load1 KN 62 Tryd.underlying62 ?_) | (refine ks_loadW KN 128 Tryd.underlying128 ?_) | (refine ks_load1 KN 3 Tryd.underlying3 ?_) | (refine ks_load1 KN 9 Tryd.underlying9 ?_) | (refine ks_load1 KN 61 Tryd.underlying61 ?_) | (refine ks_loadW KN 25 Tryd.underlying25 ?_) | (refine ks_load1 KN 4 Tryd.underlying4 ?_) | (refine ks_load1 KN 21 Tryd.underlying21 ?_)) | ((refine gate_store (by rfl) ?_); first | (refine ks_storeW KN 128 ?_; clear KN; intro wx KN) | (refine ks_storeA KN 128 ?_; clear KN; intro wx KN) | (refine ks_store1 KN 21 ?_; clear KN; intro wx KN)) | ((refine gate_new (by rfl) ?_); first | (refine wpList_built rfl 55 _ rfl #[.int .i64 (posE el ec d u.at_).1, .int .i64 (posE el ec d u.at_).2, .int .i64 71] (by kernel_rfl) ?_) | (refine wpList_built rfl 25 #[] rfl #[.int .i64 0, .int .i64 0] (by kernel_rfl) ?_) | (refine ks_alloc KN 128 (q := 3) #[.int .i64 0, .string ByteArray.empty, .bool false, .int .i64 0, .int .i64 0] ?_; clear KN; intro g3 wx hg3 KN))))
              exact ⟨rfl, ResPost.err HE.out KN.toBelow⟩
            · have hd1 : decide ((n : Int) ≤ x.imm) = false := decide_eq_false hge
              have hnx := aFix_2 (n := n) (ls := s.labels) (us := s.uses.drop (k + 1)) HXX.out hl (fun q => hge q.2)
              have HNX := Lib.hid hnx
              clear hnx
              go_quiet (fail)
              replace KN := KN.drewN nq
              clear c32 c5 ce
              go_wp2_with fail
              go_round
              case rel => (first | exact ⟨k + 1, p, by go_num, by rw [← HNU.out]; omega, HPN.out, HPI.out, (HRR.out.trans (congrArg (fun z => aFix s.labels n z p) HDR.out)).trans HNX.out, by unfold resEnts; rw [← HNU.out]; exact KN.drop .here⟩ | ((repeat apply Exists.intro); exact ⟨⟨k + 1, p, by go_num, by rw [← HNU.out]; omega, HPN.out, HPI.out, (HRR.out.trans (congrArg (fun z => aFix s.labels n z p) HDR.out)).trans HNX.out, by unfold resEnts; rw [← HNU.out]; exact KN.drop .here⟩, rfl⟩))
              case measure => simp [intOf]; omega
        · have hq : sv.toList.isEmpty = false := by rw [hsv, Lib.toList_data, data_str]; cases hu : u.label with
            | nil => exact absurd hu hl
            | cons a b => rfl
          have HSV := Lib.hid hsv
          replace KN := KN.as_ g3 #[.int .i64 (u.instr : Int), .string sv, .bool u.target, .int .i64 (posE el ec d u.at_).1, .int .i64 (posE el ec d u.at_).2] (by repeat (first | exact Repl.here | apply Repl.there)) (by rw [hsv])
          have hkey : keyOf Tryd.prog 9 (.string sv) = some (.string u.label) := by rw [hsv]; exact labKey _ HUL.out
          have HKEY := Lib.hid hkey
          clear hsv hkey
          have hlD := labD_at HD.out u.label
          cases hla : labelAt s.labels u.label with
          | none =>
            rw [hla] at hlD
            have hhas := hlD.1
            have HC0 := Lib.hid (Maps.atKey_of_not_has hhas (.lit (.int .i64 0)))
            have HHAS := Lib.hid hhas
            have HE := Lib.hid ((HRR.out.trans (congrArg (fun z => aFix s.labels n z p) HDR.out)).trans (aFix_3 hl hla))
            clear hlD hhas hla
            go_upto_region 7 with (first | ((with_reducible refine wpList_gate ?_); first | ((refine gate_load (by rfl) ?_); first | (refine ks_load1 KN 23 Tryd.underlying23 ?_) | (refine ks_load1 KN 62 Tryd.underlying62 ?_) | (refine ks_loadW KN 128 Tryd.underlying128 ?_) | (refine ks_load1 KN 3 Tryd.underlying3 ?_) | (refine ks_load1 KN 9 Tryd.underlying9 ?_) | (refine ks_load1 KN 61 Tryd.underlying61 ?_) | (refine ks_loadW KN 25 Tryd.underlying25 ?_) | (refine ks_load1 KN 4 Tryd.underlying4 ?_) | (refine ks_load1 KN 21 Tryd.underlying21 ?_)) | ((refine gate_store (by rfl) ?_); first | (refine ks_storeW KN 128 ?_; clear KN; intro wx KN) | (refine ks_storeA KN 128 ?_; clear KN; intro wx KN) | (refine ks_store1 KN 21 ?_; clear KN; intro wx KN)) | ((refine gate_new (by rfl) ?_); first | (refine wpList_built rfl 25 #[] rfl #[.int .i64 0, .int .i64 0] (by kernel_rfl) ?_) | (refine ks_alloc KN 128 (q := 3) #[.int .i64 0, .string ByteArray.empty, .bool false, .int .i64 0, .int .i64 0] ?_; clear KN; intro g3 wx hg3 KN))))
            replace KN := KN.drew
            refine wp_region_held_drew (S := (fun w' => BlkT w' g (asmC tv s.i el ec (asmT t) (.slice (some ⟨gp, 0, none⟩) n cp) (.map (some m)) (.slice (some ⟨go, 0, none⟩) nu co)) 64 ∧ BlkT w' g3 #[.int .i64 (u.instr : Int), .string sv, .bool u.target, .int .i64 (posE el ec d u.at_).1, .int .i64 (posE el ec d u.at_).2] 128 ∧ w'.ownsMap Tryd.prog 9 (plainElem Tryd.prog 3) m s.labels.length (labD s.labels))) (by kernel_rfl) ?q7hS (fun hHeld => ?q7rest)
            case q7hS => exact ⟨KN.at_ (by repeat (first | exact Has.here | refine Has.there ?_)), KN.at_ (by repeat (first | exact Has.here | refine Has.there ?_)), KN.map (by repeat (first | exact Has.here | refine Has.there ?_))⟩
            refine wpAnyH_take (i := 0) (oi := ⟨some 36, _, _, _, _, _⟩) (v := ?q7v0) rfl (by kernel_rfl) (by kernel_rfl) (by kernel_rfl) (fun _ _ _ h => h) (Or.inl ⟨by rfl, ?q7hy0⟩) hHeld ?q7r0
            case q7hy0 => (intro w hSw; (try dsimp only at hSw); go_simp; (try with_reducible rfl))
            (try simp only [Act.put, List.setIfInBounds_toArray, List.set_cons_zero, List.set_cons_succ])
            refine wpAnyH_take (i := 1) (oi := ⟨some 37, _, _, _, _, _⟩) (v := ?q7v1) rfl (by kernel_rfl) (by kernel_rfl) (by kernel_rfl) (fun _ _ _ h => h) (Or.inl ⟨by rfl, ?q7hy1⟩) hHeld ?q7r1
            case q7hy1 => (intro w hSw; (try dsimp only at hSw); go_simp; (try with_reducible rfl))
            (try simp only [Act.put, List.setIfInBounds_toArray, List.set_cons_zero, List.set_cons_succ])
            refine wpAnyH_take (i := 2) (oi := ⟨some 38, _, _, _, _, _⟩) (v := ?q7v2) rfl (by kernel_rfl) (by kernel_rfl) (by kernel_rfl) (fun _ _ _ h => h) (Or.inl ⟨by rfl, ?q7hy2⟩) hHeld ?q7r2
            case q7hy2 => (intro w hSw; (try dsimp only at hSw); go_simp; (try with_reducible rfl))
            (try simp only [Act.put, List.setIfInBounds_toArray, List.set_cons_zero, List.set_cons_succ])
            refine wpAnyH_take (i := 3) (oi := ⟨some 39, _, _, _, _, _⟩) (v := (.map (some m))) rfl (by kernel_rfl) (by kernel_rfl) (by kernel_rfl) (fun _ _ _ h => h) (kn_yields1 (by rfl) 61 _ rfl g 6 rfl _ 64 (fun _ h => h.1) _ rfl _ Tryd.underlying61 rfl) hHeld ?q7r3
            (try simp only [Act.put, List.setIfInBounds_toArray, List.set_cons_zero, List.set_cons_succ])
            refine wpAnyH_take (i := 4) (oi := ⟨some 40, _, _, _, _, _⟩) (v := ?q7v4) rfl (by kernel_rfl) (by kernel_rfl) (by kernel_rfl) (fun _ _ _ h => h) (Or.inl ⟨by rfl, ?q7hy4⟩) hHeld ?q7r4
            case q7hy4 => (intro w hSw; (try dsimp only at hSw); go_simp; (try with_reducible rfl))
            (try simp only [Act.put, List.setIfInBounds_toArray, List.set_cons_zero, List.set_cons_succ])
            refine wpAnyH_take (i := 5) (oi := ⟨some 41, _, _, _, _, _⟩) (v := (.string sv)) rfl (by kernel_rfl) (by kernel_rfl) (by kernel_rfl) (fun _ _ _ h => h) (kn_yields1 (by rfl) 9 _ rfl g3 1 rfl _ 128 (fun _ h => h.2.1) _ rfl _ Tryd.underlying9 rfl) hHeld ?q7r5
            (try simp only [Act.put, List.setIfInBounds_toArray, List.set_cons_zero, List.set_cons_succ])
            refine wpAnyH_take (i := 6) (oi := ⟨some 42, _, _, _, _, _⟩) (v := (.tuple #[.int .i64 0, .bool false])) rfl (by kernel_rfl) (by kernel_rfl) (by kernel_rfl) (fun _ _ _ h => h) (kn_yields_lookup (by rfl) _ _ 61 rfl 9 3 .i64 (Maps.string_keyed Tryd.underlying9) Tryd.underlying61 Tryd.underlying3 (fun _ => rfl) m _ _ rfl (fun _ h => h.2.2) (.string sv) (.string u.label) rfl HKEY.out 0 HC0.out false HHAS.out) hHeld ?q7r6
            (try simp only [Act.put, List.setIfInBounds_toArray, List.set_cons_zero, List.set_cons_succ])
            refine wpAnyH_take (i := 7) (oi := ⟨some 35, _, _, _, _, _⟩) (v := ?q7v7) rfl (by kernel_rfl) (by kernel_rfl) (by kernel_rfl) (fun _ _ _ h => h) (Or.inl ⟨by rfl, ?q7hy7⟩) hHeld ?q7r7
            case q7hy7 => (intro w hSw; (try dsimp only at hSw); go_simp; (try with_reducible rfl))
            (try simp only [Act.put, List.setIfInBounds_toArray, List.set_cons_zero, List.set_cons_succ])
            refine wpAnyH_take (i := 8) (oi := ⟨some 43, _, _, _, _, _⟩) (v := ?q7v8) rfl (by kernel_rfl) (by kernel_rfl) (by kernel_rfl) (fun _ _ _ h => h) (Or.inl ⟨by rfl, ?q7hy8⟩) hHeld ?q7r8
            case q7hy8 => (intro w hSw; (try dsimp only at hSw); go_simp; (try with_reducible rfl))
            (try simp only [Act.put, List.setIfInBounds_toArray, List.set_cons_zero, List.set_cons_succ])
            refine wpAnyH_take (i := 9) (oi := ⟨some 44, _, _, _, _, _⟩) (v := ?q7v9) rfl (by kernel_rfl) (by kernel_rfl) (by kernel_rfl) (fun _ _ _ h => h) (Or.inl ⟨by rfl, ?q7hy9⟩) hHeld ?q7r9
            case q7hy9 => (intro w hSw; (try dsimp only at hSw); go_simp; (try with_reducible rfl))
            (try simp only [Act.put, List.setIfInBounds_toArray, List.set_cons_zero, List.set_cons_succ])
            refine wpAnyH_take (i := 10) (oi := ⟨some 5, _, _, _, _, _⟩) (v := ?q7v10) rfl (by kernel_rfl) (by kernel_rfl) (by kernel_rfl) (fun _ _ _ h => h) (Or.inl ⟨by rfl, ?q7hy10⟩) hHeld ?q7r10
            case q7hy10 => (intro w hSw; (try dsimp only at hSw); go_simp; (try with_reducible rfl))
            (try simp only [Act.put, List.setIfInBounds_toArray, List.set_cons_zero, List.set_cons_succ])
            refine wpAnyH_take (i := 11) (oi := ⟨some 6, _, _, _, _, _⟩) (v := ?q7v11) rfl (by kernel_rfl) (by kernel_rfl) (by kernel_rfl) (fun _ _ _ h => h) (Or.inl ⟨by rfl, ?q7hy11⟩) hHeld ?q7r11
            case q7hy11 => (intro w hSw; (try dsimp only at hSw); go_simp; (try with_reducible rfl))
            (try simp only [Act.put, List.setIfInBounds_toArray, List.set_cons_zero, List.set_cons_succ])
            refine wpAnyH_done (by kernel_rfl) ?q7done _
            go_wp2_with (first | ((with_reducible refine wpList_gate ?_); first | ((refine gate_load (by rfl) ?_); first | (refine wpList_kn_loadN KN (by rfl) 25 _ rfl g3 3 rfl _ _ (by repeat (first | exact Has.here | refine Has.there ?_)) #[.int .i64 (posE el ec d u.at_).1, .int .i64 (posE el ec d u.at_).2] (by rfl) _ Tryd.underlying25 rfl (by kernel_rfl) ?_) | (refine ks_load1 KN 23 Tryd.underlying23 ?_) | (refine ks_load1 KN 62 Tryd.underlying62 ?_) | (refine ks_loadW KN 128 Tryd.underlying128 ?_) | (refine ks_load1 KN 3 Tryd.underlying3 ?_) | (refine ks_load1 KN 9 Tryd.underlying9 ?_) | (refine ks_load1 KN 61 Tryd.underlying61 ?_) | (refine ks_loadW KN 25 Tryd.underlying25 ?_) | (refine ks_load1 KN 4 Tryd.underlying4 ?_) | (refine ks_load1 KN 21 Tryd.underlying21 ?_)) | ((refine gate_store (by rfl) ?_); first | (refine ks_storeW KN 128 ?_; clear KN; intro wx KN) | (refine ks_storeA KN 128 ?_; clear KN; intro wx KN) | (refine ks_store1 KN 21 ?_; clear KN; intro wx KN)) | ((refine gate_new (by rfl) ?_); first | (refine wpList_built rfl 55 _ rfl #[.int .i64 (posE el ec d u.at_).1, .int .i64 (posE el ec d u.at_).2, .int .i64 72] (by kernel_rfl) ?_) | (refine wpList_built rfl 25 #[] rfl #[.int .i64 0, .int .i64 0] (by kernel_rfl) ?_) | (refine ks_alloc KN 128 (q := 3) #[.int .i64 0, .string ByteArray.empty, .bool false, .int .i64 0, .int .i64 0] ?_; clear KN; intro g3 wx hg3 KN))))
            exact ⟨rfl, ResPost.err HE.out KN.toBelow⟩
          | some kv =>
            rw [hla] at hlD
            have hhas := hlD.1
            have HC0 := Lib.hid (hlD.2 kv rfl (.lit (.int .i64 0)))
            have HHAS := Lib.hid hhas
            have hkb : kv ≤ 4096 := by obtain ⟨y, hy, rfl⟩ := labelAt_mem hla; exact HLV.out y hy
            have HLA := Lib.hid hla
            have w3 : IntKind.i32.wrap (kv : Int) = kv := by rw [IntKind.wrap_i32]; omega
            clear hlD hhas hla
            go_upto_region 7 with (first | ((with_reducible refine wpList_gate ?_); first | ((refine gate_load (by rfl) ?_); first | (refine ks_load1 KN 23 Tryd.underlying23 ?_) | (refine ks_load1 KN 62 Tryd.underlying62 ?_) | (refine ks_loadW KN 128 Tryd.underlying128 ?_) | (refine ks_load1 KN 3 Tryd.underlying3 ?_) | (refine ks_load1 KN 9 Tryd.underlying9 ?_) | (refine ks_load1 KN 61 Tryd.underlying61 ?_) | (refine ks_loadW KN 25 Tryd.underlying25 ?_) | (refine ks_load1 KN 4 Tryd.underlying4 ?_) | (refine ks_load1 KN 21 Tryd.underlying21 ?_)) | ((refine gate_store (by rfl) ?_); first | (refine ks_storeW KN 128 ?_; clear KN; intro wx KN) | (refine ks_storeA KN 128 ?_; clear KN; intro wx KN) | (refine ks_store1 KN 21 ?_; clear KN; intro wx KN)) | ((refine gate_new (by rfl) ?_); first | (refine wpList_built rfl 25 #[] rfl #[.int .i64 0, .int .i64 0] (by kernel_rfl) ?_) | (refine ks_alloc KN 128 (q := 3) #[.int .i64 0, .string ByteArray.empty, .bool false, .int .i64 0, .int .i64 0] ?_; clear KN; intro g3 wx hg3 KN))))
            replace KN := KN.drew
            refine wp_region_held_drew (S := (fun w' => BlkT w' g (asmC tv s.i el ec (asmT t) (.slice (some ⟨gp, 0, none⟩) n cp) (.map (some m)) (.slice (some ⟨go, 0, none⟩) nu co)) 64 ∧ BlkT w' g3 #[.int .i64 (u.instr : Int), .string sv, .bool u.target, .int .i64 (posE el ec d u.at_).1, .int .i64 (posE el ec d u.at_).2] 128 ∧ w'.ownsMap Tryd.prog 9 (plainElem Tryd.prog 3) m s.labels.length (labD s.labels))) (by kernel_rfl) ?q8hS (fun hHeld => ?q8rest)
            case q8hS => exact ⟨KN.at_ (by repeat (first | exact Has.here | refine Has.there ?_)), KN.at_ (by repeat (first | exact Has.here | refine Has.there ?_)), KN.map (by repeat (first | exact Has.here | refine Has.there ?_))⟩
            refine wpAnyH_take (i := 0) (oi := ⟨some 36, _, _, _, _, _⟩) (v := ?q8v0) rfl (by kernel_rfl) (by kernel_rfl) (by kernel_rfl) (fun _ _ _ h => h) (Or.inl ⟨by rfl, ?q8hy0⟩) hHeld ?q8r0
            case q8hy0 => (intro w hSw; (try dsimp only at hSw); go_simp; (try with_reducible rfl))
            (try simp only [Act.put, List.setIfInBounds_toArray, List.set_cons_zero, List.set_cons_succ])
            refine wpAnyH_take (i := 1) (oi := ⟨some 37, _, _, _, _, _⟩) (v := ?q8v1) rfl (by kernel_rfl) (by kernel_rfl) (by kernel_rfl) (fun _ _ _ h => h) (Or.inl ⟨by rfl, ?q8hy1⟩) hHeld ?q8r1
            case q8hy1 => (intro w hSw; (try dsimp only at hSw); go_simp; (try with_reducible rfl))
            (try simp only [Act.put, List.setIfInBounds_toArray, List.set_cons_zero, List.set_cons_succ])
            refine wpAnyH_take (i := 2) (oi := ⟨some 38, _, _, _, _, _⟩) (v := ?q8v2) rfl (by kernel_rfl) (by kernel_rfl) (by kernel_rfl) (fun _ _ _ h => h) (Or.inl ⟨by rfl, ?q8hy2⟩) hHeld ?q8r2
            case q8hy2 => (intro w hSw; (try dsimp only at hSw); go_simp; (try with_reducible rfl))
            (try simp only [Act.put, List.setIfInBounds_toArray, List.set_cons_zero, List.set_cons_succ])
            refine wpAnyH_take (i := 3) (oi := ⟨some 39, _, _, _, _, _⟩) (v := (.map (some m))) rfl (by kernel_rfl) (by kernel_rfl) (by kernel_rfl) (fun _ _ _ h => h) (kn_yields1 (by rfl) 61 _ rfl g 6 rfl _ 64 (fun _ h => h.1) _ rfl _ Tryd.underlying61 rfl) hHeld ?q8r3
            (try simp only [Act.put, List.setIfInBounds_toArray, List.set_cons_zero, List.set_cons_succ])
            refine wpAnyH_take (i := 4) (oi := ⟨some 40, _, _, _, _, _⟩) (v := ?q8v4) rfl (by kernel_rfl) (by kernel_rfl) (by kernel_rfl) (fun _ _ _ h => h) (Or.inl ⟨by rfl, ?q8hy4⟩) hHeld ?q8r4
            case q8hy4 => (intro w hSw; (try dsimp only at hSw); go_simp; (try with_reducible rfl))
            (try simp only [Act.put, List.setIfInBounds_toArray, List.set_cons_zero, List.set_cons_succ])
            refine wpAnyH_take (i := 5) (oi := ⟨some 41, _, _, _, _, _⟩) (v := (.string sv)) rfl (by kernel_rfl) (by kernel_rfl) (by kernel_rfl) (fun _ _ _ h => h) (kn_yields1 (by rfl) 9 _ rfl g3 1 rfl _ 128 (fun _ h => h.2.1) _ rfl _ Tryd.underlying9 rfl) hHeld ?q8r5
            (try simp only [Act.put, List.setIfInBounds_toArray, List.set_cons_zero, List.set_cons_succ])
            refine wpAnyH_take (i := 6) (oi := ⟨some 42, _, _, _, _, _⟩) (v := (.tuple #[.int .i64 (kv:Int), .bool true])) rfl (by kernel_rfl) (by kernel_rfl) (by kernel_rfl) (fun _ _ _ h => h) (kn_yields_lookup (by rfl) _ _ 61 rfl 9 3 .i64 (Maps.string_keyed Tryd.underlying9) Tryd.underlying61 Tryd.underlying3 (fun _ => rfl) m _ _ rfl (fun _ h => h.2.2) (.string sv) (.string u.label) rfl HKEY.out (kv:Int) HC0.out true HHAS.out) hHeld ?q8r6
            (try simp only [Act.put, List.setIfInBounds_toArray, List.set_cons_zero, List.set_cons_succ])
            refine wpAnyH_take (i := 7) (oi := ⟨some 35, _, _, _, _, _⟩) (v := ?q8v7) rfl (by kernel_rfl) (by kernel_rfl) (by kernel_rfl) (fun _ _ _ h => h) (Or.inl ⟨by rfl, ?q8hy7⟩) hHeld ?q8r7
            case q8hy7 => (intro w hSw; (try dsimp only at hSw); go_simp; (try with_reducible rfl))
            (try simp only [Act.put, List.setIfInBounds_toArray, List.set_cons_zero, List.set_cons_succ])
            refine wpAnyH_take (i := 8) (oi := ⟨some 43, _, _, _, _, _⟩) (v := ?q8v8) rfl (by kernel_rfl) (by kernel_rfl) (by kernel_rfl) (fun _ _ _ h => h) (Or.inl ⟨by rfl, ?q8hy8⟩) hHeld ?q8r8
            case q8hy8 => (intro w hSw; (try dsimp only at hSw); go_simp; (try with_reducible rfl))
            (try simp only [Act.put, List.setIfInBounds_toArray, List.set_cons_zero, List.set_cons_succ])
            refine wpAnyH_take (i := 9) (oi := ⟨some 44, _, _, _, _, _⟩) (v := ?q8v9) rfl (by kernel_rfl) (by kernel_rfl) (by kernel_rfl) (fun _ _ _ h => h) (Or.inl ⟨by rfl, ?q8hy9⟩) hHeld ?q8r9
            case q8hy9 => (intro w hSw; (try dsimp only at hSw); go_simp; (try with_reducible rfl))
            (try simp only [Act.put, List.setIfInBounds_toArray, List.set_cons_zero, List.set_cons_succ])
            refine wpAnyH_take (i := 10) (oi := ⟨some 5, _, _, _, _, _⟩) (v := ?q8v10) rfl (by kernel_rfl) (by kernel_rfl) (by kernel_rfl) (fun _ _ _ h => h) (Or.inl ⟨by rfl, ?q8hy10⟩) hHeld ?q8r10
            case q8hy10 => (intro w hSw; (try dsimp only at hSw); go_simp; (try with_reducible rfl))
            (try simp only [Act.put, List.setIfInBounds_toArray, List.set_cons_zero, List.set_cons_succ])
            refine wpAnyH_take (i := 11) (oi := ⟨some 6, _, _, _, _, _⟩) (v := ?q8v11) rfl (by kernel_rfl) (by kernel_rfl) (by kernel_rfl) (fun _ _ _ h => h) (Or.inl ⟨by rfl, ?q8hy11⟩) hHeld ?q8r11
            case q8hy11 => (intro w hSw; (try dsimp only at hSw); go_simp; (try with_reducible rfl))
            (try simp only [Act.put, List.setIfInBounds_toArray, List.set_cons_zero, List.set_cons_succ])
            refine wpAnyH_done (by kernel_rfl) ?q8done _
            go_upto_region 11 with (first | ((with_reducible refine wpList_gate ?_); first | (refine wpList_kn_elemC KN (by rfl) 21 _ _ rfl gp (u.instr * 5 + 4) rfl (.int .i32 (kv : Int)) rfl rfl u.instr 4 x.cells.toList HXI.out rfl (by repeat (first | exact Repl.here | apply Repl.there)) (cells_len p) (by rw [List.length_map, HPN.out]; exact hp2) (by decide) (by kernel_rfl) (by rfl) ?_; clear KN; intro wx KN) | ((refine gate_load (by rfl) ?_); first | (refine ks_load1 KN 23 Tryd.underlying23 ?_) | (refine ks_load1 KN 62 Tryd.underlying62 ?_) | (refine ks_loadW KN 128 Tryd.underlying128 ?_) | (refine ks_load1 KN 3 Tryd.underlying3 ?_) | (refine ks_load1 KN 9 Tryd.underlying9 ?_) | (refine ks_load1 KN 61 Tryd.underlying61 ?_) | (refine ks_loadW KN 25 Tryd.underlying25 ?_) | (refine ks_load1 KN 4 Tryd.underlying4 ?_) | (refine ks_load1 KN 21 Tryd.underlying21 ?_)) | ((refine gate_store (by rfl) ?_); first | (refine ks_storeW KN 128 ?_; clear KN; intro wx KN) | (refine ks_storeA KN 128 ?_; clear KN; intro wx KN) | (refine ks_store1 KN 21 ?_; clear KN; intro wx KN)) | ((refine gate_new (by rfl) ?_); first | (refine wpList_built rfl 25 #[] rfl #[.int .i64 0, .int .i64 0] (by kernel_rfl) ?_) | (refine ks_alloc KN 128 (q := 3) #[.int .i64 0, .string ByteArray.empty, .bool false, .int .i64 0, .int .i64 0] ?_; clear KN; intro g3 wx hg3 KN))))
            have hset : (p.map fun x => x.cells.toList).set u.instr (x.cells.toList.set 4 (.int .i32 (kv : Int))) = (p.set u.instr { x with imm := (kv : Int) }).map fun x => x.cells.toList := by rw [List.map_set]; rfl
            rw [hset] at KN
            have hxi2 : ((p.set u.instr { x with imm := (kv : Int) }).map fun x => x.cells.toList)[u.instr]? = some ({ x with imm := (kv : Int) } : Ins).cells.toList := by rw [List.getElem?_map, List.getElem?_set_self (by rw [HPN.out]; exact hui)]; rfl
            obtain ⟨p', hp'⟩ : ∃ p', p' = p.set u.instr { x with imm := (kv : Int) } := ⟨_, rfl⟩
            rw [← hp'] at KN hxi2
            have hpn2 : p'.length = n := by rw [hp', List.length_set]; exact HPN.out
            have hpi2 : ImmOk p' := by rw [hp']; exact HPI.out.set _ ⟨by show -2147483648 ≤ (kv : Int); omega, by show (kv : Int) ≤ 2147483647; omega⟩
            have HP2 := Lib.hid hp'
            have HPN2 := Lib.hid hpn2
            have HPI2 := Lib.hid hpi2
            have HXI2 := Lib.hid hxi2
            clear hset hxi2 hp' hpn2 hpi2
            go_frame
            cases htg : u.target with
            | false =>
              rw [htg] at KN
              have hnx := aFix_5 (n := n) (us := s.uses.drop (k + 1)) HXX.out hl HLA.out (fun q => by rw [htg] at q; exact absurd q.1 (by decide))
              have HNX := Lib.hid hnx
              clear hnx
              have c32 := KN.cell (g := g3) (o := 2) (by repeat (first | exact Has.here | refine Has.there ?_)) rfl
              go_quiet (fail)
              replace KN := KN.drewN nq
              clear c32
              go_wp2_with fail
              go_round
              case rel => (first | exact ⟨k + 1, p', by go_num, by rw [← HNU.out]; omega, HPN2.out, HPI2.out, (HRR.out.trans (congrArg (fun z => aFix s.labels n z p) HDR.out)).trans (HNX.out.trans (congrArg _ HP2.out.symm)), by unfold resEnts; rw [← HNU.out]; exact KN.drop .here⟩ | ((repeat apply Exists.intro); exact ⟨⟨k + 1, p', by go_num, by rw [← HNU.out]; omega, HPN2.out, HPI2.out, (HRR.out.trans (congrArg (fun z => aFix s.labels n z p) HDR.out)).trans (HNX.out.trans (congrArg _ HP2.out.symm)), by unfold resEnts; rw [← HNU.out]; exact KN.drop .here⟩, rfl⟩))
              case measure => simp [intOf]; omega
            | true =>
              rw [htg] at KN
              have c32 := KN.cell (g := g3) (o := 2) (by repeat (first | exact Has.here | refine Has.there ?_)) rfl
              have c5 := KN.cell (g := g) (o := 5) (by repeat (first | exact Has.here | refine Has.there ?_)) rfl
              have ce := (KN.elem (g := gp) (by repeat (first | exact Has.here | refine Has.there ?_)) (cells_len _) HXI2.out (j := 4) rfl).trans (show some _ = some (Value.int .i32 (kv : Int)) from rfl)
              have wv : IntKind.i64.wrap ((kv : Int)) = (kv : Int) := by rw [IntKind.wrap_i64]; omega
              by_cases hge : (n : Int) ≤ (kv : Int)
              · have hd1 : decide ((n : Int) ≤ (kv : Int)) = true := decide_eq_true hge
                have hnx := aFix_4 (n := n) (p := p) (us := s.uses.drop (k + 1)) hl HLA.out ⟨htg, hge⟩
                have HE := Lib.hid ((HRR.out.trans (congrArg (fun z => aFix s.labels n z p) HDR.out)).trans hnx)
                clear hnx
                go_quiet (fail)
                replace KN := KN.drewN nq
                clear c32 c5 ce
                go_wp2_with (first | ((with_reducible refine wpList_gate ?_); first | ((refine gate_load (by rfl) ?_); first | (refine wpList_kn_loadN KN (by rfl) 25 _ rfl g3 3 rfl _ _ (by repeat (first | exact Has.here | refine Has.there ?_)) #[.int .i64 (posE el ec d u.at_).1, .int .i64 (posE el ec d u.at_).2] (by rfl) _ Tryd.underlying25 rfl (by kernel_rfl) ?_) | (refine ks_load1 KN 23 Tryd.underlying23 ?_) | (refine ks_load1 KN 62 Tryd.underlying62 ?_) | (refine ks_loadW KN 128 Tryd.underlying128 ?_) | (refine ks_load1 KN 3 Tryd.underlying3 ?_) | (refine ks_load1 KN 9 Tryd.underlying9 ?_) | (refine ks_load1 KN 61 Tryd.underlying61 ?_) | (refine ks_loadW KN 25 Tryd.underlying25 ?_) | (refine ks_load1 KN 4 Tryd.underlying4 ?_) | (refine ks_load1 KN 21 Tryd.underlying21 ?_)) | ((refine gate_store (by rfl) ?_); first | (refine ks_storeW KN 128 ?_; clear KN; intro wx KN) | (refine ks_storeA KN 128 ?_; clear KN; intro wx KN) | (refine ks_store1 KN 21 ?_; clear KN; intro wx KN)) | ((refine gate_new (by rfl) ?_); first | (refine wpList_built rfl 55 _ rfl #[.int .i64 (posE el ec d u.at_).1, .int .i64 (posE el ec d u.at_).2, .int .i64 71] (by kernel_rfl) ?_) | (refine wpList_built rfl 25 #[] rfl #[.int .i64 0, .int .i64 0] (by kernel_rfl) ?_) | (refine ks_alloc KN 128 (q := 3) #[.int .i64 0, .string ByteArray.empty, .bool false, .int .i64 0, .int .i64 0] ?_; clear KN; intro g3 wx hg3 KN))))
                exact ⟨rfl, ResPost.err HE.out KN.toBelow⟩
              · have hd1 : decide ((n : Int) ≤ (kv : Int)) = false := decide_eq_false hge
                have hnx := aFix_5 (n := n) (us := s.uses.drop (k + 1)) HXX.out hl HLA.out (fun q => hge q.2)
                have HNX := Lib.hid hnx
                clear hnx
                go_quiet (fail)
                replace KN := KN.drewN nq
                clear c32 c5 ce
                go_wp2_with fail
                go_round
                case rel => (first | exact ⟨k + 1, p', by go_num, by rw [← HNU.out]; omega, HPN2.out, HPI2.out, (HRR.out.trans (congrArg (fun z => aFix s.labels n z p) HDR.out)).trans (HNX.out.trans (congrArg _ HP2.out.symm)), by unfold resEnts; rw [← HNU.out]; exact KN.drop .here⟩ | ((repeat apply Exists.intro); exact ⟨⟨k + 1, p', by go_num, by rw [← HNU.out]; omega, HPN2.out, HPI2.out, (HRR.out.trans (congrArg (fun z => aFix s.labels n z p) HDR.out)).trans (HNX.out.trans (congrArg _ HP2.out.symm)), by unfold resEnts; rw [← HNU.out]; exact KN.drop .here⟩, rfl⟩))
                case measure => simp [intOf]; omega
      · have hdr : s.uses.drop k = [] := List.drop_eq_nil_of_le (by rw [← HNU.out]; omega)
        have HE : Hid (r0 = .ok p) := Lib.hid (by rw [HRR.out, hdr]; rfl)
        clear hdr
        go_wp2_with fail
        first | go_end0 | refine bodyPost_ret (results_none rfl _ _ _) rfl ?_
        refine ResPost.ok HE.out (resKn_end (gp := gp) (go := go) HPN.out hp2 hp3 (by rw [← HNU.out]; exact ho1) ho2 ?_)
        unfold resEnts
        rw [← HNU.out]
        exact KN
end
section
open Go.RowKit

structure AsmOk (d : List Tok) (s : ASt) : Prop where
  i : s.i ≤ d.length
  lab : s.labels.length ≤ s.i
  prog : s.prog.length ≤ 4096
  uses : s.uses.length ≤ 3 * s.prog.length
  ins : ∀ u ∈ s.uses, u.instr < s.prog.length
  num : ∀ x ∈ s.labels, x.2 ≤ 4096
  imm : ImmOk s.prog
  len : ∀ u ∈ s.uses, u.label.length ≤ maxLen
  dist : Dist s.labels
section
variable {d : List Tok} {n : Nat}
theorem tk_len (hl : ∀ t ∈ d, t.raw.text.length ≤ maxLen) (i : Nat) : (tk d i).text.length ≤ maxLen := by
  unfold tk
  cases hd' : d[i]? with
  | none => exact Nat.zero_le _
  | some t => exact hl t (List.mem_of_getElem? hd')
theorem tk_val (hv : ∀ t ∈ d, 0 ≤ t.raw.value ∧ t.raw.value ≤ 18446744073709551615) (i : Nat) : 0 ≤ (tk d i).value := by
  unfold tk
  cases hd' : d[i]? with
  | none => show (0 : Int) ≤ 0; decide
  | some t => exact (hv t (List.mem_of_getElem? hd')).1
theorem aLabels_ok : ∀ (f i : Nat) (ls : Labels) (j : Nat) (ms : Labels), aLabels d n f i ls = .ok (j, ms) → i ≤ d.length → ls.length ≤ i → (∀ x ∈ ls, x.2 ≤ 4096) → n ≤ 4096 → Dist ls → j ≤ d.length ∧ ms.length ≤ j ∧ (∀ x ∈ ms, x.2 ≤ 4096) ∧ Dist ms ∧ i ≤ j
  | 0, i, ls, j, ms, h, h1, h2, h3, _, h5 => by
    rw [aLabels] at h
    cases h
    exact ⟨h1, h2, h3, h5, Nat.le_refl _⟩
  | f + 1, i, ls, j, ms, h, h1, h2, h3, h4, h5 => by
    rw [aLabels] at h
    split at h
    · rename_i hc
      split at h
      · cases h
      · split at h
        · cases h
        · rename_i hn
          have := isP_lt hc.2
          obtain ⟨q1, q2, q3, q4, q5⟩ := aLabels_ok f _ _ j ms h (by omega) (by rw [List.length_append]; simp; omega) (fun x hx => by
            rw [List.mem_append] at hx
            rcases hx with hx | hx
            · exact h3 x hx
            · have : x = ((tk d i).text, n) := by simpa using hx
              rw [this]; exact h4) h4 (Dist.snoc h5 (by simpa using hn))
          exact ⟨q1, q2, q3, q4, by omega⟩
    · cases h; exact ⟨h1, h2, h3, h5, Nat.le_refl _⟩
theorem aImm_ok (hv : ∀ t ∈ d, 0 ≤ t.raw.value ∧ t.raw.value ≤ 18446744073709551615) (hl : ∀ t ∈ d, t.raw.text.length ≤ maxLen) {tg : Bool} {i j : Nat} {v : Int} {vs : List ARef} (h : aImm d n tg i = .ok (v, j, vs)) :
    j ≤ d.length ∧ vs.length ≤ 1 ∧ (-2147483648 ≤ v ∧ v ≤ 2147483647) ∧ (∀ u ∈ vs, u.instr = n ∧ u.label.length ≤ maxLen) ∧ i ≤ j := by
  obtain ⟨h1, h2⟩ := aImm_bd h
  refine ⟨h1, h2, ?_⟩
  have hv0 := tk_val hv
  unfold aImm at h
  split at h
  · split at h
    · cases h
    · cases h
      refine ⟨by decide, fun u hu => ?_, by omega⟩
      have : u = ⟨n, (tk d i).text, tg, i⟩ := by simpa using hu
      subst this
      exact ⟨rfl, tk_len hl i⟩
  · split at h
    · split at h
      · cases h
      · split at h
        · cases h
        · cases h
          have := hv0 (i + 1)
          exact ⟨⟨by omega, by omega⟩, by simp, by omega⟩
    · split at h
      · cases h
      · split at h
        · cases h
        · cases h
          have := hv0 i
          refine ⟨⟨by omega, by omega⟩, fun u hu => ?_, by omega⟩
          split at hu
          · have : u = ⟨n, [], true, i⟩ := by simpa using hu
            subst this
            exact ⟨rfl, Nat.zero_le _⟩
          · cases hu
def UsesOk (n : Nat) (us : List ARef) : Prop := ∀ u ∈ us, u.instr = n ∧ u.label.length ≤ maxLen
theorem aOperand_ok (hv : ∀ t ∈ d, 0 ≤ t.raw.value ∧ t.raw.value ≤ 18446744073709551615) (hl : ∀ t ∈ d, t.raw.text.length ≤ maxLen) {c : UInt8} {x y : Ins} {i j : Nat} {vs : List ARef} (hx : -2147483648 ≤ x.imm ∧ x.imm ≤ 2147483647) (h : aOperand d n c x i = .ok (y, j, vs)) :
    j ≤ d.length ∧ vs.length ≤ 1 ∧ (-2147483648 ≤ y.imm ∧ y.imm ≤ 2147483647) ∧ UsesOk n vs ∧ i ≤ j := by
  have hreg : ∀ (f : Int → Ins), (∀ r, (f r).imm = x.imm) → (match aReg d i with | .error e => Except.error e | .ok r => Except.ok (f r, i + 1, ([] : List ARef))) = .ok (y, j, vs) → j ≤ d.length ∧ vs.length ≤ 1 ∧ (-2147483648 ≤ y.imm ∧ y.imm ≤ 2147483647) ∧ UsesOk n vs ∧ i ≤ j := by
    intro f hf h
    cases hr : aReg d i with
    | error e => rw [hr] at h; cases h
    | ok r =>
      rw [hr] at h
      have := aReg_lt hr
      cases h
      exact ⟨by omega, Nat.zero_le _, by rw [hf]; exact hx, (fun u hu => by cases hu), by omega⟩
  have himm : ∀ tg, (match aImm d n tg i with | .error e => Except.error e | .ok (v, j, us) => Except.ok (({ x with imm := v } : Ins), j, us)) = .ok (y, j, vs) → j ≤ d.length ∧ vs.length ≤ 1 ∧ (-2147483648 ≤ y.imm ∧ y.imm ≤ 2147483647) ∧ UsesOk n vs ∧ i ≤ j := by
    intro tg h
    cases hr : aImm d n tg i with
    | error e => rw [hr] at h; cases h
    | ok z =>
      obtain ⟨v, j2, us⟩ := z
      rw [hr] at h
      have := aImm_ok hv hl hr
      cases h
      exact this
  unfold aOperand at h
  split at h
  · exact hreg (fun r => { x with a := r }) (fun _ => rfl) h
  · split at h
    · exact hreg (fun r => { x with b := r }) (fun _ => rfl) h
    · split at h
      · exact hreg (fun r => { x with c := r }) (fun _ => rfl) h
      · split at h
        · exact himm false h
        · exact himm true h
theorem aOperands_ok (hv : ∀ t ∈ d, 0 ≤ t.raw.value ∧ t.raw.value ≤ 18446744073709551615) (hl : ∀ t ∈ d, t.raw.text.length ≤ maxLen) : ∀ (l : List UInt8) (b : Bool) (x y : Ins) (i j : Nat) (us vs : List ARef), i ≤ d.length → -2147483648 ≤ x.imm ∧ x.imm ≤ 2147483647 → UsesOk n us →
    aOperands d n b l x i us = .ok (y, j, vs) → j ≤ d.length ∧ vs.length ≤ us.length + l.length ∧ (-2147483648 ≤ y.imm ∧ y.imm ≤ 2147483647) ∧ UsesOk n vs ∧ i ≤ j
  | [], b, x, y, i, j, us, vs, hi, hx, hu, h => by
    rw [aOps_nil] at h
    cases h
    exact ⟨hi, Nat.le_refl _, hx, hu, Nat.le_refl _⟩
  | c :: l, b, x, y, i, j, us, vs, hi, hx, hu, h => by
    have key : ∀ i', i ≤ i' → aStep d n l us (aOperand d n c x i') = .ok (y, j, vs) → j ≤ d.length ∧ vs.length ≤ us.length + (c :: l).length ∧ (-2147483648 ≤ y.imm ∧ y.imm ≤ 2147483647) ∧ UsesOk n vs ∧ i ≤ j := by
      intro i' hii h
      cases ho : aOperand d n c x i' with
      | error e => rw [ho] at h; cases h
      | ok z =>
        obtain ⟨x2, j2, ws⟩ := z
        rw [ho] at h
        obtain ⟨h1, h2, h3, h4, h5⟩ := aOperand_ok hv hl hx ho
        obtain ⟨g1, g2, g3, g4, g5⟩ := aOperands_ok hv hl l false x2 y j2 j (us ++ ws) vs h1 h3 (fun u hm => by
          rw [List.mem_append] at hm
          rcases hm with hm | hm
          · exact hu u hm
          · exact h4 u hm) h
        rw [List.length_append] at g2
        exact ⟨g1, by simp; omega, g3, g4, by omega⟩
    cases b with
    | true => rw [aOps_first'] at h; exact key i (Nat.le_refl _) h
    | false =>
      rcases Bool.eq_false_or_eq_true (isP d i [44]) with hp | hp
      · rw [aOps_next' hp] at h; exact key (i + 1) (by omega) h
      · rw [aOps_comma hp] at h; cases h
theorem mnemIx_bd (s : List UInt8) : mnemIx s ≤ 27 := by
  have key : ∀ (f n : Nat), n + f = 28 → mnemFrom s f n ≤ 27 := by
    intro f
    induction f with
    | zero => intro n _; show (-1 : Int) ≤ 27; decide
    | succ f ih =>
      intro n h
      rw [mnemFrom]
      split
      · omega
      · exact ih (n + 1) (by omega)
  exact key 28 0 rfl
theorem AsmOk.instr (hv : ∀ t ∈ d, 0 ≤ t.raw.value ∧ t.raw.value ≤ 18446744073709551615) (hl : ∀ t ∈ d, t.raw.text.length ≤ maxLen) {s s' : ASt} (hs : AsmOk d s) (h : aInstr d s = .ok s') : AsmOk d s' ∧ s'.prog.length = s.prog.length + 1 ∧ s.i < s'.i := by
  unfold aInstr at h
  cases hlab : aLabels d s.prog.length d.length s.i s.labels with
  | error e => rw [hlab] at h; cases h
  | ok z =>
    obtain ⟨i, ls⟩ := z
    rw [hlab] at h
    obtain ⟨a1, a2, a3, a4, a5⟩ := aLabels_ok _ _ _ _ _ hlab hs.i hs.lab hs.num hs.prog hs.dist
    replace h : aBody d ⟨i, s.prog, ls, s.uses⟩ = .ok s' := h
    by_cases hk : (tk d i).kind = 1
    · by_cases hm : mnemIx (tk d i).text < 0
      · rw [aBody_mnem (s := ⟨i, s.prog, ls, s.uses⟩) hk hm] at h; cases h
      · by_cases hn : s.prog.length = 4096
        · rw [aBody_many (s := ⟨i, s.prog, ls, s.uses⟩) hk hm hn] at h; cases h
        · rw [aBody_rest (s := ⟨i, s.prog, ls, s.uses⟩) hk hm hn] at h
          have hlt := kind_lt (d := d) (i := i) (by rw [hk]; decide)
          cases ho : aOperands d s.prog.length true (operandsOf (mnemIx (tk d i).text)) ⟨mnemIx (tk d i).text, 0, 0, 0, 0⟩ (i + 1) [] with
          | error e => rw [show (⟨i, s.prog, ls, s.uses⟩ : ASt).prog = s.prog from rfl, show (⟨i, s.prog, ls, s.uses⟩ : ASt).i = i from rfl, ho] at h; cases h
          | ok z =>
            obtain ⟨x, j, us⟩ := z
            rw [show (⟨i, s.prog, ls, s.uses⟩ : ASt).prog = s.prog from rfl, show (⟨i, s.prog, ls, s.uses⟩ : ASt).i = i from rfl, ho] at h
            unfold aRest at h
            dsimp only at h
            obtain ⟨b1, b2, b3, b4, b5⟩ := aOperands_ok hv hl _ _ _ _ _ _ _ _ (by omega) ⟨by show (-2147483648 : Int) ≤ 0; decide, by show (0 : Int) ≤ 2147483647; decide⟩ (fun u hu => by cases hu) ho
            split at h
            · rename_i hp
              have hjl := isP_lt hp
              cases h
              obtain ⟨q, hq⟩ := Int.eq_ofNat_of_zero_le (show 0 ≤ mnemIx (tk d i).text by omega)
              have hq27 := mnemIx_bd (tk d i).text
              have hol : (operandsOf (mnemIx (tk d i).text)).length ≤ 3 := by rw [hq]; exact (opsOf_nat q (by omega)).1
              refine ⟨⟨by show j + 1 ≤ d.length; omega, by show ls.length ≤ j + 1; omega, by rw [List.length_append]; have := hs.prog; simp; omega, by rw [List.length_append, List.length_append]; have := hs.uses; simp at b2 ⊢; omega, fun u hu => ?_, a3, fun y hy => ?_, fun u hu => ?_, a4⟩, by simp, by show s.i < j + 1; omega⟩
              · rw [List.mem_append] at hu
                show u.instr < (s.prog ++ [x]).length
                rw [List.length_append, List.length_singleton]
                rcases hu with hu | hu
                · have := hs.ins u hu; omega
                · have e : u.instr = s.prog.length := (b4 u hu).1
                  omega
              · rw [List.mem_append] at hy
                rcases hy with hy | hy
                · exact hs.imm y hy
                · have : y = x := by simpa using hy
                  subst this; exact b3
              · rw [List.mem_append] at hu
                rcases hu with hu | hu
                · exact hs.len u hu
                · exact (b4 u hu).2
            · cases h
    · rw [aBody_word (s := ⟨i, s.prog, ls, s.uses⟩) hk] at h; cases h
end
end
end Go.Proofs.YtemigcdieghkfaaDoor
