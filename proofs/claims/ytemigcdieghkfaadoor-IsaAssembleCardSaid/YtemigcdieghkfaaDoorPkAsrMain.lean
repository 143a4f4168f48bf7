/- The reference's Assemble: the program of any text. -/
import Derived.Test.YtemigcdieghkfaaDoorPkAsrIns
import Derived.Test.YtemigcdieghkfaaDoorPkAsrOpen
import Derived.Test.YtemigcdieghkfaaDoorPkAsrPlain3
import Derived.Test.YtemigcdieghkfaaDoorPkAsmMain
set_option linter.unusedVariables false
set_option linter.unusedSimpArgs false
set_option linter.unusedSectionVars false
namespace Go.Proofs.YtemigcdieghkfaaDoor
open Go.RowKit Go.BigFrame

theorem kindB_bad {d : List Tok} {s : PSt} (h : ¬ s.er = 0) (k : Int) : kindB d s k = false := by unfold kindB; rw [beq_eq_false_iff_ne.2 h]; rfl
theorem asr_instr {W w : World} {R ol ul : Ents} {gp ga : Nat} {tv ov uv ls ps : Value} {sv : ByteArray} {p : Int × Int} {x : ASt} {d : List Tok} {el ec : Int}
    (KN : Kn [] W w ((gp, At (parC (.string sv) tv ⟨x.i, p, 0⟩) 74) :: (ga, At (ascC gp ov uv ls ps) 72) :: (R ++ (ul ++ ol)))) (OWo : OwnT 35 5 ov (x.prog.map fun z => z.cells.toList) ol) (OWu : OwnT 76 3 uv (useRows x.uses) ul) (hT : TokRd W tv d) (hd : d.length ≤ 65536) (hi : x.i ≤ 69000) (hs : sv.size ≤ 65536) (hp : Hid (adv sv.data.toList (1, 1) = (el, ec)))
    (hv : ∀ t ∈ d, 0 ≤ t.raw.value ∧ t.raw.value ≤ 18446744073709551615) (hn : x.prog.length ≤ 4096) (hu : x.uses.length ≤ 65000) :
    Calls Tryd.prog 33 #[.pointer (some ⟨ga, 0, none⟩)] w (InsPost W gp ga (.string sv) tv ls ps el ec d p x R) := by
  by_cases hk : (tk d x.i).kind = 1
  · exact asr_instr_word KN OWo OWu hT hd hi hs hp hv hn hu hk
  · exact asr_instr_none KN OWo OWu hT hd hi hs hp hk
theorem InsPost.ok {W w' : World} {gp ga : Nat} {sv tv ls ps : Value} {el ec : Int} {d : List Tok} {p : Int × Int} {x y : ASt} {R : Ents} {e : Ending} (h : InsPost W gp ga sv tv ls ps el ec d p x R e w') (hy : aBody d x = .ok y) :
    ∃ (ov uv : Value) (ol ul : Ents), e = .returned (.tuple #[]) ∧ OwnT 35 5 ov (y.prog.map fun z => z.cells.toList) ol ∧ OwnT 76 3 uv (useRows y.uses) ul ∧
        Kn [] W w' ((gp, At (parC sv tv ⟨y.i, p, 0⟩) 74) :: (ga, At (ascC gp ov uv ls ps) 72) :: (R ++ (ul ++ ol))) := by
  obtain ⟨ov, uv, ol, ul, rfl, h⟩ := h
  rw [hy] at h
  exact ⟨ov, uv, ol, ul, rfl, h⟩
theorem InsPost.err {W w' : World} {gp ga : Nat} {sv tv ls ps : Value} {el ec : Int} {d : List Tok} {p : Int × Int} {x : ASt} {q : AErr} {R : Ents} {e : Ending} (h : InsPost W gp ga sv tv ls ps el ec d p x R e w') (hy : aBody d x = .error q) :
    ∃ (ov uv : Value) (ol ul : Ents) (s : PSt) (Lo Lu : List (List Value)), e = .returned (.tuple #[]) ∧ BadP el ec d s q ∧ OwnT 35 5 ov Lo ol ∧ OwnT 76 3 uv Lu ul ∧
        Kn [] W w' ((gp, At (parC sv tv s) 74) :: (ga, At (ascC gp ov uv ls ps) 72) :: (R ++ (ul ++ ol))) := by
  obtain ⟨ov, uv, ol, ul, rfl, h⟩ := h
  rw [hy] at h
  obtain ⟨s, Lo, Lu, h1, h2, h3, h4⟩ := h
  exact ⟨ov, uv, ol, ul, s, Lo, Lu, rfl, h1, h2, h3, h4⟩
section
variable {W w' : World} {gp ga n : Nat} {sv tv out us : Value} {el ec : Int} {d : List Tok} {s : PSt} {ls : Labels} {R : Ents} {e : Ending}
theorem LabPost.no (h : LabPost W gp ga n sv tv out us el ec d s ls R e w') (hb : labB d s = false) :
    ∃ (nv qv : Value) (nl ql : Ents), e = .returned (.bool false) ∧ OwnT 9 1 nv (labN ls) nl ∧ OwnT 3 1 qv (labP ls) ql ∧ Kn [] W w' ((gp, At (parC sv tv s) 74) :: (ga, At (ascC gp out us nv qv) 72) :: (R ++ (ql ++ nl))) := by
  obtain ⟨nv, qv, nl, ql, r, b, ls', rfl, h1, h2, h3, h4⟩ := h
  rcases h4 with ⟨_, rfl, rfl, rfl⟩ | ⟨h, _⟩ | ⟨h, _⟩
  · exact ⟨nv, qv, nl, ql, rfl, h1, h2, h3⟩
  · rw [hb] at h; cases h
  · rw [hb] at h; cases h
theorem LabPost.reg (h : LabPost W gp ga n sv tv out us el ec d s ls R e w') (hb : labB d s = true) (hr : 0 ≤ regOf (tk d s.i).text) :
    ∃ (nv qv : Value) (nl ql : Ents), e = .returned (.bool false) ∧ OwnT 9 1 nv (labN ls) nl ∧ OwnT 3 1 qv (labP ls) ql ∧ Kn [] W w' ((gp, At (parC sv tv (failP el ec d s s.i 50)) 74) :: (ga, At (ascC gp out us nv qv) 72) :: (R ++ (ql ++ nl))) := by
  obtain ⟨nv, qv, nl, ql, r, b, ls', rfl, h1, h2, h3, h4⟩ := h
  rcases h4 with ⟨h, _⟩ | ⟨_, _, rfl, rfl, rfl⟩ | ⟨_, h, _⟩
  · rw [hb] at h; cases h
  · exact ⟨nv, qv, nl, ql, rfl, h1, h2, h3⟩
  · exact absurd hr h
theorem LabPost.yes (h : LabPost W gp ga n sv tv out us el ec d s ls R e w') (hb : labB d s = true) (hr : ¬ 0 ≤ regOf (tk d s.i).text) :
    ∃ (nv qv : Value) (nl ql : Ents), e = .returned (.bool true) ∧ OwnT 9 1 nv (labN (ls ++ [((tk d s.i).text, n)])) nl ∧ OwnT 3 1 qv (labP (ls ++ [((tk d s.i).text, n)])) ql ∧
      Kn [] W w' ((gp, At (parC sv tv (stepP (stepP (if 0 ≤ findI ls (tk d s.i).text then failP el ec d s s.i 72 else s)))) 74) :: (ga, At (ascC gp out us nv qv) 72) :: (R ++ (ql ++ nl))) := by
  obtain ⟨nv, qv, nl, ql, r, b, ls', rfl, h1, h2, h3, h4⟩ := h
  rcases h4 with ⟨h, _⟩ | ⟨_, h, _⟩ | ⟨_, _, rfl, rfl, rfl⟩
  · rw [hb] at h; cases h
  · exact absurd h hr
  · exact ⟨nv, qv, nl, ql, rfl, h1, h2, h3⟩
end
theorem findI_some (ls : Labels) (s : List UInt8) : (0 ≤ findI ls s) ↔ (labelAt ls s).isSome = true := by
  unfold findI
  cases labelAt ls s with
  | none => simp
  | some k => simp
section
variable {d : List Tok} {n f i : Nat} {p : Int × Int} {ls : Labels}
theorem labB_mk : labB d ⟨i, p, 0⟩ = true ↔ ((tk d i).kind = 1 ∧ isP d (i + 1) [58] = true) := by
  unfold labB
  rw [kindB_mk, Bool.and_eq_true, decide_eq_true_eq]
theorem ahead_end (h : labB d ⟨i, p, 0⟩ = false) : aLabels d n f i ls = .ok (i, ls) := by
  cases f with
  | zero => rfl
  | succ f => rw [aLabels, if_neg (fun q => by rw [labB_mk.2 q] at h; cases h)]
theorem ahead_reg (hf : 1 ≤ f) (h : labB d ⟨i, p, 0⟩ = true) (hr : 0 ≤ regOf (tk d i).text) : aLabels d n f i ls = .error (i, 50) := by
  obtain ⟨f, rfl⟩ : ∃ f', f = f' + 1 := ⟨f - 1, by omega⟩
  rw [aLabels, if_pos (labB_mk.1 h), if_pos hr]
theorem ahead_dup (hf : 1 ≤ f) (h : labB d ⟨i, p, 0⟩ = true) (hr : ¬ 0 ≤ regOf (tk d i).text) (hd : 0 ≤ findI ls (tk d i).text) : aLabels d n f i ls = .error (i, 72) := by
  obtain ⟨f, rfl⟩ : ∃ f', f = f' + 1 := ⟨f - 1, by omega⟩
  rw [aLabels, if_pos (labB_mk.1 h), if_neg hr, if_pos ((findI_some _ _).1 hd)]
theorem ahead_next (hf : 1 ≤ f) (h : labB d ⟨i, p, 0⟩ = true) (hr : ¬ 0 ≤ regOf (tk d i).text) (hd : ¬ 0 ≤ findI ls (tk d i).text) : aLabels d n f i ls = aLabels d n (f - 1) (i + 2) (ls ++ [((tk d i).text, n)]) := by
  obtain ⟨f, rfl⟩ : ∃ f', f = f' + 1 := ⟨f - 1, by omega⟩
  rw [aLabels, if_pos (labB_mk.1 h), if_neg hr, if_neg (fun q => hd ((findI_some _ _).2 q))]
  rfl
end
theorem results_tct {P : Program} {fn : Func} {p s r : Tmp} {ty : TypeId} (h : fn.results = #[.tmp r, .cell p ty, .tmp s]) (tmps : Array Value) (w : World) (g : Nat) (cs : Array Value) (v x : Value)
    (hx : tmps.getD r undef = x) (hp : tmps.getD p undef = .pointer (some ⟨g, 0, none⟩)) (hg : (loadVar ty ⟨g, 0, none⟩).run P w = .ok (.agg cs) w) (hs : tmps.getD s undef = v) :
    (results fn tmps).run P w = .ok (.tuple #[x, .agg cs, v]) w := by
  have hp' : tmps[p]?.getD undef = .pointer (some ⟨g, 0, none⟩) := by simpa using hp
  have hs' : tmps[s]?.getD undef = v := by simpa using hs
  have hx' : tmps[r]?.getD undef = x := by simpa using hx
  simp [results, h, hp', hs', hx', asAddr, hg]
def asrI (gp : Nat) (w : World) : Nat := match w.cell? ⟨gp, 2, none⟩ with | some (.int _ n) => n.toNat | _ => 0
def asrE (gp : Nat) (w : World) : Bool := match w.cell? ⟨gp, 5, none⟩ with | some (.int _ n) => n == 0 | _ => false
def asrM (n gp : Nat) (w : World) : Nat := if asrE gp w = true then n - asrI gp w else 0
theorem asrM_eq {M : List Nat} {W w : World} {l : Ents} {gp : Nat} {sv tv : Value} {s : PSt} {T : TypeId} (KN : Kn M W w l) (m : Has l gp (At (parC sv tv s) T)) (n : Nat) : asrM n gp w = if s.er = 0 then n - s.i else 0 := by
  have h1 : asrI gp w = s.i := by unfold asrI; rw [KN.cell m (o := 2) (v := .int .i64 (s.i : Int)) rfl]; rfl
  have h2 : asrE gp w = (s.er == 0) := by unfold asrE; rw [KN.cell m (o := 5) (v := .int .i64 s.er) rfl]
  unfold asrM
  rw [h1, h2]
  by_cases h : s.er = 0
  · rw [if_pos h, if_pos (by rw [h]; rfl)]
  · rw [if_neg h, if_neg (by rw [beq_iff_eq]; exact h)]
abbrev insRows (p : List Ins) : List (List Value) := p.map fun z => z.cells.toList
def AsrSt (W : World) (gp ga : Nat) (sv tv : Value) (s : PSt) (Lo Lu : List (List Value)) (ls : Labels) (wr : World) : Prop :=
  ∃ (ov uv nv qv : Value) (ol ul nl ql : Ents), OwnT 35 5 ov Lo ol ∧ OwnT 76 3 uv Lu ul ∧ OwnT 9 1 nv (labN ls) nl ∧ OwnT 3 1 qv (labP ls) ql ∧
    Kn [] W wr ((gp, At (parC sv tv s) 74) :: (ga, At (ascC gp ov uv nv qv) 72) :: ((ul ++ ol) ++ (ql ++ nl)))
theorem AsrSt.meas {W wr : World} {gp ga n : Nat} {sv tv : Value} {s : PSt} {Lo Lu : List (List Value)} {ls : Labels} (h : AsrSt W gp ga sv tv s Lo Lu ls wr) : asrM n gp wr = if s.er = 0 then n - s.i else 0 := by
  obtain ⟨ov, uv, nv, qv, ol, ul, nl, ql, _, _, _, _, KN⟩ := h
  exact asrM_eq KN .here n
/-- The outcome is settled: there is an error. -/
def Spoilt (AS : List Ins × (Int × Int) × Int) (s : PSt) : Prop := ¬ s.er = 0 ∧ AS = ([], s.p, s.er)
def MainRel (W : World) (gp ga : Nat) (sv tv : Value) (el ec : Int) (d : List Tok) (p : Int × Int) (er : Int) (r0 : Except AErr ASt) (AS : List Ins × (Int × Int) × Int) (wr : World) : Prop :=
  ∃ (s : PSt) (Lo Lu : List (List Value)) (ls : Labels), AsrSt W gp ga sv tv s Lo Lu ls wr ∧
    ((er = 0 ∧ ∃ (f : Nat) (x : ASt), r0 = aAll d f x ∧ d.length ≤ f + x.i ∧ AsmOk d x ∧ s = ⟨x.i, p, 0⟩ ∧ Lo = insRows x.prog ∧ Lu = useRows x.uses ∧ ls = x.labels) ∨ Spoilt AS s)
/-- Among the labels ahead of an instruction. -/
def AheadRel (W : World) (gp ga : Nat) (sv tv : Value) (d : List Tok) (p : Int × Int) (x : ASt) (RL : Except AErr (Nat × Labels)) (AS : List Ins × (Int × Int) × Int) (wr : World) : Prop :=
  ∃ (s : PSt) (ls : Labels), AsrSt W gp ga sv tv s (insRows x.prog) (useRows x.uses) ls wr ∧ ls.length ≤ s.i ∧ x.i ≤ s.i ∧ s.i ≤ d.length ∧
    ((s.er = 0 ∧ s.p = p ∧ ∃ f, RL = aLabels d x.prog.length f s.i ls ∧ d.length ≤ f + s.i) ∨ Spoilt AS s)
theorem Kn.base {w w1 wz : World} {a b c : Nat × (Obj → Prop)} {X tl : Ents} (K0 : Kn [] w w1 (c :: tl)) (KN : Kn [] w1 wz (a :: b :: X)) : Kn [] w wz (a :: b :: c :: (X ++ tl)) :=
  (K0.call0 KN).perm (List.Perm.cons _ (List.Perm.cons _ List.perm_middle))
theorem rangeAt_elem {e : TypeId} {sz cap : Nat} {L : List (List Value)} {M : List Nat} {W w : World} {l : Ents} {g : Nat} (KN : Kn M W w l) (m : Has l g (CapAt e sz cap L)) (hl : ∀ c ∈ L, c.length = sz) {i : Nat} {c : List Value} (hi : L[i]? = some c) : w.rangeAt g (i * sz) c := fun j v hj => KN.elem m hl hi hj
theorem useRows_len (us : List ARef) : ∀ c ∈ useRows us, c.length = 3 := by
  intro c hc
  obtain ⟨u, _, rfl⟩ := List.mem_map.1 hc
  rfl
/-- Among the uses of labels. -/
def ResoRel (W : World) (gp ga go co n nu xi : Nat) (sv tv uv nv qv : Value) (ul nl ql : Ents) (p0 : Int × Int) (us : List ARef) (ls : Labels) (ops : List Int) (r1 : Except AErr (List Ins)) (AS : List Ins × (Int × Int) × Int) (i : Value) (wr : World) : Prop :=
  ∃ (k : Nat) (s : PSt) (p : List Ins), i = .int .i64 (k : Int) ∧ k ≤ nu ∧ p.length = n ∧ ImmOk p ∧ p.map (·.op) = ops ∧
    Kn [] W wr ((gp, At (parC sv tv s) 74) :: (ga, At (ascC gp (.slice (some ⟨go, 0, none⟩) n co) uv nv qv) 72) :: (go, CapAt 35 5 co (insRows p)) :: (ul ++ (ql ++ nl))) ∧
    ((s = ⟨xi, p0, 0⟩ ∧ r1 = aFix ls n (us.drop k) p) ∨ Spoilt AS s)
theorem map_op_get {p q : List Ins} (h : p.map (·.op) = q.map (·.op)) {i : Nat} {x y : Ins} (hx : p[i]? = some x) (hy : q[i]? = some y) : x.op = y.op := by
  have := congrArg (fun l : List Int => l[i]?) h
  simpa [hx, hy] using this
theorem set_op {p : List Ins} {i : Nat} {x y : Ins} (hx : p[i]? = some x) (h : y.op = x.op) : (p.set i y).map (·.op) = p.map (·.op) := by
  apply List.ext_getElem?
  intro j
  rw [List.getElem?_map, List.getElem?_map, List.getElem?_set]
  split
  · rename_i e
    subst e
    rw [if_pos (List.getElem?_eq_some_iff.1 hx).1, hx]
    simp [h]
  · rfl
theorem aFix_uni {ls : Labels} {n : Nat} {u : ARef} {us : List ARef} {p : List Ins} {x : Ins} (hx : p[u.instr]? = some x) (hl : u.label = []) : aFix ls n (u :: us) p = if u.target = true ∧ (n : Int) ≤ x.imm then .error (u.at_, 71) else aFix ls n us p := by rw [aFix, if_pos hl, getD_of hx]
theorem aFix_uni2 {ls : Labels} {n k : Nat} {u : ARef} {us : List ARef} {p : List Ins} {x : Ins} (hx : p[u.instr]? = some x) (hl : ¬ u.label = []) (hn : labelAt ls u.label = some k) : aFix ls n (u :: us) p = if u.target = true ∧ (n : Int) ≤ (k : Int) then .error (u.at_, 71) else aFix ls n us (p.set u.instr { x with imm := (k : Int) }) := by
  by_cases h : u.target = true ∧ (n : Int) ≤ (k : Int)
  · rw [if_pos h, aFix_4 hl hn h]
  · rw [if_neg h, aFix_5 hx hl hn h]
set_option maxRecDepth 100000 in
set_option maxHeartbeats 40000000 in
theorem RAssemble_any (s : ByteArray) (w : World) (hs : s.size ≤ maxLen) : Calls Tryd.prog 9 #[.string s] w (AsmOut s.data.toList w) := by
  obtain ⟨d, hd⟩ : ∃ d, d = (scanRes s.data.toList).1 := ⟨_, rfl⟩
  obtain ⟨a, ha⟩ : ∃ a, a = (scanRes s.data.toList).2.1 := ⟨_, rfl⟩
  obtain ⟨b, hb⟩ : ∃ b, b = (scanRes s.data.toList).2.2.1 := ⟨_, rfl⟩
  obtain ⟨er, her⟩ : ∃ er, er = (scanRes s.data.toList).2.2.2 := ⟨_, rfl⟩
  have HOP := Lib.hid (fun w0 => Open_two s w0 hs)
  rw [← hd, ← ha, ← hb, ← her] at HOP
  obtain ⟨el, ec, hp⟩ : ∃ el ec, adv s.data.toList (1, 1) = (el, ec) := ⟨_, _, rfl⟩
  have HP : Hid (adv s.data.toList (1, 1) = (el, ec)) := Lib.hid hp
  obtain ⟨r0, hr0⟩ : ∃ r0, r0 = aAll d d.length ⟨0, [], [], []⟩ := ⟨_, rfl⟩
  obtain ⟨AS, hAS⟩ : ∃ AS, AS = asm s.data.toList := ⟨_, rfl⟩
  have hsr : scanRes s.data.toList = (d, a, b, er) := by rw [hd, ha, hb, her]
  have HERR : Hid (er = 0 → ∀ q t, r0 = .error q → BadP el ec d t q → Spoilt AS t) := Lib.hid (by
    rintro rfl q t h ⟨h1, h2, h3⟩
    refine ⟨by rw [h1]; exact h3, ?_⟩
    rw [hAS, (asm_cases _ d a b hsr el ec hp).1 q (hr0.symm.trans h), h1, h2])
  have HOKK : Hid (er = 0 → ∀ x, r0 = .ok x → (x.prog = [] → AS = ([], (0, 0), 15)) ∧ (¬ x.prog = [] → (∀ q, aResolve x = .error q → AS = ([], posE el ec d q.1, q.2)) ∧ ∀ p, aResolve x = .ok p → AS = (p, (0, 0), 0))) := Lib.hid (by
    rintro rfl x h
    rw [hAS]
    exact (asm_cases _ d a b hsr el ec hp).2 x (hr0.symm.trans h))
  have HSC0 : Hid (¬ er = 0 → AS = ([], (a, b), er)) := Lib.hid (fun h => by
    rw [hAS]
    unfold asm
    rw [hsr]
    show (if ¬ er = 0 then _ else _) = _
    rw [if_pos h])
  have HSZ : Hid (er = 0 → s.size ≤ 65536) := Lib.hid (fun h => by
    rcases Nat.lt_or_ge 65536 s.size with h1 | h1
    · rw [her, scanRes_long (l := s.data.toList) h1] at h
      exact absurd h (by decide)
    · exact h1)
  have HDL : Hid (d.length ≤ 65536) := Lib.hid (by rw [hd]; exact scanRes_len _)
  have HTL : Hid (s.size ≤ 65536 → ∀ t ∈ d, t.raw.text.length ≤ maxLen) := Lib.hid (by rw [hd]; exact fun h t ht => Nat.le_trans (scanRes_tlen _ t ht) (by show s.size ≤ maxLen; unfold maxLen; omega))
  have HVAL : Hid (∀ t ∈ d, 0 ≤ t.raw.value ∧ t.raw.value ≤ 18446744073709551615) := Lib.hid (by rw [hd]; exact scanRes_val _)
  have HOUT : Hid (∀ (e : Ending) (w' : World), (∃ (v : Value) (ol : Ents), e = .returned (.tuple #[v, .agg #[.int .i64 AS.2.1.1, .int .i64 AS.2.1.2], .int .i64 AS.2.2]) ∧ OwnT 35 5 v (insRows AS.1) ol ∧ Kn [] w w' ol) → AsmOut s.data.toList w e w') := Lib.hid (fun e w' h => by
    unfold AsmOut
    rw [← hAS]
    exact h)
  have HR0 := Lib.hid hr0
  have HSS := Lib.hid hs
  generalize AsmOut s.data.toList w = POST at HOUT ⊢
  have KN := Kn.start w
  clear hd ha hb her hp hr0 hAS hsr hs
  go_enter Tryd.func9, Tryd.ntmps9
  go_wp2_with (first | (go_at_call 29; refine (HOP.out _).mono ?_; rintro e9 w2 ⟨gp, tv, tl, w1, rfl, K1, hT, K2⟩; have K0 := Lib.hid ((KN.call0 K1).perm List.perm_append_comm); have HT := Lib.hid hT; clear KN; have KN := K2; clear K1 K2 hT) | ((with_reducible refine wpList_gate ?_); first | ((refine gate_load (by rfl) ?_); first | (refine ks_load1 KN 67 Tryd.underlying67 ?_) | (refine ks_loadW KN 25 Tryd.underlying25 ?_) | (refine ks_load1 KN 26 Tryd.underlying26 ?_) | (refine ks_load1 KN 23 Tryd.underlying23 ?_) | (refine ks_load1 KN 69 Tryd.underlying69 ?_) | (refine ks_loadW KN 76 Tryd.underlying76 ?_) | (refine ks_load1 KN 3 Tryd.underlying3 ?_) | (refine ks_load1 KN 9 Tryd.underlying9 ?_) | (refine ks_loadW KN 35 Tryd.underlying35 ?_) | (refine ks_load1 KN 21 Tryd.underlying21 ?_)) | ((refine gate_store (by rfl) ?_); first | (refine ks_storeW KN 25 ?_; clear KN; intro wx KN) | (refine ks_storeA KN 25 ?_; clear KN; intro wx KN) | (refine ks_storeW KN 76 ?_; clear KN; intro wx KN) | (refine ks_storeA KN 76 ?_; clear KN; intro wx KN) | (refine ks_store1 KN 21 ?_; clear KN; intro wx KN)) | ((refine gate_new (by rfl) ?_); first | (refine wpList_built rfl 72 _ rfl (ascC gp (.slice none 0 0) (.slice none 0 0) (.slice none 0 0) (.slice none 0 0)) (by kernel_rfl) ?_) | (refine ks_alloc KN 25 (q := 3) #[.int .i64 0, .int .i64 0] ?_; clear KN; intro g3 wx hg3 KN) | (refine ks_boxA KN 72 (q := 14) ?_; clear KN; intro g14 wx hg14 KN) | (refine wpList_built rfl 25 #[] rfl #[.int .i64 0, .int .i64 0] (by kernel_rfl) ?_) | (refine ks_alloc KN 76 (q := 8) #[.string ByteArray.empty, .int .i64 0, .int .i64 0] ?_; clear KN; intro g8 wx hg8 KN))))
  replace KN := KN.perm (List.Perm.swap _ _ _)
  go_loopw [25] (fun _ wr => MainRel w1 gp g14 (.string s) tv el ec d (a, b) er r0 AS wr) (fun _ wr => asrM d.length gp wr)
  case atStart =>
    refine ⟨⟨0, (a, b), er⟩, [], [], [], ⟨_, _, _, _, [], [], [], [], .nil, .nil, .nil, .nil, KN⟩, ?_⟩
    by_cases he : er = 0
    · subst he
      exact .inl ⟨rfl, d.length, ⟨0, [], [], []⟩, HR0.out, by omega, AsmOk.start d, rfl, rfl, rfl, rfl⟩
    · exact .inr ⟨he, HSC0.out he⟩
  case round =>
    clear KN
    obtain ⟨s1, Lo, Lu, ls, hst, hrel⟩ := hrel
    rcases hrel with ⟨he, f, x, hr, hf, hok, rfl, rfl, rfl, rfl⟩ | hsp
    · have HOK := Lib.hid hok
      have HE := Lib.hid he
      have HSZ1 := Lib.hid (HSZ.out he)
      have HME : Hid (asrM d.length gp wr = d.length - x.i) := Lib.hid (by rw [hst.meas, if_pos rfl])
      have HRF := Lib.hid hr
      have HF := Lib.hid hf
      obtain ⟨ov, uv, nv, qv, ol, ul, nl, ql, OWo, OWu, OWn, OWq, KN⟩ := hst
      have HOo := Lib.hid OWo
      have HOu := Lib.hid OWu
      have HOn := Lib.hid OWn
      have HOq := Lib.hid OWq
      have HT0 : Hid (((⟨x.i, (a, b), 0⟩ : PSt).er == 0) = true) := Lib.hid rfl
      clear he hok hr hf OWo OWu OWn OWq
      by_cases hx : x.i < d.length
      · have HDN : Hid (decide (d.length ≤ (⟨x.i, (a, b), 0⟩ : PSt).i) = false) := Lib.hid (decide_eq_false (by show ¬ d.length ≤ x.i; omega))
        have HOKS : Hid (∀ y, aInstr d x = .ok y → r0 = aAll d (f - 1) y ∧ d.length ≤ (f - 1) + y.i ∧ AsmOk d y ∧ x.i < y.i) := Lib.hid (by
          intro y hy
          have h := HOK.out.instr HVAL.out (HTL.out HSZ1.out) hy
          have hf := HF.out
          refine ⟨?_, by have := h.2.2; omega, h.1, h.2.2⟩
          rw [HRF.out]
          obtain ⟨f, rfl⟩ : ∃ f', f = f' + 1 := ⟨f - 1, by omega⟩
          rw [aAll, if_pos hx, hy]
          rfl)
        have HERS : Hid (∀ q t, aInstr d x = .error q → BadP el ec d t q → Spoilt AS t) := Lib.hid (by
          intro q t hy hb
          have hf := HF.out
          refine HERR.out HE.out q t ?_ hb
          rw [HRF.out]
          obtain ⟨f, rfl⟩ : ∃ f', f = f' + 1 := ⟨f - 1, by omega⟩
          rw [aAll, if_pos hx, hy])
        obtain ⟨RL, hRL⟩ : ∃ RL, RL = aLabels d x.prog.length d.length x.i x.labels := ⟨_, rfl⟩
        have HIok : Hid (∀ i ls, RL = .ok (i, ls) → aInstr d x = aBody d ⟨i, x.prog, ls, x.uses⟩) := Lib.hid (fun i ls h => by unfold aInstr; rw [← hRL, h])
        have HIer : Hid (∀ q, RL = .error q → aInstr d x = .error q) := Lib.hid (fun q h => by unfold aInstr; rw [← hRL, h])
        have HRL := Lib.hid hRL
        obtain ⟨n, hn⟩ : ∃ n, n = x.prog.length := ⟨_, rfl⟩
        have hnb : n ≤ 4096 := by rw [hn]; exact HOK.out.prog
        have hub : x.uses.length ≤ 65000 := by have h1 := HOK.out.uses; have h2 := HOK.out.prog; omega
        have HNN := Lib.hid hn
        have HUB := Lib.hid hub
        have HXI := Lib.hid hx
        clear hRL hn hub
        go_wp2_with (first | (go_at_call 30; refine (par_ok KN).mono ?_; rw [HT0.out]; rintro e9 wx ⟨rfl, K2⟩; replace KN := K2; clear K2) | (go_at_call 31; refine (par_done KN HT.out HDL.out).mono ?_; rw [HDN.out]; rintro e9 wx ⟨rfl, K2⟩; replace KN := K2; clear K2) | ((with_reducible refine wpList_gate ?_); first | ((refine gate_load (by rfl) ?_); first | (refine ks_load1 KN 67 Tryd.underlying67 ?_) | (refine ks_loadW KN 25 Tryd.underlying25 ?_) | (refine ks_load1 KN 26 Tryd.underlying26 ?_) | (refine ks_load1 KN 23 Tryd.underlying23 ?_) | (refine ks_load1 KN 69 Tryd.underlying69 ?_) | (refine ks_loadW KN 76 Tryd.underlying76 ?_) | (refine ks_load1 KN 3 Tryd.underlying3 ?_) | (refine ks_load1 KN 9 Tryd.underlying9 ?_) | (refine ks_loadW KN 35 Tryd.underlying35 ?_) | (refine ks_load1 KN 21 Tryd.underlying21 ?_)) | ((refine gate_store (by rfl) ?_); first | (refine ks_storeW KN 25 ?_; clear KN; intro wx KN) | (refine ks_storeA KN 25 ?_; clear KN; intro wx KN) | (refine ks_storeW KN 76 ?_; clear KN; intro wx KN) | (refine ks_storeA KN 76 ?_; clear KN; intro wx KN) | (refine ks_store1 KN 21 ?_; clear KN; intro wx KN)) | ((refine gate_new (by rfl) ?_); first | (refine ks_alloc KN 25 (q := 3) #[.int .i64 0, .int .i64 0] ?_; clear KN; intro g3 wx hg3 KN) | (refine ks_boxA KN 72 (q := 14) ?_; clear KN; intro g14 wx hg14 KN) | (refine wpList_built rfl 25 #[] rfl #[.int .i64 0, .int .i64 0] (by kernel_rfl) ?_) | (refine ks_alloc KN 76 (q := 8) #[.string ByteArray.empty, .int .i64 0, .int .i64 0] ?_; clear KN; intro g8 wx hg8 KN))))
        go_loopw [27] (fun _ wr => AheadRel w1 gp g14 (.string s) tv d (a, b) x RL AS wr) (fun _ wr => asrM d.length gp wr)
        case atStart =>
          exact ⟨⟨x.i, (a, b), 0⟩, x.labels, ⟨ov, uv, nv, qv, ol, ul, nl, ql, HOo.out, HOu.out, HOn.out, HOq.out, KN⟩, HOK.out.lab, Nat.le_refl _, by show x.i ≤ d.length; omega, .inl ⟨rfl, rfl, d.length, HRL.out, by omega⟩⟩
        case round =>
          clear KN HOo HOu HOn HOq
          obtain ⟨s2, ls2, hst, hl1, hl2, hl3, hcase⟩ := hrel
          have HM2 := Lib.hid (hst.meas (n := d.length))
          obtain ⟨ov2, uv2, nv2, qv2, ol2, ul2, nl2, ql2, OWo, OWu, OWn, OWq, KN⟩ := hst
          have hdl := HDL.out
          have hsz := HSZ1.out
          obtain ⟨oa, oc, hov⟩ := OWo.form
          rw [show (insRows x.prog).length = n from by rw [HNN.out]; exact List.length_map ..] at hov
          subst hov
          have HOo := Lib.hid OWo
          have HOu := Lib.hid OWu
          have HOn := Lib.hid OWn
          have HOq := Lib.hid OWq
          clear OWo OWu OWn OWq
          rcases hcase with ⟨h0, hp0, f2, hRL, hf2⟩ | hsp
          · obtain ⟨i2, p2, e2⟩ := s2
            simp only at h0 hp0 hRL hf2 hl1 hl2 hl3
            subst h0
            subst hp0
            have HRL2 := Lib.hid hRL
            have HF2 := Lib.hid hf2
            have HT2 : Hid (((⟨i2, (a, b), 0⟩ : PSt).er == 0) = true) := Lib.hid rfl
            clear hRL hf2
            cases hlb : labB d ⟨i2, (a, b), 0⟩ with
            | false =>
              have HLB := Lib.hid hlb
              have HAI := Lib.hid (HIok.out i2 ls2 (by rw [HRL2.out, HNN.out.symm]; exact ahead_end hlb))
              clear hlb
              cases hbo : aBody d ⟨i2, x.prog, ls2, x.uses⟩ with
              | ok y =>
                have HBO := Lib.hid hbo
                have HY := Lib.hid (HOKS.out y (HAI.out.trans hbo))
                have HYL : Hid (y.labels = ls2) := Lib.hid (aBody_labels hbo)
                clear hbo
                go_wp2_with (first | (go_at_call 32; refine (asr_label KN HOn.out HOq.out (by omega) (by omega) HT.out hdl (by show i2 ≤ 69000; omega) hsz HP).mono ?_; intro e9 wx hp9; obtain ⟨nv3, qv3, nl3, ql3, rfl, OWn3, OWq3, K2⟩ := hp9.no HLB.out; replace KN := K2; clear K2 hp9 HOn HOq; have HOn := Lib.hid OWn3; have HOq := Lib.hid OWq3; clear OWn3 OWq3) | (go_at_call 30; refine (par_ok KN).mono ?_; rw [HT2.out]; rintro e9 wx ⟨rfl, K2⟩; replace KN := K2; clear K2) | (go_at_call 33; refine (asr_instr (x := ⟨i2, x.prog, ls2, x.uses⟩) (KN.perm (List.Perm.cons _ (List.Perm.cons _ List.perm_append_comm))) HOo.out HOu.out HT.out hdl (by show i2 ≤ 69000; omega) hsz HP HVAL.out (by rw [← HNN.out]; exact hnb) HUB.out).mono ?_; intro e9 wx hp9; obtain ⟨ov4, uv4, ol4, ul4, rfl, OWo4, OWu4, K2⟩ := hp9.ok HBO.out; replace KN := K2.perm (List.Perm.cons _ (List.Perm.cons _ List.perm_append_comm)); clear K2 hp9) | ((with_reducible refine wpList_gate ?_); first | ((refine gate_load (by rfl) ?_); first | (refine ks_load1 KN 67 Tryd.underlying67 ?_) | (refine ks_loadW KN 25 Tryd.underlying25 ?_) | (refine ks_load1 KN 26 Tryd.underlying26 ?_) | (refine ks_load1 KN 23 Tryd.underlying23 ?_) | (refine ks_load1 KN 69 Tryd.underlying69 ?_) | (refine ks_loadW KN 76 Tryd.underlying76 ?_) | (refine ks_load1 KN 3 Tryd.underlying3 ?_) | (refine ks_load1 KN 9 Tryd.underlying9 ?_) | (refine ks_loadW KN 35 Tryd.underlying35 ?_) | (refine ks_load1 KN 21 Tryd.underlying21 ?_)) | ((refine gate_store (by rfl) ?_); first | (refine ks_storeW KN 25 ?_; clear KN; intro wx KN) | (refine ks_storeA KN 25 ?_; clear KN; intro wx KN) | (refine ks_storeW KN 76 ?_; clear KN; intro wx KN) | (refine ks_storeA KN 76 ?_; clear KN; intro wx KN) | (refine ks_store1 KN 21 ?_; clear KN; intro wx KN)) | ((refine gate_new (by rfl) ?_); first | (refine ks_alloc KN 25 (q := 3) #[.int .i64 0, .int .i64 0] ?_; clear KN; intro g3 wx hg3 KN) | (refine ks_boxA KN 72 (q := 14) ?_; clear KN; intro g14 wx hg14 KN) | (refine wpList_built rfl 25 #[] rfl #[.int .i64 0, .int .i64 0] (by kernel_rfl) ?_) | (refine ks_alloc KN 76 (q := 8) #[.string ByteArray.empty, .int .i64 0, .int .i64 0] ?_; clear KN; intro g8 wx hg8 KN))))
                go_roundw
                case rel => exact ⟨_, _, _, _, ⟨_, _, _, _, _, _, _, _, OWo4, OWu4, HOn.out, HOq.out, KN⟩, .inl ⟨HE.out, f - 1, y, HY.out.1, HY.out.2.1, HY.out.2.2.1, rfl, rfl, rfl, HYL.out.symm⟩⟩
                case measure => (have h1 := asrM_eq KN .here d.length; rw [HME.out, h1, if_pos rfl]; have h2 := HY.out.2.2.2; have h3 := HXI.out; show d.length - y.i < d.length - x.i; omega)
              | error q =>
                have HBO := Lib.hid hbo
                have HY : Hid (∀ t, BadP el ec d t q → Spoilt AS t) := Lib.hid (fun t => HERS.out q t (HAI.out.trans hbo))
                clear hbo
                go_wp2_with (first | (go_at_call 32; refine (asr_label KN HOn.out HOq.out (by omega) (by omega) HT.out hdl (by show i2 ≤ 69000; omega) hsz HP).mono ?_; intro e9 wx hp9; obtain ⟨nv3, qv3, nl3, ql3, rfl, OWn3, OWq3, K2⟩ := hp9.no HLB.out; replace KN := K2; clear K2 hp9 HOn HOq; have HOn := Lib.hid OWn3; have HOq := Lib.hid OWq3; clear OWn3 OWq3) | (go_at_call 30; refine (par_ok KN).mono ?_; rw [HT2.out]; rintro e9 wx ⟨rfl, K2⟩; replace KN := K2; clear K2) | (go_at_call 33; refine (asr_instr (x := ⟨i2, x.prog, ls2, x.uses⟩) (KN.perm (List.Perm.cons _ (List.Perm.cons _ List.perm_append_comm))) HOo.out HOu.out HT.out hdl (by show i2 ≤ 69000; omega) hsz HP HVAL.out (by rw [← HNN.out]; exact hnb) HUB.out).mono ?_; intro e9 wx hp9; obtain ⟨ov4, uv4, ol4, ul4, t4, Lo4, Lu4, rfl, hbad4, OWo4, OWu4, K2⟩ := hp9.err HBO.out; replace KN := K2.perm (List.Perm.cons _ (List.Perm.cons _ List.perm_append_comm)); clear K2 hp9) | ((with_reducible refine wpList_gate ?_); first | ((refine gate_load (by rfl) ?_); first | (refine ks_load1 KN 67 Tryd.underlying67 ?_) | (refine ks_loadW KN 25 Tryd.underlying25 ?_) | (refine ks_load1 KN 26 Tryd.underlying26 ?_) | (refine ks_load1 KN 23 Tryd.underlying23 ?_) | (refine ks_load1 KN 69 Tryd.underlying69 ?_) | (refine ks_loadW KN 76 Tryd.underlying76 ?_) | (refine ks_load1 KN 3 Tryd.underlying3 ?_) | (refine ks_load1 KN 9 Tryd.underlying9 ?_) | (refine ks_loadW KN 35 Tryd.underlying35 ?_) | (refine ks_load1 KN 21 Tryd.underlying21 ?_)) | ((refine gate_store (by rfl) ?_); first | (refine ks_storeW KN 25 ?_; clear KN; intro wx KN) | (refine ks_storeA KN 25 ?_; clear KN; intro wx KN) | (refine ks_storeW KN 76 ?_; clear KN; intro wx KN) | (refine ks_storeA KN 76 ?_; clear KN; intro wx KN) | (refine ks_store1 KN 21 ?_; clear KN; intro wx KN)) | ((refine gate_new (by rfl) ?_); first | (refine ks_alloc KN 25 (q := 3) #[.int .i64 0, .int .i64 0] ?_; clear KN; intro g3 wx hg3 KN) | (refine ks_boxA KN 72 (q := 14) ?_; clear KN; intro g14 wx hg14 KN) | (refine wpList_built rfl 25 #[] rfl #[.int .i64 0, .int .i64 0] (by kernel_rfl) ?_) | (refine ks_alloc KN 76 (q := 8) #[.string ByteArray.empty, .int .i64 0, .int .i64 0] ?_; clear KN; intro g8 wx hg8 KN))))
                go_roundw
                case rel => exact ⟨_, _, _, _, ⟨_, _, _, _, _, _, _, _, OWo4, OWu4, HOn.out, HOq.out, KN⟩, .inr (HY.out _ hbad4)⟩
                case measure => (have h1 := asrM_eq KN .here d.length; rw [HME.out, h1, if_neg (HY.out _ hbad4).1]; have h3 := HXI.out; omega)
            | true =>
              have HLB := Lib.hid hlb
              have hi2 : i2 + 1 < d.length := isP_lt (labB_mk.1 hlb).2
              have hf1 : 1 ≤ f2 := by have := HF2.out; omega
              by_cases hrg : 0 ≤ regOf (tk d i2).text
              · have HRG := Lib.hid hrg
                have HSP : Hid (Spoilt AS ⟨i2, posE el ec d i2, 50⟩) := Lib.hid (HERS.out (i2, 50) _ (HIer.out _ (by rw [HRL2.out, HNN.out.symm]; exact ahead_reg hf1 hlb hrg)) ⟨rfl, rfl, by show ¬ (50 : Int) = 0; decide⟩)
                have HT3 : Hid (((⟨i2, posE el ec d i2, 50⟩ : PSt).er == 0) = false) := Lib.hid rfl
                clear hlb hrg
                go_wp2_with (first | (go_at_call 32; refine (asr_label KN HOn.out HOq.out (by omega) (by omega) HT.out hdl (by show i2 ≤ 69000; omega) hsz HP).mono ?_; intro e9 wx hp9; obtain ⟨nv3, qv3, nl3, ql3, rfl, OWn3, OWq3, K2⟩ := hp9.reg HLB.out HRG.out; rw [failP_ok rfl] at K2; replace KN := K2; clear K2 hp9 HOn HOq; have HOn := Lib.hid OWn3; have HOq := Lib.hid OWq3; clear OWn3 OWq3) | (go_at_call 30; refine (par_ok KN).mono ?_; rw [HT3.out]; rintro e9 wx ⟨rfl, K2⟩; replace KN := K2; clear K2) | ((with_reducible refine wpList_gate ?_); first | ((refine gate_load (by rfl) ?_); first | (refine ks_load1 KN 67 Tryd.underlying67 ?_) | (refine ks_loadW KN 25 Tryd.underlying25 ?_) | (refine ks_load1 KN 26 Tryd.underlying26 ?_) | (refine ks_load1 KN 23 Tryd.underlying23 ?_) | (refine ks_load1 KN 69 Tryd.underlying69 ?_) | (refine ks_loadW KN 76 Tryd.underlying76 ?_) | (refine ks_load1 KN 3 Tryd.underlying3 ?_) | (refine ks_load1 KN 9 Tryd.underlying9 ?_) | (refine ks_loadW KN 35 Tryd.underlying35 ?_) | (refine ks_load1 KN 21 Tryd.underlying21 ?_)) | ((refine gate_store (by rfl) ?_); first | (refine ks_storeW KN 25 ?_; clear KN; intro wx KN) | (refine ks_storeA KN 25 ?_; clear KN; intro wx KN) | (refine ks_storeW KN 76 ?_; clear KN; intro wx KN) | (refine ks_storeA KN 76 ?_; clear KN; intro wx KN) | (refine ks_store1 KN 21 ?_; clear KN; intro wx KN)) | ((refine gate_new (by rfl) ?_); first | (refine ks_alloc KN 25 (q := 3) #[.int .i64 0, .int .i64 0] ?_; clear KN; intro g3 wx hg3 KN) | (refine ks_boxA KN 72 (q := 14) ?_; clear KN; intro g14 wx hg14 KN) | (refine wpList_built rfl 25 #[] rfl #[.int .i64 0, .int .i64 0] (by kernel_rfl) ?_) | (refine ks_alloc KN 76 (q := 8) #[.string ByteArray.empty, .int .i64 0, .int .i64 0] ?_; clear KN; intro g8 wx hg8 KN))))
                go_roundw
                case rel => exact ⟨_, _, _, _, ⟨_, _, _, _, _, _, _, _, HOo.out, HOu.out, HOn.out, HOq.out, KN⟩, .inr HSP.out⟩
                case measure => (have h1 := asrM_eq KN .here d.length; rw [HME.out, h1, if_neg HSP.out.1]; have h3 := HXI.out; omega)
              · have HRG := Lib.hid hrg
                by_cases hfi : 0 ≤ findI ls2 (tk d i2).text
                · have HFI := Lib.hid hfi
                  have HSP : Hid (Spoilt AS ⟨i2 + 2, posE el ec d i2, 72⟩) := Lib.hid (HERS.out (i2, 72) _ (HIer.out _ (by rw [HRL2.out, HNN.out.symm]; exact ahead_dup hf1 hlb hrg hfi)) ⟨rfl, rfl, by show ¬ (72 : Int) = 0; decide⟩)
                  clear hlb hrg hfi
                  go_wp2_with (first | (go_at_call 32; refine (asr_label KN HOn.out HOq.out (by omega) (by omega) HT.out hdl (by show i2 ≤ 69000; omega) hsz HP).mono ?_; intro e9 wx hp9; obtain ⟨nv3, qv3, nl3, ql3, rfl, OWn3, OWq3, K2⟩ := hp9.yes HLB.out HRG.out; rw [if_pos HFI.out, failP_ok rfl] at K2; replace KN := K2; clear K2 hp9 HOn HOq; have HOn := Lib.hid OWn3; have HOq := Lib.hid OWq3; clear OWn3 OWq3) | ((with_reducible refine wpList_gate ?_); first | ((refine gate_load (by rfl) ?_); first | (refine ks_load1 KN 67 Tryd.underlying67 ?_) | (refine ks_loadW KN 25 Tryd.underlying25 ?_) | (refine ks_load1 KN 26 Tryd.underlying26 ?_) | (refine ks_load1 KN 23 Tryd.underlying23 ?_) | (refine ks_load1 KN 69 Tryd.underlying69 ?_) | (refine ks_loadW KN 76 Tryd.underlying76 ?_) | (refine ks_load1 KN 3 Tryd.underlying3 ?_) | (refine ks_load1 KN 9 Tryd.underlying9 ?_) | (refine ks_loadW KN 35 Tryd.underlying35 ?_) | (refine ks_load1 KN 21 Tryd.underlying21 ?_)) | ((refine gate_store (by rfl) ?_); first | (refine ks_storeW KN 25 ?_; clear KN; intro wx KN) | (refine ks_storeA KN 25 ?_; clear KN; intro wx KN) | (refine ks_storeW KN 76 ?_; clear KN; intro wx KN) | (refine ks_storeA KN 76 ?_; clear KN; intro wx KN) | (refine ks_store1 KN 21 ?_; clear KN; intro wx KN)) | ((refine gate_new (by rfl) ?_); first | (refine ks_alloc KN 25 (q := 3) #[.int .i64 0, .int .i64 0] ?_; clear KN; intro g3 wx hg3 KN) | (refine ks_boxA KN 72 (q := 14) ?_; clear KN; intro g14 wx hg14 KN) | (refine wpList_built rfl 25 #[] rfl #[.int .i64 0, .int .i64 0] (by kernel_rfl) ?_) | (refine ks_alloc KN 76 (q := 8) #[.string ByteArray.empty, .int .i64 0, .int .i64 0] ?_; clear KN; intro g8 wx hg8 KN))))
                  go_roundw
                  case rel => exact ⟨⟨i2 + 2, posE el ec d i2, 72⟩, _, ⟨_, _, _, _, _, _, _, _, HOo.out, HOu.out, HOn.out, HOq.out, KN⟩, by rw [List.length_append]; show ls2.length + 1 ≤ i2 + 2; omega, by show x.i ≤ i2 + 2; omega, by show i2 + 2 ≤ d.length; omega, .inr HSP.out⟩
                  case measure => (have h1 := (asrM_eq KN .here d.length).trans (if_neg HSP.out.1); have h2 := HM2.out.trans (if_pos (by trivial)); rw [h1, h2]; show 0 < d.length - i2; omega)
                · have HFI := Lib.hid hfi
                  have HNX := Lib.hid (ahead_next (n := x.prog.length) hf1 hlb hrg hfi)
                  clear hlb hrg hfi
                  go_wp2_with (first | (go_at_call 32; refine (asr_label KN HOn.out HOq.out (by omega) (by omega) HT.out hdl (by show i2 ≤ 69000; omega) hsz HP).mono ?_; intro e9 wx hp9; obtain ⟨nv3, qv3, nl3, ql3, rfl, OWn3, OWq3, K2⟩ := hp9.yes HLB.out HRG.out; rw [if_neg HFI.out] at K2; replace KN := K2; clear K2 hp9 HOn HOq; have HOn := Lib.hid OWn3; have HOq := Lib.hid OWq3; clear OWn3 OWq3) | ((with_reducible refine wpList_gate ?_); first | ((refine gate_load (by rfl) ?_); first | (refine ks_load1 KN 67 Tryd.underlying67 ?_) | (refine ks_loadW KN 25 Tryd.underlying25 ?_) | (refine ks_load1 KN 26 Tryd.underlying26 ?_) | (refine ks_load1 KN 23 Tryd.underlying23 ?_) | (refine ks_load1 KN 69 Tryd.underlying69 ?_) | (refine ks_loadW KN 76 Tryd.underlying76 ?_) | (refine ks_load1 KN 3 Tryd.underlying3 ?_) | (refine ks_load1 KN 9 Tryd.underlying9 ?_) | (refine ks_loadW KN 35 Tryd.underlying35 ?_) | (refine ks_load1 KN 21 Tryd.underlying21 ?_)) | ((refine gate_store (by rfl) ?_); first | (refine ks_storeW KN 25 ?_; clear KN; intro wx KN) | (refine ks_storeA KN 25 ?_; clear KN; intro wx KN) | (refine ks_storeW KN 76 ?_; clear KN; intro wx KN) | (refine ks_storeA KN 76 ?_; clear KN; intro wx KN) | (refine ks_store1 KN 21 ?_; clear KN; intro wx KN)) | ((refine gate_new (by rfl) ?_); first | (refine ks_alloc KN 25 (q := 3) #[.int .i64 0, .int .i64 0] ?_; clear KN; intro g3 wx hg3 KN) | (refine ks_boxA KN 72 (q := 14) ?_; clear KN; intro g14 wx hg14 KN) | (refine wpList_built rfl 25 #[] rfl #[.int .i64 0, .int .i64 0] (by kernel_rfl) ?_) | (refine ks_alloc KN 76 (q := 8) #[.string ByteArray.empty, .int .i64 0, .int .i64 0] ?_; clear KN; intro g8 wx hg8 KN))))
                  go_roundw
                  case rel => exact ⟨⟨i2 + 2, (a, b), 0⟩, _, ⟨_, _, _, _, _, _, _, _, HOo.out, HOu.out, HOn.out, HOq.out, KN⟩, by rw [List.length_append]; show ls2.length + 1 ≤ i2 + 2; omega, by show x.i ≤ i2 + 2; omega, by show i2 + 2 ≤ d.length; omega, .inl ⟨rfl, rfl, f2 - 1, by rw [HRL2.out, HNX.out, HNN.out], by have h4 := HF2.out; show d.length ≤ f2 - 1 + (i2 + 2); omega⟩⟩
                  case measure => (have h1 := (asrM_eq KN .here d.length).trans (if_pos rfl); have h2 := HM2.out.trans (if_pos (by trivial)); rw [h1, h2]; show d.length - (i2 + 2) < d.length - i2; omega)
          · have HSP := Lib.hid hsp
            have HT3 : Hid ((s2.er == 0) = false) := Lib.hid (by rw [beq_eq_false_iff_ne]; exact hsp.1)
            have HLB : Hid (labB d s2 = false) := Lib.hid (by unfold labB; rw [kindB_bad hsp.1]; rfl)
            clear hsp
            go_wp2_with (first | (go_at_call 32; refine (asr_label KN HOn.out HOq.out (by omega) (by omega) HT.out hdl (by omega) hsz HP).mono ?_; intro e9 wx hp9; obtain ⟨nv3, qv3, nl3, ql3, rfl, OWn3, OWq3, K2⟩ := hp9.no HLB.out; replace KN := K2; clear K2 hp9 HOn HOq; have HOn := Lib.hid OWn3; have HOq := Lib.hid OWq3; clear OWn3 OWq3) | (go_at_call 30; refine (par_ok KN).mono ?_; rw [HT3.out]; rintro e9 wx ⟨rfl, K2⟩; replace KN := K2; clear K2) | ((with_reducible refine wpList_gate ?_); first | ((refine gate_load (by rfl) ?_); first | (refine ks_load1 KN 67 Tryd.underlying67 ?_) | (refine ks_loadW KN 25 Tryd.underlying25 ?_) | (refine ks_load1 KN 26 Tryd.underlying26 ?_) | (refine ks_load1 KN 23 Tryd.underlying23 ?_) | (refine ks_load1 KN 69 Tryd.underlying69 ?_) | (refine ks_loadW KN 76 Tryd.underlying76 ?_) | (refine ks_load1 KN 3 Tryd.underlying3 ?_) | (refine ks_load1 KN 9 Tryd.underlying9 ?_) | (refine ks_loadW KN 35 Tryd.underlying35 ?_) | (refine ks_load1 KN 21 Tryd.underlying21 ?_)) | ((refine gate_store (by rfl) ?_); first | (refine ks_storeW KN 25 ?_; clear KN; intro wx KN) | (refine ks_storeA KN 25 ?_; clear KN; intro wx KN) | (refine ks_storeW KN 76 ?_; clear KN; intro wx KN) | (refine ks_storeA KN 76 ?_; clear KN; intro wx KN) | (refine ks_store1 KN 21 ?_; clear KN; intro wx KN)) | ((refine gate_new (by rfl) ?_); first | (refine ks_alloc KN 25 (q := 3) #[.int .i64 0, .int .i64 0] ?_; clear KN; intro g3 wx hg3 KN) | (refine ks_boxA KN 72 (q := 14) ?_; clear KN; intro g14 wx hg14 KN) | (refine wpList_built rfl 25 #[] rfl #[.int .i64 0, .int .i64 0] (by kernel_rfl) ?_) | (refine ks_alloc KN 76 (q := 8) #[.string ByteArray.empty, .int .i64 0, .int .i64 0] ?_; clear KN; intro g8 wx hg8 KN))))
            go_roundw
            case rel => exact ⟨_, _, _, _, ⟨_, _, _, _, _, _, _, _, HOo.out, HOu.out, HOn.out, HOq.out, KN⟩, .inr HSP.out⟩
            case measure => (have h1 := asrM_eq KN .here d.length; rw [HME.out, h1, if_neg HSP.out.1]; have h3 := HXI.out; omega)
      · have HDN : Hid (decide (d.length ≤ (⟨x.i, (a, b), 0⟩ : PSt).i) = true) := Lib.hid (decide_eq_true (by show d.length ≤ x.i; omega))
        have HRX : Hid (r0 = .ok x) := Lib.hid (by
          rw [HRF.out]
          cases f with
          | zero => rw [aAll]
          | succ f => rw [aAll, if_neg hx])
        have HOKX := Lib.hid (HOKK.out HE.out x HRX.out)
        by_cases hpz : x.prog = []
        · have HA := Lib.hid (HOKX.out.1 hpz)
          obtain ⟨oa, oc, hov⟩ := HOo.out.form
          rw [show (insRows x.prog).length = 0 from by rw [hpz]; rfl] at hov
          subst hov
          clear hpz hx
          go_upto_region 10 with (first | (go_at_call 30; refine (par_ok KN).mono ?_; rw [HT0.out]; rintro e9 wx ⟨rfl, K2⟩; replace KN := K2; clear K2) | (go_at_call 31; refine (par_done KN HT.out HDL.out).mono ?_; rw [HDN.out]; rintro e9 wx ⟨rfl, K2⟩; replace KN := K2; clear K2) | ((with_reducible refine wpList_gate ?_); first | ((refine gate_load (by rfl) ?_); first | (refine ks_load1 KN 67 Tryd.underlying67 ?_) | (refine ks_loadW KN 25 Tryd.underlying25 ?_) | (refine ks_load1 KN 26 Tryd.underlying26 ?_) | (refine ks_load1 KN 23 Tryd.underlying23 ?_) | (refine ks_load1 KN 69 Tryd.underlying69 ?_) | (refine ks_loadW KN 76 Tryd.underlying76 ?_) | (refine ks_load1 KN 3 Tryd.underlying3 ?_) | (refine ks_load1 KN 9 Tryd.underlying9 ?_) | (refine ks_loadW KN 35 Tryd.underlying35 ?_) | (refine ks_load1 KN 21 Tryd.underlying21 ?_)) | ((refine gate_store (by rfl) ?_); first | (refine ks_storeW KN 25 ?_; clear KN; intro wx KN) | (refine ks_storeA KN 25 ?_; clear KN; intro wx KN) | (refine ks_storeW KN 76 ?_; clear KN; intro wx KN) | (refine ks_storeA KN 76 ?_; clear KN; intro wx KN) | (refine ks_store1 KN 21 ?_; clear KN; intro wx KN)) | ((refine gate_new (by rfl) ?_); first | (refine ks_alloc KN 25 (q := 3) #[.int .i64 0, .int .i64 0] ?_; clear KN; intro g3 wx hg3 KN) | (refine ks_boxA KN 72 (q := 14) ?_; clear KN; intro g14 wx hg14 KN) | (refine wpList_built rfl 25 #[] rfl #[.int .i64 0, .int .i64 0] (by kernel_rfl) ?_) | (refine ks_alloc KN 76 (q := 8) #[.string ByteArray.empty, .int .i64 0, .int .i64 0] ?_; clear KN; intro g8 wx hg8 KN))))
          replace KN := Kn.base K0.out KN
          go_wp2_with (first | ((with_reducible refine wpList_gate ?_); first | ((refine gate_load (by rfl) ?_); first | (refine ks_load1 KN 67 Tryd.underlying67 ?_) | (refine ks_loadW KN 25 Tryd.underlying25 ?_) | (refine ks_load1 KN 26 Tryd.underlying26 ?_) | (refine ks_load1 KN 23 Tryd.underlying23 ?_) | (refine ks_load1 KN 69 Tryd.underlying69 ?_) | (refine ks_loadW KN 76 Tryd.underlying76 ?_) | (refine ks_load1 KN 3 Tryd.underlying3 ?_) | (refine ks_load1 KN 9 Tryd.underlying9 ?_) | (refine ks_loadW KN 35 Tryd.underlying35 ?_) | (refine ks_load1 KN 21 Tryd.underlying21 ?_)) | ((refine gate_store (by rfl) ?_); first | (refine ks_storeW KN 25 ?_; clear KN; intro wx KN) | (refine ks_storeA KN 25 ?_; clear KN; intro wx KN) | (refine ks_storeW KN 76 ?_; clear KN; intro wx KN) | (refine ks_storeA KN 76 ?_; clear KN; intro wx KN) | (refine ks_store1 KN 21 ?_; clear KN; intro wx KN)) | ((refine gate_new (by rfl) ?_); first | (refine wpList_built rfl 25 _ rfl #[.int .i64 0, .int .i64 0] (by kernel_rfl) ?_) | (refine ks_alloc KN 25 (q := 3) #[.int .i64 0, .int .i64 0] ?_; clear KN; intro g3 wx hg3 KN) | (refine ks_boxA KN 72 (q := 14) ?_; clear KN; intro g14 wx hg14 KN) | (refine wpList_built rfl 25 #[] rfl #[.int .i64 0, .int .i64 0] (by kernel_rfl) ?_) | (refine ks_alloc KN 76 (q := 8) #[.string ByteArray.empty, .int .i64 0, .int .i64 0] ?_; clear KN; intro g8 wx hg8 KN))))
          refine bodyPost_ret (results_tct rfl _ _ g3 #[.int .i64 0, .int .i64 0] (.int .i64 15) (.slice none 0 0) rfl rfl (run_loadVar_row _ g3 _ _ _ (0, 0) _ (KN.at_ (by repeat (first | exact Has.here | refine Has.there ?_))) Tryd.underlying25 rfl (by kernel_rfl)) rfl) rfl ?_
          exact HOUT.out _ _ ⟨.slice none 0 0, [], by rw [HA.out], by rw [HA.out]; exact .nil, KN.frame0⟩
        · have HA2 := Lib.hid (HOKX.out.2 hpz)
          have hplen : 1 ≤ x.prog.length := by
            cases hq : x.prog with
            | nil => exact absurd hq hpz
            | cons _ _ => simp
          obtain ⟨go, co, hov, ho1, ho2, rfl⟩ := HOo.out.pos (by rw [List.length_map]; exact hplen)
          rw [List.length_map] at hov ho1
          subst hov
          have HINV := Lib.hid (AsrInv.all HVAL.out (HTL.out HSZ1.out) _ _ x (AsmOk.start d) (AsrInv.start d) (HR0.out.symm.trans HRX.out))
          obtain ⟨n, hn⟩ : ∃ n, n = x.prog.length := ⟨_, rfl⟩
          obtain ⟨nu, hnu⟩ : ∃ nu, nu = x.uses.length := ⟨_, rfl⟩
          obtain ⟨ua, uc, huv⟩ := HOu.out.form
          rw [show (useRows x.uses).length = nu from by rw [hnu]; exact List.length_map ..] at huv
          subst huv
          obtain ⟨r1, hr1⟩ : ∃ r1, r1 = aResolve x := ⟨_, rfl⟩
          have HR1 : Hid (r1 = aFix x.labels n x.uses x.prog) := Lib.hid (by rw [hr1, hn]; rfl)
          have HRE := Lib.hid hr1
          have hnb : n ≤ 4096 := by rw [hn]; exact HOK.out.prog
          have hub : nu ≤ 65000 := by have h1 := HOK.out.uses; have h2 := HOK.out.prog; omega
          have HNN := Lib.hid hn
          have HNU := Lib.hid hnu
          have hdl := HDL.out
          have hsz := HSZ1.out
          rw [← hn] at KN hplen ho1
          have hn0 : ((n : Int) == 0) = false := beq_eq_false_iff_ne.2 (by omega)
          have HON := HOn
          have HOQ := HOq
          clear hpz hx hr1 hn hnu HOo
          replace KN : Kn [] w1 wr ((gp, At (parC (.string s) tv ⟨x.i, (a, b), 0⟩) 74) :: (g14, At (ascC gp (.slice (some ⟨go, 0, none⟩) n co) (.slice ua nu uc) nv qv) 72) :: (go, CapAt 35 5 co (insRows x.prog)) :: (ul ++ (ql ++ nl))) := KN.perm (((List.perm_append_comm (l₁ := ul) (l₂ := [_])).append_right _).cons _ |>.cons _)
          go_wp2_with (first | (go_at_call 30; refine (par_ok KN).mono ?_; rw [HT0.out]; rintro e9 wx ⟨rfl, K2⟩; replace KN := K2; clear K2) | (go_at_call 31; refine (par_done KN HT.out HDL.out).mono ?_; rw [HDN.out]; rintro e9 wx ⟨rfl, K2⟩; replace KN := K2; clear K2) | ((with_reducible refine wpList_gate ?_); first | ((refine gate_load (by rfl) ?_); first | (refine ks_load1 KN 67 Tryd.underlying67 ?_) | (refine ks_loadW KN 25 Tryd.underlying25 ?_) | (refine ks_load1 KN 26 Tryd.underlying26 ?_) | (refine ks_load1 KN 23 Tryd.underlying23 ?_) | (refine ks_load1 KN 69 Tryd.underlying69 ?_) | (refine ks_loadW KN 76 Tryd.underlying76 ?_) | (refine ks_load1 KN 3 Tryd.underlying3 ?_) | (refine ks_load1 KN 9 Tryd.underlying9 ?_) | (refine ks_loadW KN 35 Tryd.underlying35 ?_) | (refine ks_load1 KN 21 Tryd.underlying21 ?_)) | ((refine gate_store (by rfl) ?_); first | (refine ks_storeW KN 25 ?_; clear KN; intro wx KN) | (refine ks_storeA KN 25 ?_; clear KN; intro wx KN) | (refine ks_storeW KN 76 ?_; clear KN; intro wx KN) | (refine ks_storeA KN 76 ?_; clear KN; intro wx KN) | (refine ks_store1 KN 21 ?_; clear KN; intro wx KN)) | ((refine gate_new (by rfl) ?_); first | (refine ks_alloc KN 25 (q := 3) #[.int .i64 0, .int .i64 0] ?_; clear KN; intro g3 wx hg3 KN) | (refine ks_boxA KN 72 (q := 14) ?_; clear KN; intro g14 wx hg14 KN) | (refine wpList_built rfl 25 #[] rfl #[.int .i64 0, .int .i64 0] (by kernel_rfl) ?_) | (refine ks_alloc KN 76 (q := 8) #[.string ByteArray.empty, .int .i64 0, .int .i64 0] ?_; clear KN; intro g8 wx hg8 KN))))
          go_loopw [7, 8, 9, 10] (fun s7 _ _ _ wr => ResoRel w1 gp g14 go co n nu x.i (.string s) tv (.slice ua nu uc) nv qv ul nl ql (a, b) x.uses x.labels (x.prog.map (·.op)) r1 AS s7 wr) (fun s7 _ _ _ _ => nu - (intOf s7).toNat)
          case atStart => exact ⟨0, _, x.prog, rfl, Nat.zero_le _, HNN.out.symm, HOK.out.imm, rfl, KN, .inl ⟨rfl, HR1.out⟩⟩
          case round =>
            clear KN
            obtain ⟨k, s2, p, rfl, hk, hpn, hpi, hpo, KN, hcase⟩ := hrel
            by_cases hlt : k < nu
            · by_cases h0 : s2.er = 0
              · have hs2 : s2 = ⟨x.i, (a, b), 0⟩ ∧ r1 = aFix x.labels n (x.uses.drop k) p := by
                  rcases hcase with h | h
                  · exact h
                  · exact absurd h0 h.1
                obtain ⟨rfl, hrk⟩ := hs2
                have HT1 : Hid (((⟨x.i, (a, b), 0⟩ : PSt).er == 0) = true) := Lib.hid rfl
                obtain ⟨u, hu⟩ : ∃ u, x.uses[k]? = some u := ⟨_, List.getElem?_eq_getElem (by rw [← HNU.out]; exact hlt)⟩
                obtain ⟨gu, cu, huv, hu1, hu2, rfl⟩ := HOu.out.pos (by rw [show (useRows x.uses).length = nu from by rw [HNU.out]; exact List.length_map ..]; omega)
                rw [show (useRows x.uses).length = nu from by rw [HNU.out]; exact List.length_map ..] at huv
                simp only [Value.slice.injEq, true_and] at huv
                obtain ⟨rfl, rfl⟩ := huv
                have hi : (useRows x.uses)[k]? = some (useC u.instr (u.label, u.at_)) := by unfold useRows; rw [List.getElem?_map, hu]; rfl
                have hmu : u ∈ x.uses := List.mem_of_getElem? hu
                have hui : u.instr < n := by rw [HNN.out]; exact HOK.out.ins u hmu
                have hua : u.at_ < d.length := HINV.out.pos u hmu
                have hdr : x.uses.drop k = u :: x.uses.drop (k + 1) := drop_of_get hu
                rw [hdr] at hrk
                obtain ⟨rest, hrest⟩ : ∃ rest, rest = x.uses.drop (k + 1) := ⟨_, rfl⟩
                rw [← hrest] at hrk
                have HRK := Lib.hid hrk
                have HREST := Lib.hid hrest
                obtain ⟨y, hy⟩ : ∃ y, p[u.instr]? = some y := ⟨_, List.getElem?_eq_getElem (by rw [hpn]; exact hui)⟩
                have hxi : (insRows p)[u.instr]? = some y.cells.toList := by rw [List.getElem?_map, hy]; rfl
                have HY := Lib.hid hy
                have HXI := Lib.hid hxi
                have HMU := Lib.hid hmu
                have HPN := Lib.hid hpn
                have HPI := Lib.hid hpi
                have HPO := Lib.hid hpo
                simp only [List.cons_append, List.nil_append] at KN
                have hlr := useRows_len x.uses
                clear hcase h0 hpn hpi hpo hrk hrest hu hmu hdr hy hxi hu1 hu2
                have HI := Lib.hid hi
                have HLR := Lib.hid hlr
                clear hi hlr
                go_upto_region 14 with (first | (go_at_call 30; refine (par_ok KN).mono ?_; rw [HT1.out]; rintro e9 wx ⟨rfl, K2⟩; replace KN := K2; clear K2) | ((with_reducible refine wpList_gate ?_); first | ((refine gate_load (by rfl) ?_); first | (refine ks_load1 KN 67 Tryd.underlying67 ?_) | (refine ks_loadW KN 25 Tryd.underlying25 ?_) | (refine ks_load1 KN 26 Tryd.underlying26 ?_) | (refine ks_load1 KN 23 Tryd.underlying23 ?_) | (refine ks_load1 KN 69 Tryd.underlying69 ?_) | (refine ks_loadW KN 76 Tryd.underlying76 ?_) | (refine ks_load1 KN 3 Tryd.underlying3 ?_) | (refine ks_load1 KN 9 Tryd.underlying9 ?_) | (refine ks_loadW KN 35 Tryd.underlying35 ?_) | (refine ks_load1 KN 21 Tryd.underlying21 ?_)) | ((refine gate_store (by rfl) ?_); first | (refine ks_storeW KN 25 ?_; clear KN; intro wx KN) | (refine ks_storeA KN 25 ?_; clear KN; intro wx KN) | (refine ks_storeW KN 76 ?_; clear KN; intro wx KN) | (refine ks_storeA KN 76 ?_; clear KN; intro wx KN) | (refine ks_store1 KN 21 ?_; clear KN; intro wx KN)) | ((refine gate_new (by rfl) ?_); first | (refine ks_alloc KN 25 (q := 3) #[.int .i64 0, .int .i64 0] ?_; clear KN; intro g3 wx hg3 KN) | (refine ks_boxA KN 72 (q := 14) ?_; clear KN; intro g14 wx hg14 KN) | (refine wpList_built rfl 25 #[] rfl #[.int .i64 0, .int .i64 0] (by kernel_rfl) ?_) | (refine ks_alloc KN 76 (q := 8) #[.string ByteArray.empty, .int .i64 0, .int .i64 0] ?_; clear KN; intro g8 wx hg8 KN))))
                have x0 := (KN.elem (g := gu) (by repeat (first | exact Has.here | refine Has.there ?_)) HLR.out HI.out (j := 0) rfl).trans (show some _ = some (Value.string (str u.label)) from rfl)
                have x1 := (KN.elem (g := gu) (by repeat (first | exact Has.here | refine Has.there ?_)) HLR.out HI.out (j := 1) rfl).trans (show some _ = some (Value.int .i64 (u.instr : Int)) from rfl)
                have x2 := (KN.elem (g := gu) (by repeat (first | exact Has.here | refine Has.there ?_)) HLR.out HI.out (j := 2) rfl).trans (show some _ = some (Value.int .i64 (u.at_ : Int)) from rfl)
                rw [Nat.add_zero] at x0
                go_upto_region 15 with (first | ((with_reducible refine wpList_gate ?_); first | ((refine gate_load (by rfl) ?_); first | (refine ks_load1 KN 67 Tryd.underlying67 ?_) | (refine ks_loadW KN 25 Tryd.underlying25 ?_) | (refine ks_load1 KN 26 Tryd.underlying26 ?_) | (refine ks_load1 KN 23 Tryd.underlying23 ?_) | (refine ks_load1 KN 69 Tryd.underlying69 ?_) | (refine ks_loadW KN 76 Tryd.underlying76 ?_) | (refine ks_load1 KN 3 Tryd.underlying3 ?_) | (refine ks_load1 KN 9 Tryd.underlying9 ?_) | (refine ks_loadW KN 35 Tryd.underlying35 ?_) | (refine ks_load1 KN 21 Tryd.underlying21 ?_)) | ((refine gate_store (by rfl) ?_); first | (refine ks_storeW KN 25 ?_; clear KN; intro wx KN) | (refine ks_storeA KN 25 ?_; clear KN; intro wx KN) | (refine ks_storeW KN 76 ?_; clear KN; intro wx KN) | (refine ks_storeA KN 76 ?_; clear KN; intro wx KN) | (refine ks_store1 KN 21 ?_; clear KN; intro wx KN)) | ((refine gate_new (by rfl) ?_); first | (refine ks_alloc KN 25 (q := 3) #[.int .i64 0, .int .i64 0] ?_; clear KN; intro g3 wx hg3 KN) | (refine ks_boxA KN 72 (q := 14) ?_; clear KN; intro g14 wx hg14 KN) | (refine wpList_built rfl 25 #[] rfl #[.int .i64 0, .int .i64 0] (by kernel_rfl) ?_) | (refine ks_alloc KN 76 (q := 8) #[.string ByteArray.empty, .int .i64 0, .int .i64 0] ?_; clear KN; intro g8 wx hg8 KN))))
                clear x0 x1 x2
                have c1 := KN.cell (g := g14) (o := 1) (by repeat (first | exact Has.here | refine Has.there ?_)) rfl
                have c81 := KN.cell (g := g8) (o := 1) (by repeat (first | exact Has.here | refine Has.there ?_)) rfl
                go_quiet (fail)
                rename_i nq
                replace KN := KN.drewN nq
                clear c1 c81
                generalize wx.drewN nq = wy at KN ⊢
                obtain ⟨sv, hsv⟩ : ∃ sv, sv = str u.label := ⟨_, rfl⟩
                have HSV := Lib.hid hsv
                replace KN := KN.as_ g8 #[.string sv, .int .i64 (u.instr : Int), .int .i64 (u.at_ : Int)] (by repeat (first | exact Repl.here | apply Repl.there)) (by rw [hsv])
                by_cases hmiss : ¬ u.label = [] ∧ labelAt x.labels u.label = none
                · obtain ⟨hl, hla⟩ := hmiss
                  have hq : sv.toList.isEmpty = false := by rw [hsv, Lib.toList_data, data_str]; cases hu : u.label with
                    | nil => exact absurd hu hl
                    | cons a b => rfl
                  have HFI : Hid (findI x.labels u.label = -1) := Lib.hid (by unfold findI; rw [hla])
                  have HSP : Hid (Spoilt AS ⟨x.i, posE el ec d u.at_, 72⟩) := Lib.hid ⟨by show ¬ (72 : Int) = 0; decide, HA2.out.1 (u.at_, 72) (by rw [← HRE.out, HRK.out]; exact aFix_3 hl hla)⟩
                  have HT2 : Hid (((⟨x.i, posE el ec d u.at_, 72⟩ : PSt).er == 0) = false) := Lib.hid rfl
                  clear hsv hla hl
                  go_upto_region 24 with (first | (go_at_call 34; rw [HSV.out]; have hr1 := HOn.out.row (f := fun o => _ :: _ :: _ :: _ :: _ :: (ql ++ o)) KN (TailF.cons _ (TailF.cons _ (TailF.cons _ (TailF.cons _ (TailF.cons _ (TailF.app TailF.id ql)))))); have hr2 := HOq.out.row (f := fun o => _ :: _ :: _ :: _ :: _ :: (nl ++ o)) (KN.perm ((((((List.perm_append_comm).cons _).cons _).cons _).cons _).cons _)) (TailF.cons _ (TailF.cons _ (TailF.cons _ (TailF.cons _ (TailF.cons _ (TailF.app TailF.id nl)))))); refine (asr_find (KN.perm ((List.Perm.cons _ (List.Perm.swap _ _ _)).trans (List.Perm.swap _ _ _))) hr1 hr2).mono ?_; rw [HFI.out]; rintro e9 wx ⟨rfl, hb⟩; replace KN := KN.below hb; clear hb hr1 hr2) | (go_at_call 35; refine (par_fail (KN.perm (List.Perm.swap _ _ _)) HT.out hdl hsz HP u.at_ (by omega) 72).mono ?_; rw [failP_ok rfl]; rintro e9 wx ⟨rfl, K2⟩; replace KN := K2; clear K2) | (go_at_call 30; refine (par_ok KN).mono ?_; rw [HT2.out]; rintro e9 wx ⟨rfl, K2⟩; replace KN := K2; clear K2) | ((with_reducible refine wpList_gate ?_); first | ((refine gate_load (by rfl) ?_); first | (refine ks_load1 KN 67 Tryd.underlying67 ?_) | (refine ks_loadW KN 25 Tryd.underlying25 ?_) | (refine ks_load1 KN 26 Tryd.underlying26 ?_) | (refine ks_load1 KN 23 Tryd.underlying23 ?_) | (refine ks_load1 KN 69 Tryd.underlying69 ?_) | (refine ks_loadW KN 76 Tryd.underlying76 ?_) | (refine ks_load1 KN 3 Tryd.underlying3 ?_) | (refine ks_load1 KN 9 Tryd.underlying9 ?_) | (refine ks_loadW KN 35 Tryd.underlying35 ?_) | (refine ks_load1 KN 21 Tryd.underlying21 ?_)) | ((refine gate_store (by rfl) ?_); first | (refine ks_storeW KN 25 ?_; clear KN; intro wx KN) | (refine ks_storeA KN 25 ?_; clear KN; intro wx KN) | (refine ks_storeW KN 76 ?_; clear KN; intro wx KN) | (refine ks_storeA KN 76 ?_; clear KN; intro wx KN) | (refine ks_store1 KN 21 ?_; clear KN; intro wx KN)) | ((refine gate_new (by rfl) ?_); first | (refine ks_alloc KN 25 (q := 3) #[.int .i64 0, .int .i64 0] ?_; clear KN; intro g3 wx hg3 KN) | (refine ks_boxA KN 72 (q := 14) ?_; clear KN; intro g14 wx hg14 KN) | (refine wpList_built rfl 25 #[] rfl #[.int .i64 0, .int .i64 0] (by kernel_rfl) ?_) | (refine ks_alloc KN 76 (q := 8) #[.string ByteArray.empty, .int .i64 0, .int .i64 0] ?_; clear KN; intro g8 wx hg8 KN))))
                  (try go_frame)
                  replace KN := Kn.base K0.out (KN.perm (List.Perm.cons _ (List.Perm.swap _ _ _)))
                  replace KN := KN.drew
                  refine wp_region_held_drew (S := (fun w' => BlkT w' gp (parC (.string s) tv ⟨x.i, posE el ec d u.at_, 72⟩) 74)) (by kernel_rfl) ?qhhS (fun hHeld => ?qhrest)
                  case qhhS => exact KN.at_ (by repeat (first | exact Has.here | refine Has.there ?_))
                  refine wpAnyH_take (i := 0) (oi := ⟨some 119, _, _, _, _, _⟩) (v := ?qhv0) rfl (by kernel_rfl) (by kernel_rfl) (by kernel_rfl) (fun _ _ _ h => h) (Or.inl ⟨by rfl, ?qhhy0⟩) hHeld ?qhr0
                  case qhhy0 => (intro w hSw; (try dsimp only at hSw); go_simp; (try with_reducible rfl))
                  (try simp only [Act.put, List.setIfInBounds_toArray, List.set_cons_zero, List.set_cons_succ])
                  refine wpAnyH_take (i := 1) (oi := ⟨some 120, _, _, _, _, _⟩) (v := ?qhv1) rfl (by kernel_rfl) (by kernel_rfl) (by kernel_rfl) (fun _ _ _ h => h) (Or.inl ⟨by rfl, ?qhhy1⟩) hHeld ?qhr1
                  case qhhy1 => (intro w hSw; (try dsimp only at hSw); go_simp; (try with_reducible rfl))
                  (try simp only [Act.put, List.setIfInBounds_toArray, List.set_cons_zero, List.set_cons_succ])
                  refine wpAnyH_take (i := 2) (oi := ⟨some 121, _, _, _, _, _⟩) (v := ?qhv2) rfl (by kernel_rfl) (by kernel_rfl) (by kernel_rfl) (fun _ _ _ h => h) (Or.inl ⟨by rfl, ?qhhy2⟩) hHeld ?qhr2
                  case qhhy2 => (intro w hSw; (try dsimp only at hSw); go_simp; (try with_reducible rfl))
                  (try simp only [Act.put, List.setIfInBounds_toArray, List.set_cons_zero, List.set_cons_succ])
                  refine wpAnyH_take (i := 3) (oi := ⟨some 122, _, _, _, _, _⟩) (v := (.agg #[.int .i64 (posE el ec d u.at_).1, .int .i64 (posE el ec d u.at_).2])) rfl (by kernel_rfl) (by kernel_rfl) (by kernel_rfl) (fun _ _ _ h => h) (kn_yieldsN (by rfl) 25 _ rfl gp 3 rfl _ 74 (fun _ h => h) #[.int .i64 (posE el ec d u.at_).1, .int .i64 (posE el ec d u.at_).2] rfl _ Tryd.underlying25 rfl (by kernel_rfl)) hHeld ?qhr3
                  (try simp only [Act.put, List.setIfInBounds_toArray, List.set_cons_zero, List.set_cons_succ])
                  refine wpAnyH_take (i := 4) (oi := ⟨some 123, _, _, _, _, _⟩) (v := ?qhv4) rfl (by kernel_rfl) (by kernel_rfl) (by kernel_rfl) (fun _ _ _ h => h) (Or.inl ⟨by rfl, ?qhhy4⟩) hHeld ?qhr4
                  case qhhy4 => (intro w hSw; (try dsimp only at hSw); go_simp; (try with_reducible rfl))
                  (try simp only [Act.put, List.setIfInBounds_toArray, List.set_cons_zero, List.set_cons_succ])
                  refine wpAnyH_take (i := 5) (oi := ⟨some 124, _, _, _, _, _⟩) (v := ?qhv5) rfl (by kernel_rfl) (by kernel_rfl) (by kernel_rfl) (fun _ _ _ h => h) (Or.inl ⟨by rfl, ?qhhy5⟩) hHeld ?qhr5
                  case qhhy5 => (intro w hSw; (try dsimp only at hSw); go_simp; (try with_reducible rfl))
                  (try simp only [Act.put, List.setIfInBounds_toArray, List.set_cons_zero, List.set_cons_succ])
                  refine wpAnyH_take (i := 6) (oi := ⟨some 125, _, _, _, _, _⟩) (v := ?qhv6) rfl (by kernel_rfl) (by kernel_rfl) (by kernel_rfl) (fun _ _ _ h => h) (Or.inl ⟨by rfl, ?qhhy6⟩) hHeld ?qhr6
                  case qhhy6 => (intro w hSw; (try dsimp only at hSw); go_simp; (try with_reducible rfl))
                  (try simp only [Act.put, List.setIfInBounds_toArray, List.set_cons_zero, List.set_cons_succ])
                  refine wpAnyH_take (i := 7) (oi := ⟨some 126, _, _, _, _, _⟩) (v := (.int .i64 72)) rfl (by kernel_rfl) (by kernel_rfl) (by kernel_rfl) (fun _ _ _ h => h) (kn_yields1 (by rfl) 26 _ rfl gp 5 rfl _ 74 (fun _ h => h) _ rfl _ Tryd.underlying26 rfl) hHeld ?qhr7
                  (try simp only [Act.put, List.setIfInBounds_toArray, List.set_cons_zero, List.set_cons_succ])
                  refine wpAnyH_take (i := 8) (oi := ⟨some 2, _, _, _, _, _⟩) (v := ?qhv8) rfl (by kernel_rfl) (by kernel_rfl) (by kernel_rfl) (fun _ _ _ h => h) (Or.inl ⟨by rfl, ?qhhy8⟩) hHeld ?qhr8
                  case qhhy8 => (intro w hSw; (try dsimp only at hSw); go_simp; (try with_reducible rfl))
                  (try simp only [Act.put, List.setIfInBounds_toArray, List.set_cons_zero, List.set_cons_succ])
                  refine wpAnyH_ready (rs := [9]) (by kernel_rfl) (by simp) ?qhc9
                  refine AllReadyH.cons (o := ⟨none, _, _, _, _, _⟩) rfl (fun K hK => ?qhst9) AllReadyH.nil
                  (rw [if_pos (by rfl)]; refine wp_kn_storeW KN 25 _ _ rfl _ rfl #[.int .i64 (posE el ec d u.at_).1, .int .i64 (posE el ec d u.at_).2] rfl _ _ (by repeat (first | exact Repl.here | apply Repl.there)) (by kernel_rfl) (by kernel_rfl) (by kernel_rfl) ?_; clear KN; intro wx KN)
                  refine hK.out _ _ ?qhk9 (fun hHeld2 => ?qhm9)
                  case qhk9 => exact KN.at_ (by repeat (first | exact Has.here | refine Has.there ?_))
                  clear hK K hHeld
                  have hHeld := hHeld2; clear hHeld2
                  (try simp only [Act.put, List.setIfInBounds_toArray, List.set_cons_zero, List.set_cons_succ])
                  refine wpAnyH_take (i := 10) (oi := ⟨some 4, _, _, _, _, _⟩) (v := ?qhv10) rfl (by kernel_rfl) (by kernel_rfl) (by kernel_rfl) (fun _ _ _ h => h) (Or.inl ⟨by rfl, ?qhhy10⟩) hHeld ?qhr10
                  case qhhy10 => (intro w hSw; (try dsimp only at hSw); go_simp; (try with_reducible rfl))
                  (try simp only [Act.put, List.setIfInBounds_toArray, List.set_cons_zero, List.set_cons_succ])
                  refine wpAnyH_done (by kernel_rfl) ?qhdone _
                  go_wp2_with fail
                  refine bodyPost_ret (results_tct rfl _ _ g3 #[.int .i64 (posE el ec d u.at_).1, .int .i64 (posE el ec d u.at_).2] (.int .i64 72) (.slice none 0 0) rfl rfl (run_loadVar_row _ g3 _ _ _ (0, 0) _ (KN.at_ (by repeat (first | exact Has.here | refine Has.there ?_))) Tryd.underlying25 rfl (by kernel_rfl)) rfl) rfl ?_
                  exact HOUT.out _ _ ⟨.slice none 0 0, [], by rw [HSP.out.2], by rw [HSP.out.2]; exact .nil, KN.frame0⟩
                · have hlab : u.label = [] ∨ ∃ kv, ¬ u.label = [] ∧ labelAt x.labels u.label = some kv := by
                    by_cases hl : u.label = []
                    · exact .inl hl
                    · cases hla : labelAt x.labels u.label with
                      | none => exact absurd ⟨hl, hla⟩ hmiss
                      | some kv => exact .inr ⟨kv, hl, rfl⟩
                  have HLAB := Lib.hid hlab
                  clear hlab hmiss hsv
                  go_upto_if 79 with (first | ((with_reducible refine wpList_gate ?_); first | ((refine gate_load (by rfl) ?_); first | (refine ks_load1 KN 67 Tryd.underlying67 ?_) | (refine ks_loadW KN 25 Tryd.underlying25 ?_) | (refine ks_load1 KN 26 Tryd.underlying26 ?_) | (refine ks_load1 KN 23 Tryd.underlying23 ?_) | (refine ks_load1 KN 69 Tryd.underlying69 ?_) | (refine ks_loadW KN 76 Tryd.underlying76 ?_) | (refine ks_load1 KN 3 Tryd.underlying3 ?_) | (refine ks_load1 KN 9 Tryd.underlying9 ?_) | (refine ks_loadW KN 35 Tryd.underlying35 ?_) | (refine ks_load1 KN 21 Tryd.underlying21 ?_)) | ((refine gate_store (by rfl) ?_); first | (refine ks_storeW KN 25 ?_; clear KN; intro wx KN) | (refine ks_storeA KN 25 ?_; clear KN; intro wx KN) | (refine ks_storeW KN 76 ?_; clear KN; intro wx KN) | (refine ks_storeA KN 76 ?_; clear KN; intro wx KN) | (refine ks_store1 KN 21 ?_; clear KN; intro wx KN)) | ((refine gate_new (by rfl) ?_); first | (refine ks_alloc KN 25 (q := 3) #[.int .i64 0, .int .i64 0] ?_; clear KN; intro g3 wx hg3 KN) | (refine ks_boxA KN 72 (q := 14) ?_; clear KN; intro g14 wx hg14 KN) | (refine wpList_built rfl 25 #[] rfl #[.int .i64 0, .int .i64 0] (by kernel_rfl) ?_) | (refine ks_alloc KN 76 (q := 8) #[.string ByteArray.empty, .int .i64 0, .int .i64 0] ?_; clear KN; intro g8 wx hg8 KN))))
                  (try go_frame)
                  go_cut [79, 10] (fun _ _ wz => ∃ (p' : List Ins) (x' : Ins), p'.length = n ∧ ImmOk p' ∧ p'.map (·.op) = x.prog.map (·.op) ∧ p'[u.instr]? = some x' ∧ aFix x.labels n (u :: rest) p = (if u.target = true ∧ (n : Int) ≤ x'.imm then .error (u.at_, 71) else aFix x.labels n rest p') ∧ Kn [] w1 wz ((g8, At #[.string sv, .int .i64 (u.instr : Int), .int .i64 (u.at_ : Int)] 76) :: (gp, At (parC (.string s) tv ⟨x.i, (a, b), 0⟩) 74) :: (g14, At (ascC gp (.slice (some ⟨go, 0, none⟩) n co) (.slice (some ⟨gu, 0, none⟩) nu uc) nv qv) 72) :: (go, CapAt 35 5 co (insRows p')) :: (gu, CapAt 76 3 uc (useRows x.uses)) :: (ql ++ nl)))
                  case first =>
                    rcases HLAB.out with hl | ⟨kv, hl, hla⟩
                    · have hq : sv.toList.isEmpty = true := by rw [HSV.out, Lib.toList_data, data_str, hl]; rfl
                      have hq2 : (!sv.toList.isEmpty) = false := by rw [hq]; rfl
                      rw [hq2]
                      have HLL := Lib.hid hl
                      clear hl
                      go_wp2_with (first | ((with_reducible refine wpList_gate ?_); first | ((refine gate_load (by rfl) ?_); first | (refine ks_load1 KN 67 Tryd.underlying67 ?_) | (refine ks_loadW KN 25 Tryd.underlying25 ?_) | (refine ks_load1 KN 26 Tryd.underlying26 ?_) | (refine ks_load1 KN 23 Tryd.underlying23 ?_) | (refine ks_load1 KN 69 Tryd.underlying69 ?_) | (refine ks_loadW KN 76 Tryd.underlying76 ?_) | (refine ks_load1 KN 3 Tryd.underlying3 ?_) | (refine ks_load1 KN 9 Tryd.underlying9 ?_) | (refine ks_loadW KN 35 Tryd.underlying35 ?_) | (refine ks_load1 KN 21 Tryd.underlying21 ?_)) | ((refine gate_store (by rfl) ?_); first | (refine ks_storeW KN 25 ?_; clear KN; intro wx KN) | (refine ks_storeA KN 25 ?_; clear KN; intro wx KN) | (refine ks_storeW KN 76 ?_; clear KN; intro wx KN) | (refine ks_storeA KN 76 ?_; clear KN; intro wx KN) | (refine ks_store1 KN 21 ?_; clear KN; intro wx KN)) | ((refine gate_new (by rfl) ?_); first | (refine ks_alloc KN 25 (q := 3) #[.int .i64 0, .int .i64 0] ?_; clear KN; intro g3 wx hg3 KN) | (refine ks_boxA KN 72 (q := 14) ?_; clear KN; intro g14 wx hg14 KN) | (refine wpList_built rfl 25 #[] rfl #[.int .i64 0, .int .i64 0] (by kernel_rfl) ?_) | (refine ks_alloc KN 76 (q := 8) #[.string ByteArray.empty, .int .i64 0, .int .i64 0] ?_; clear KN; intro g8 wx hg8 KN))))
                      go_meet
                      case rel => exact ⟨p, y, HPN.out, HPI.out, HPO.out, HY.out, aFix_uni HY.out HLL.out, KN⟩
                    · have hq : sv.toList.isEmpty = false := by rw [HSV.out, Lib.toList_data, data_str]; cases hu : u.label with
                        | nil => exact absurd hu hl
                        | cons a b => rfl
                      have hq2 : (!sv.toList.isEmpty) = true := by rw [hq]; rfl
                      rw [hq2]
                      have hkb : kv ≤ 4096 := by obtain ⟨z, hz, rfl⟩ := labelAt_mem hla; exact HOK.out.num z hz
                      have w3 : IntKind.i32.wrap (kv : Int) = kv := by rw [IntKind.wrap_i32]; omega
                      have HFI : Hid (findI x.labels u.label = (kv : Int)) := Lib.hid (by unfold findI; rw [hla])
                      have HLL := Lib.hid hl
                      have HLA := Lib.hid hla
                      clear hl hla
                      go_wp2_with (first | (go_at_call 34; rw [HSV.out]; have hr1 := HOn.out.row (f := fun o => _ :: _ :: _ :: _ :: _ :: (ql ++ o)) KN (TailF.cons _ (TailF.cons _ (TailF.cons _ (TailF.cons _ (TailF.cons _ (TailF.app TailF.id ql)))))); have hr2 := HOq.out.row (f := fun o => _ :: _ :: _ :: _ :: _ :: (nl ++ o)) (KN.perm ((((((List.perm_append_comm).cons _).cons _).cons _).cons _).cons _)) (TailF.cons _ (TailF.cons _ (TailF.cons _ (TailF.cons _ (TailF.cons _ (TailF.app TailF.id nl)))))); refine (asr_find (KN.perm ((List.Perm.cons _ (List.Perm.swap _ _ _)).trans (List.Perm.swap _ _ _))) hr1 hr2).mono ?_; rw [HFI.out]; rintro e9 wx ⟨rfl, hb⟩; replace KN := KN.below hb; clear hb hr1 hr2) | ((with_reducible refine wpList_gate ?_); first | (refine wpList_kn_elemC KN (by rfl) 21 _ _ rfl go (u.instr * 5 + 4) rfl (.int .i32 (kv : Int)) rfl rfl u.instr 4 y.cells.toList HXI.out rfl (by repeat (first | exact Repl.here | apply Repl.there)) (cells_len p) (by rw [List.length_map, HPN.out]; exact ho1) (by decide) (by kernel_rfl) (by rfl) ?_; clear KN; intro wx KN) | ((refine gate_load (by rfl) ?_); first | (refine ks_load1 KN 67 Tryd.underlying67 ?_) | (refine ks_loadW KN 25 Tryd.underlying25 ?_) | (refine ks_load1 KN 26 Tryd.underlying26 ?_) | (refine ks_load1 KN 23 Tryd.underlying23 ?_) | (refine ks_load1 KN 69 Tryd.underlying69 ?_) | (refine ks_loadW KN 76 Tryd.underlying76 ?_) | (refine ks_load1 KN 3 Tryd.underlying3 ?_) | (refine ks_load1 KN 9 Tryd.underlying9 ?_) | (refine ks_loadW KN 35 Tryd.underlying35 ?_) | (refine ks_load1 KN 21 Tryd.underlying21 ?_)) | ((refine gate_store (by rfl) ?_); first | (refine ks_storeW KN 25 ?_; clear KN; intro wx KN) | (refine ks_storeA KN 25 ?_; clear KN; intro wx KN) | (refine ks_storeW KN 76 ?_; clear KN; intro wx KN) | (refine ks_storeA KN 76 ?_; clear KN; intro wx KN) | (refine ks_store1 KN 21 ?_; clear KN; intro wx KN)) | ((refine gate_new (by rfl) ?_); first | (refine ks_alloc KN 25 (q := 3) #[.int .i64 0, .int .i64 0] ?_; clear KN; intro g3 wx hg3 KN) | (refine ks_boxA KN 72 (q := 14) ?_; clear KN; intro g14 wx hg14 KN) | (refine wpList_built rfl 25 #[] rfl #[.int .i64 0, .int .i64 0] (by kernel_rfl) ?_) | (refine ks_alloc KN 76 (q := 8) #[.string ByteArray.empty, .int .i64 0, .int .i64 0] ?_; clear KN; intro g8 wx hg8 KN))))
                      have hset : (insRows p).set u.instr (y.cells.toList.set 4 (.int .i32 (kv : Int))) = insRows (p.set u.instr { y with imm := (kv : Int) }) := by unfold insRows; rw [List.map_set]; rfl
                      rw [hset] at KN
                      go_meet
                      case rel => exact ⟨p.set u.instr { y with imm := (kv : Int) }, { y with imm := (kv : Int) }, by rw [List.length_set]; exact HPN.out, HPI.out.set _ ⟨by show -2147483648 ≤ (kv : Int); omega, by show (kv : Int) ≤ 2147483647; omega⟩, (set_op (y := { y with imm := (kv : Int) }) HY.out rfl).trans HPO.out, List.getElem?_set_self (by rw [HPN.out]; exact hui), aFix_uni2 HY.out HLL.out HLA.out, KN⟩
                  case rest =>
                    clear KN
                    obtain ⟨p', x', hpn', hpi', hpo', hx', hfx, KN⟩ := hcut
                    obtain ⟨z, hz⟩ : ∃ z, x.prog[u.instr]? = some z := ⟨_, List.getElem?_eq_getElem (by rw [← HNN.out]; exact hui)⟩
                    have hop := map_op_get hpo' hx' hz
                    have hbd := HINV.out.op z (List.mem_of_getElem? hz)
                    have o0 : 0 ≤ x'.op := by rw [hop]; exact hbd.1
                    have o1 : x'.op ≤ 27 := by rw [hop]; exact hbd.2
                    have HUT : Hid (uses x'.op 116 = u.target) := Lib.hid (by rw [hop]; exact (HINV.out.tg u HMU.out z hz).symm)
                    obtain ⟨bq, hbq⟩ : ∃ bq, bq = (u.target && decide ((n : Int) ≤ x'.imm)) := ⟨_, rfl⟩
                    have himm := hpi' x' (List.mem_of_getElem? hx')
                    have wv : IntKind.i64.wrap x'.imm = x'.imm := by rw [IntKind.wrap_i64]; omega
                    have hxi2 : (insRows p')[u.instr]? = some x'.cells.toList := by rw [List.getElem?_map, hx']; rfl
                    have HXI2 := Lib.hid hxi2
                    have HPN2 := Lib.hid hpn'
                    have HPI2 := Lib.hid hpi'
                    have HPO2 := Lib.hid hpo'
                    have HFX := Lib.hid hfx
                    have HBQ := Lib.hid hbq
                    clear hz hop hbd hbq hxi2 hpn' hpi' hpo' hfx hx' HLAB
                    go_upto_region 21 with fail
                    (try go_frame)
                    go_cut [111] (fun c wz => c = .bool bq ∧ Kn [] w1 wz ((g8, At #[.string sv, .int .i64 (u.instr : Int), .int .i64 (u.at_ : Int)] 76) :: (gp, At (parC (.string s) tv ⟨x.i, (a, b), 0⟩) 74) :: (g14, At (ascC gp (.slice (some ⟨go, 0, none⟩) n co) (.slice (some ⟨gu, 0, none⟩) nu uc) nv qv) 72) :: (go, CapAt 35 5 co (insRows p')) :: (gu, CapAt 76 3 uc (useRows x.uses)) :: (ql ++ nl)))
                    case first =>
                      replace KN := KN.drew
                      cases htg : u.target with
                      | false =>
                        have HU2 : Hid (uses x'.op 116 = false) := Lib.hid (HUT.out.trans htg)
                        have HBB : Hid (bq = false) := Lib.hid (by rw [HBQ.out, htg]; rfl)
                        clear htg
                        refine wp_region_held_drew (S := (fun w' => w'.rangeAt go (u.instr * 5) x'.cells.toList ∧ w'.cell? ⟨g14, 1, none⟩ = some (.slice (some ⟨go, 0, none⟩) n co))) (by kernel_rfl) ?qihS (fun hHeld => ?qirest)
                        case qihS => exact ⟨rangeAt_elem KN (by repeat (first | exact Has.here | refine Has.there ?_)) (cells_len p') HXI2.out, KN.cell (g := g14) (o := 1) (by repeat (first | exact Has.here | refine Has.there ?_)) rfl⟩
                        refine wpAnyH_take (i := 0) (oi := ⟨some 95, _, _, _, _, _⟩) (v := ?qiv0) rfl (by kernel_rfl) (by kernel_rfl) (by kernel_rfl) (fun _ _ _ h => h) (Or.inl ⟨by rfl, ?qihy0⟩) hHeld ?qir0
                        case qihy0 => (intro w hSw; (try dsimp only at hSw); go_simp; (try with_reducible rfl))
                        (try simp only [Act.put, List.setIfInBounds_toArray, List.set_cons_zero, List.set_cons_succ])
                        refine wpAnyH_take (i := 1) (oi := ⟨some 96, _, _, _, _, _⟩) (v := ?qiv1) rfl (by kernel_rfl) (by kernel_rfl) (by kernel_rfl) (fun _ _ _ h => h) (Or.inl ⟨by rfl, ?qihy1⟩) hHeld ?qir1
                        case qihy1 => (intro w hSw; (try dsimp only at hSw); go_simp; (try with_reducible rfl))
                        (try simp only [Act.put, List.setIfInBounds_toArray, List.set_cons_zero, List.set_cons_succ])
                        refine wpAnyH_take (i := 2) (oi := ⟨some 97, _, _, _, _, _⟩) (v := (.agg x'.cells)) rfl (by kernel_rfl) (by kernel_rfl) (by kernel_rfl) (fun _ _ _ h => h) (yields_load (by rfl) 35 _ rfl go (u.instr * 5) rfl x'.cells _ (fun _ h => h.1) Tryd.underlying35 rfl (by kernel_rfl)) hHeld ?qir2
                        (try simp only [Act.put, List.setIfInBounds_toArray, List.set_cons_zero, List.set_cons_succ])
                        refine wpAnyH_ready (rs := [3]) (by kernel_rfl) (by simp) ?qic3
                        refine AllReadyH.cons (o := ⟨some 98, _, _, _, _, _⟩) rfl (fun K hK => ?qist3) AllReadyH.nil
                        go_simp
                        (refine (Jumps_any x' _ o0 o1).mono ?_; rintro e9 wx ⟨rfl, hb⟩; rw [HU2.out]; replace KN := KN.below hb; clear hb)
                        refine hK.out _ _ ?qik3 (fun hHeld2 => ?qim3)
                        case qik3 => exact ⟨rangeAt_elem KN (by repeat (first | exact Has.here | refine Has.there ?_)) (cells_len p') HXI2.out, KN.cell (g := g14) (o := 1) (by repeat (first | exact Has.here | refine Has.there ?_)) rfl⟩
                        clear hK K hHeld
                        have hHeld := hHeld2; clear hHeld2
                        (try simp only [Act.put, List.setIfInBounds_toArray, List.set_cons_zero, List.set_cons_succ])
                        refine wpAnyH_take (i := 4) (oi := ⟨some 99, _, _, _, _, _⟩) (v := ?qiv4) rfl (by kernel_rfl) (by kernel_rfl) (by kernel_rfl) (fun _ _ _ h => h) (Or.inl ⟨by rfl, ?qihy4⟩) hHeld ?qir4
                        case qihy4 => (intro w hSw; (try dsimp only at hSw); go_simp; (try with_reducible rfl))
                        (try simp only [Act.put, List.setIfInBounds_toArray, List.set_cons_zero, List.set_cons_succ])
                        refine wpAnyH_take (i := 5) (oi := ⟨some 100, _, _, _, _, _⟩) (v := undef) rfl (by kernel_rfl) (by kernel_rfl) (by kernel_rfl) (fun _ _ _ h => h) (Or.inr ⟨by rfl, rfl⟩) hHeld ?qir5
                        (try simp only [Act.put, List.setIfInBounds_toArray, List.set_cons_zero, List.set_cons_succ])
                        refine wpAnyH_take (i := 6) (oi := ⟨some 101, _, _, _, _, _⟩) (v := undef) rfl (by kernel_rfl) (by kernel_rfl) (by kernel_rfl) (fun _ _ _ h => h) (Or.inr ⟨by rfl, rfl⟩) hHeld ?qir6
                        (try simp only [Act.put, List.setIfInBounds_toArray, List.set_cons_zero, List.set_cons_succ])
                        refine wpAnyH_take (i := 7) (oi := ⟨some 102, _, _, _, _, _⟩) (v := undef) rfl (by kernel_rfl) (by kernel_rfl) (by kernel_rfl) (fun _ _ _ h => h) (Or.inr ⟨by rfl, rfl⟩) hHeld ?qir7
                        (try simp only [Act.put, List.setIfInBounds_toArray, List.set_cons_zero, List.set_cons_succ])
                        refine wpAnyH_take (i := 8) (oi := ⟨some 103, _, _, _, _, _⟩) (v := undef) rfl (by kernel_rfl) (by kernel_rfl) (by kernel_rfl) (fun _ _ _ h => h) (Or.inr ⟨by rfl, rfl⟩) hHeld ?qir8
                        (try simp only [Act.put, List.setIfInBounds_toArray, List.set_cons_zero, List.set_cons_succ])
                        refine wpAnyH_take (i := 9) (oi := ⟨some 104, _, _, _, _, _⟩) (v := undef) rfl (by kernel_rfl) (by kernel_rfl) (by kernel_rfl) (fun _ _ _ h => h) (Or.inr ⟨by rfl, rfl⟩) hHeld ?qir9
                        (try simp only [Act.put, List.setIfInBounds_toArray, List.set_cons_zero, List.set_cons_succ])
                        refine wpAnyH_take (i := 10) (oi := ⟨some 105, _, _, _, _, _⟩) (v := undef) rfl (by kernel_rfl) (by kernel_rfl) (by kernel_rfl) (fun _ _ _ h => h) (Or.inr ⟨by rfl, rfl⟩) hHeld ?qir10
                        (try simp only [Act.put, List.setIfInBounds_toArray, List.set_cons_zero, List.set_cons_succ])
                        refine wpAnyH_take (i := 11) (oi := ⟨some 106, _, _, _, _, _⟩) (v := undef) rfl (by kernel_rfl) (by kernel_rfl) (by kernel_rfl) (fun _ _ _ h => h) (Or.inr ⟨by rfl, rfl⟩) hHeld ?qir11
                        (try simp only [Act.put, List.setIfInBounds_toArray, List.set_cons_zero, List.set_cons_succ])
                        refine wpAnyH_take (i := 12) (oi := ⟨some 107, _, _, _, _, _⟩) (v := undef) rfl (by kernel_rfl) (by kernel_rfl) (by kernel_rfl) (fun _ _ _ h => h) (Or.inr ⟨by rfl, rfl⟩) hHeld ?qir12
                        (try simp only [Act.put, List.setIfInBounds_toArray, List.set_cons_zero, List.set_cons_succ])
                        refine wpAnyH_take (i := 13) (oi := ⟨some 108, _, _, _, _, _⟩) (v := undef) rfl (by kernel_rfl) (by kernel_rfl) (by kernel_rfl) (fun _ _ _ h => h) (Or.inr ⟨by rfl, rfl⟩) hHeld ?qir13
                        (try simp only [Act.put, List.setIfInBounds_toArray, List.set_cons_zero, List.set_cons_succ])
                        refine wpAnyH_take (i := 14) (oi := ⟨some 109, _, _, _, _, _⟩) (v := undef) rfl (by kernel_rfl) (by kernel_rfl) (by kernel_rfl) (fun _ _ _ h => h) (Or.inr ⟨by rfl, rfl⟩) hHeld ?qir14
                        (try simp only [Act.put, List.setIfInBounds_toArray, List.set_cons_zero, List.set_cons_succ])
                        refine wpAnyH_take (i := 15) (oi := ⟨some 110, _, _, _, _, _⟩) (v := undef) rfl (by kernel_rfl) (by kernel_rfl) (by kernel_rfl) (fun _ _ _ h => h) (Or.inr ⟨by rfl, rfl⟩) hHeld ?qir15
                        (try simp only [Act.put, List.setIfInBounds_toArray, List.set_cons_zero, List.set_cons_succ])
                        refine wpAnyH_take (i := 16) (oi := ⟨some 111, _, _, _, _, _⟩) (v := ?qiv16) rfl (by kernel_rfl) (by kernel_rfl) (by kernel_rfl) (fun _ _ _ h => h) (Or.inl ⟨by rfl, ?qihy16⟩) hHeld ?qir16
                        case qihy16 => (intro w hSw; (try dsimp only at hSw); go_simp; (try with_reducible rfl))
                        (try simp only [Act.put, List.setIfInBounds_toArray, List.set_cons_zero, List.set_cons_succ])
                        refine wpAnyH_done (by kernel_rfl) ?qidone _
                        go_wp2_with fail
                        go_meet
                        exact ⟨by rw [HBB.out], KN⟩
                      | true =>
                        have HU2 : Hid (uses x'.op 116 = true) := Lib.hid (HUT.out.trans htg)
                        have HBB : Hid (bq = decide ((n : Int) ≤ x'.imm)) := Lib.hid (by rw [HBQ.out, htg]; rfl)
                        clear htg
                        refine wp_region_held_drew (S := (fun w' => w'.rangeAt go (u.instr * 5) x'.cells.toList ∧ w'.cell? ⟨g14, 1, none⟩ = some (.slice (some ⟨go, 0, none⟩) n co))) (by kernel_rfl) ?qjhS (fun hHeld => ?qjrest)
                        case qjhS => exact ⟨rangeAt_elem KN (by repeat (first | exact Has.here | refine Has.there ?_)) (cells_len p') HXI2.out, KN.cell (g := g14) (o := 1) (by repeat (first | exact Has.here | refine Has.there ?_)) rfl⟩
                        refine wpAnyH_take (i := 0) (oi := ⟨some 95, _, _, _, _, _⟩) (v := ?qjv0) rfl (by kernel_rfl) (by kernel_rfl) (by kernel_rfl) (fun _ _ _ h => h) (Or.inl ⟨by rfl, ?qjhy0⟩) hHeld ?qjr0
                        case qjhy0 => (intro w hSw; (try dsimp only at hSw); go_simp; (try with_reducible rfl))
                        (try simp only [Act.put, List.setIfInBounds_toArray, List.set_cons_zero, List.set_cons_succ])
                        refine wpAnyH_take (i := 1) (oi := ⟨some 96, _, _, _, _, _⟩) (v := ?qjv1) rfl (by kernel_rfl) (by kernel_rfl) (by kernel_rfl) (fun _ _ _ h => h) (Or.inl ⟨by rfl, ?qjhy1⟩) hHeld ?qjr1
                        case qjhy1 => (intro w hSw; (try dsimp only at hSw); go_simp; (try with_reducible rfl))
                        (try simp only [Act.put, List.setIfInBounds_toArray, List.set_cons_zero, List.set_cons_succ])
                        refine wpAnyH_take (i := 2) (oi := ⟨some 97, _, _, _, _, _⟩) (v := (.agg x'.cells)) rfl (by kernel_rfl) (by kernel_rfl) (by kernel_rfl) (fun _ _ _ h => h) (yields_load (by rfl) 35 _ rfl go (u.instr * 5) rfl x'.cells _ (fun _ h => h.1) Tryd.underlying35 rfl (by kernel_rfl)) hHeld ?qjr2
                        (try simp only [Act.put, List.setIfInBounds_toArray, List.set_cons_zero, List.set_cons_succ])
                        refine wpAnyH_ready (rs := [3]) (by kernel_rfl) (by simp) ?qjc3
                        refine AllReadyH.cons (o := ⟨some 98, _, _, _, _, _⟩) rfl (fun K hK => ?qjst3) AllReadyH.nil
                        go_simp
                        (refine (Jumps_any x' _ o0 o1).mono ?_; rintro e9 wx ⟨rfl, hb⟩; rw [HU2.out]; replace KN := KN.below hb; clear hb)
                        refine hK.out _ _ ?qjk3 (fun hHeld2 => ?qjm3)
                        case qjk3 => exact ⟨rangeAt_elem KN (by repeat (first | exact Has.here | refine Has.there ?_)) (cells_len p') HXI2.out, KN.cell (g := g14) (o := 1) (by repeat (first | exact Has.here | refine Has.there ?_)) rfl⟩
                        clear hK K hHeld
                        have hHeld := hHeld2; clear hHeld2
                        (try simp only [Act.put, List.setIfInBounds_toArray, List.set_cons_zero, List.set_cons_succ])
                        refine wpAnyH_take (i := 4) (oi := ⟨some 99, _, _, _, _, _⟩) (v := ?qjv4) rfl (by kernel_rfl) (by kernel_rfl) (by kernel_rfl) (fun _ _ _ h => h) (Or.inl ⟨by rfl, ?qjhy4⟩) hHeld ?qjr4
                        case qjhy4 => (intro w hSw; (try dsimp only at hSw); go_simp; (try with_reducible rfl))
                        (try simp only [Act.put, List.setIfInBounds_toArray, List.set_cons_zero, List.set_cons_succ])
                        refine wpAnyH_take (i := 5) (oi := ⟨some 100, _, _, _, _, _⟩) (v := ?qjv5) rfl (by kernel_rfl) (by kernel_rfl) (by kernel_rfl) (fun _ _ _ h => h) (Or.inl ⟨by rfl, ?qjhy5⟩) hHeld ?qjr5
                        case qjhy5 => (intro w hSw; (try dsimp only at hSw); go_simp; (try with_reducible rfl))
                        (try simp only [Act.put, List.setIfInBounds_toArray, List.set_cons_zero, List.set_cons_succ])
                        refine wpAnyH_take (i := 6) (oi := ⟨some 101, _, _, _, _, _⟩) (v := ?qjv6) rfl (by kernel_rfl) (by kernel_rfl) (by kernel_rfl) (fun _ _ _ h => h) (Or.inl ⟨by rfl, ?qjhy6⟩) hHeld ?qjr6
                        case qjhy6 => (intro w hSw; (try dsimp only at hSw); go_simp; (try with_reducible rfl))
                        (try simp only [Act.put, List.setIfInBounds_toArray, List.set_cons_zero, List.set_cons_succ])
                        refine wpAnyH_take (i := 7) (oi := ⟨some 102, _, _, _, _, _⟩) (v := ?qjv7) rfl (by kernel_rfl) (by kernel_rfl) (by kernel_rfl) (fun _ _ _ h => h) (Or.inl ⟨by rfl, ?qjhy7⟩) hHeld ?qjr7
                        case qjhy7 => (intro w hSw; (try dsimp only at hSw); go_simp; (try with_reducible rfl))
                        (try simp only [Act.put, List.setIfInBounds_toArray, List.set_cons_zero, List.set_cons_succ])
                        refine wpAnyH_take (i := 8) (oi := ⟨some 103, _, _, _, _, _⟩) (v := (.int .i32 x'.imm)) rfl (by kernel_rfl) (by kernel_rfl) (by kernel_rfl) (fun _ _ _ h => h) (kn_yields_cell (by rfl) 21 _ rfl go (u.instr * 5 + 4) rfl _ (fun _ h => h.1 4 _ rfl) _ Tryd.underlying21 rfl) hHeld ?qjr8
                        (try simp only [Act.put, List.setIfInBounds_toArray, List.set_cons_zero, List.set_cons_succ])
                        refine wpAnyH_take (i := 9) (oi := ⟨some 104, _, _, _, _, _⟩) (v := (.int .i64 x'.imm)) rfl (by kernel_rfl) (by kernel_rfl) (by kernel_rfl) (fun _ _ _ h => h) (.inl ⟨by rfl, by intro w _; go_simp; first | done | exact wv | simp [wv]⟩) hHeld ?qjr9
                        (try simp only [Act.put, List.setIfInBounds_toArray, List.set_cons_zero, List.set_cons_succ])
                        refine wpAnyH_take (i := 10) (oi := ⟨some 105, _, _, _, _, _⟩) (v := ?qjv10) rfl (by kernel_rfl) (by kernel_rfl) (by kernel_rfl) (fun _ _ _ h => h) (Or.inl ⟨by rfl, ?qjhy10⟩) hHeld ?qjr10
                        case qjhy10 => (intro w hSw; (try dsimp only at hSw); go_simp; (try with_reducible rfl))
                        (try simp only [Act.put, List.setIfInBounds_toArray, List.set_cons_zero, List.set_cons_succ])
                        refine wpAnyH_take (i := 11) (oi := ⟨some 106, _, _, _, _, _⟩) (v := ?qjv11) rfl (by kernel_rfl) (by kernel_rfl) (by kernel_rfl) (fun _ _ _ h => h) (Or.inl ⟨by rfl, ?qjhy11⟩) hHeld ?qjr11
                        case qjhy11 => (intro w hSw; (try dsimp only at hSw); go_simp; (try with_reducible rfl))
                        (try simp only [Act.put, List.setIfInBounds_toArray, List.set_cons_zero, List.set_cons_succ])
                        refine wpAnyH_take (i := 12) (oi := ⟨some 107, _, _, _, _, _⟩) (v := ?qjv12) rfl (by kernel_rfl) (by kernel_rfl) (by kernel_rfl) (fun _ _ _ h => h) (Or.inl ⟨by rfl, ?qjhy12⟩) hHeld ?qjr12
                        case qjhy12 => (intro w hSw; (try dsimp only at hSw); go_simp; (try with_reducible rfl))
                        (try simp only [Act.put, List.setIfInBounds_toArray, List.set_cons_zero, List.set_cons_succ])
                        refine wpAnyH_take (i := 13) (oi := ⟨some 108, _, _, _, _, _⟩) (v := (.slice (some ⟨go, 0, none⟩) n co)) rfl (by kernel_rfl) (by kernel_rfl) (by kernel_rfl) (fun _ _ _ h => h) (kn_yields_cell (by rfl) 23 _ rfl g14 1 rfl _ (fun _ h => h.2) _ Tryd.underlying23 rfl) hHeld ?qjr13
                        (try simp only [Act.put, List.setIfInBounds_toArray, List.set_cons_zero, List.set_cons_succ])
                        refine wpAnyH_take (i := 14) (oi := ⟨some 109, _, _, _, _, _⟩) (v := ?qjv14) rfl (by kernel_rfl) (by kernel_rfl) (by kernel_rfl) (fun _ _ _ h => h) (Or.inl ⟨by rfl, ?qjhy14⟩) hHeld ?qjr14
                        case qjhy14 => (intro w hSw; (try dsimp only at hSw); go_simp; (try with_reducible rfl))
                        (try simp only [Act.put, List.setIfInBounds_toArray, List.set_cons_zero, List.set_cons_succ])
                        refine wpAnyH_take (i := 15) (oi := ⟨some 110, _, _, _, _, _⟩) (v := ?qjv15) rfl (by kernel_rfl) (by kernel_rfl) (by kernel_rfl) (fun _ _ _ h => h) (Or.inl ⟨by rfl, ?qjhy15⟩) hHeld ?qjr15
                        case qjhy15 => (intro w hSw; (try dsimp only at hSw); go_simp; (try with_reducible rfl))
                        (try simp only [Act.put, List.setIfInBounds_toArray, List.set_cons_zero, List.set_cons_succ])
                        refine wpAnyH_take (i := 16) (oi := ⟨some 111, _, _, _, _, _⟩) (v := ?qjv16) rfl (by kernel_rfl) (by kernel_rfl) (by kernel_rfl) (fun _ _ _ h => h) (Or.inl ⟨by rfl, ?qjhy16⟩) hHeld ?qjr16
                        case qjhy16 => (intro w hSw; (try dsimp only at hSw); go_simp; (try with_reducible rfl))
                        (try simp only [Act.put, List.setIfInBounds_toArray, List.set_cons_zero, List.set_cons_succ])
                        refine wpAnyH_done (by kernel_rfl) ?qjdone _
                        go_wp2_with fail
                        go_meet
                        exact ⟨by rw [HBB.out], KN⟩
                    case rest =>
                      clear KN
                      obtain ⟨rfl, KN⟩ := hcut
                      cases hb : bq with
                      | true =>
                        have HSP : Hid (Spoilt AS ⟨x.i, posE el ec d u.at_, 71⟩) := Lib.hid ⟨by show ¬ (71 : Int) = 0; decide, HA2.out.1 (u.at_, 71) (by
                          have h9 := HBQ.out
                          rw [hb] at h9
                          have h8 := (Bool.and_eq_true _ _ ▸ h9.symm : u.target = true ∧ decide ((n : Int) ≤ x'.imm) = true)
                          rw [← HRE.out, HRK.out, HFX.out, if_pos ⟨h8.1, of_decide_eq_true h8.2⟩])⟩
                        clear hb
                        go_wp2_with (first | (go_at_call 35; refine (par_fail (KN.perm (List.Perm.swap _ _ _)) HT.out hdl hsz HP u.at_ (by omega) 71).mono ?_; rw [failP_ok rfl]; rintro e9 wx ⟨rfl, K2⟩; replace KN := K2; clear K2) | ((with_reducible refine wpList_gate ?_); first | ((refine gate_load (by rfl) ?_); first | (refine ks_load1 KN 67 Tryd.underlying67 ?_) | (refine ks_loadW KN 25 Tryd.underlying25 ?_) | (refine ks_load1 KN 26 Tryd.underlying26 ?_) | (refine ks_load1 KN 23 Tryd.underlying23 ?_) | (refine ks_load1 KN 69 Tryd.underlying69 ?_) | (refine ks_loadW KN 76 Tryd.underlying76 ?_) | (refine ks_load1 KN 3 Tryd.underlying3 ?_) | (refine ks_load1 KN 9 Tryd.underlying9 ?_) | (refine ks_loadW KN 35 Tryd.underlying35 ?_) | (refine ks_load1 KN 21 Tryd.underlying21 ?_)) | ((refine gate_store (by rfl) ?_); first | (refine ks_storeW KN 25 ?_; clear KN; intro wx KN) | (refine ks_storeA KN 25 ?_; clear KN; intro wx KN) | (refine ks_storeW KN 76 ?_; clear KN; intro wx KN) | (refine ks_storeA KN 76 ?_; clear KN; intro wx KN) | (refine ks_store1 KN 21 ?_; clear KN; intro wx KN)) | ((refine gate_new (by rfl) ?_); first | (refine ks_alloc KN 25 (q := 3) #[.int .i64 0, .int .i64 0] ?_; clear KN; intro g3 wx hg3 KN) | (refine ks_boxA KN 72 (q := 14) ?_; clear KN; intro g14 wx hg14 KN) | (refine wpList_built rfl 25 #[] rfl #[.int .i64 0, .int .i64 0] (by kernel_rfl) ?_) | (refine ks_alloc KN 76 (q := 8) #[.string ByteArray.empty, .int .i64 0, .int .i64 0] ?_; clear KN; intro g8 wx hg8 KN))))
                        go_roundw
                        case rel => exact ⟨k + 1, _, p', by go_num, by omega, HPN2.out, HPI2.out, HPO2.out, KN.drop (.there .here), .inr HSP.out⟩
                        case measure => simp [intOf]; omega
                      | false =>
                        have HNX : Hid (r1 = aFix x.labels n (x.uses.drop (k + 1)) p') := Lib.hid (by
                          have h9 := HBQ.out
                          rw [hb] at h9
                          rw [HRK.out, HFX.out, if_neg (fun q => by rw [q.1, decide_eq_true q.2] at h9; cases h9), HREST.out])
                        clear hb
                        go_wp2_with fail
                        go_roundw
                        case rel => exact ⟨k + 1, _, p', by go_num, by omega, HPN2.out, HPI2.out, HPO2.out, KN.drop .here, .inl ⟨rfl, HNX.out⟩⟩
                        case measure => simp [intOf]; omega
              · have hsp : Spoilt AS s2 := by
                  rcases hcase with h | h
                  · exact absurd (by rw [h.1]) h0
                  · exact h
                have HSP := Lib.hid hsp
                have HT1 : Hid ((s2.er == 0) = false) := Lib.hid (by rw [beq_eq_false_iff_ne]; exact h0)
                clear hcase h0 hsp hpn hpi hpo
                go_upto_region 24 with (first | (go_at_call 30; refine (par_ok KN).mono ?_; rw [HT1.out]; rintro e9 wx ⟨rfl, K2⟩; replace KN := K2; clear K2) | ((with_reducible refine wpList_gate ?_); first | ((refine gate_load (by rfl) ?_); first | (refine ks_load1 KN 67 Tryd.underlying67 ?_) | (refine ks_loadW KN 25 Tryd.underlying25 ?_) | (refine ks_load1 KN 26 Tryd.underlying26 ?_) | (refine ks_load1 KN 23 Tryd.underlying23 ?_) | (refine ks_load1 KN 69 Tryd.underlying69 ?_) | (refine ks_loadW KN 76 Tryd.underlying76 ?_) | (refine ks_load1 KN 3 Tryd.underlying3 ?_) | (refine ks_load1 KN 9 Tryd.underlying9 ?_) | (refine ks_loadW KN 35 Tryd.underlying35 ?_) | (refine ks_load1 KN 21 Tryd.underlying21 ?_)) | ((refine gate_store (by rfl) ?_); first | (refine ks_storeW KN 25 ?_; clear KN; intro wx KN) | (refine ks_storeA KN 25 ?_; clear KN; intro wx KN) | (refine ks_storeW KN 76 ?_; clear KN; intro wx KN) | (refine ks_storeA KN 76 ?_; clear KN; intro wx KN) | (refine ks_store1 KN 21 ?_; clear KN; intro wx KN)) | ((refine gate_new (by rfl) ?_); first | (refine ks_alloc KN 25 (q := 3) #[.int .i64 0, .int .i64 0] ?_; clear KN; intro g3 wx hg3 KN) | (refine ks_boxA KN 72 (q := 14) ?_; clear KN; intro g14 wx hg14 KN) | (refine wpList_built rfl 25 #[] rfl #[.int .i64 0, .int .i64 0] (by kernel_rfl) ?_) | (refine ks_alloc KN 76 (q := 8) #[.string ByteArray.empty, .int .i64 0, .int .i64 0] ?_; clear KN; intro g8 wx hg8 KN))))
                (try go_frame)
                replace KN := Kn.base K0.out KN
                replace KN := KN.drew
                refine wp_region_held_drew (S := (fun w' => BlkT w' gp (parC (.string s) tv s2) 74)) (by kernel_rfl) ?qehS (fun hHeld => ?qerest)
                case qehS => exact KN.at_ (by repeat (first | exact Has.here | refine Has.there ?_))
                refine wpAnyH_take (i := 0) (oi := ⟨some 119, _, _, _, _, _⟩) (v := ?qev0) rfl (by kernel_rfl) (by kernel_rfl) (by kernel_rfl) (fun _ _ _ h => h) (Or.inl ⟨by rfl, ?qehy0⟩) hHeld ?qer0
                case qehy0 => (intro w hSw; (try dsimp only at hSw); go_simp; (try with_reducible rfl))
                (try simp only [Act.put, List.setIfInBounds_toArray, List.set_cons_zero, List.set_cons_succ])
                refine wpAnyH_take (i := 1) (oi := ⟨some 120, _, _, _, _, _⟩) (v := ?qev1) rfl (by kernel_rfl) (by kernel_rfl) (by kernel_rfl) (fun _ _ _ h => h) (Or.inl ⟨by rfl, ?qehy1⟩) hHeld ?qer1
                case qehy1 => (intro w hSw; (try dsimp only at hSw); go_simp; (try with_reducible rfl))
                (try simp only [Act.put, List.setIfInBounds_toArray, List.set_cons_zero, List.set_cons_succ])
                refine wpAnyH_take (i := 2) (oi := ⟨some 121, _, _, _, _, _⟩) (v := ?qev2) rfl (by kernel_rfl) (by kernel_rfl) (by kernel_rfl) (fun _ _ _ h => h) (Or.inl ⟨by rfl, ?qehy2⟩) hHeld ?qer2
                case qehy2 => (intro w hSw; (try dsimp only at hSw); go_simp; (try with_reducible rfl))
                (try simp only [Act.put, List.setIfInBounds_toArray, List.set_cons_zero, List.set_cons_succ])
                refine wpAnyH_take (i := 3) (oi := ⟨some 122, _, _, _, _, _⟩) (v := (.agg #[.int .i64 s2.p.1, .int .i64 s2.p.2])) rfl (by kernel_rfl) (by kernel_rfl) (by kernel_rfl) (fun _ _ _ h => h) (kn_yieldsN (by rfl) 25 _ rfl gp 3 rfl _ 74 (fun _ h => h) #[.int .i64 s2.p.1, .int .i64 s2.p.2] rfl _ Tryd.underlying25 rfl (by kernel_rfl)) hHeld ?qer3
                (try simp only [Act.put, List.setIfInBounds_toArray, List.set_cons_zero, List.set_cons_succ])
                refine wpAnyH_take (i := 4) (oi := ⟨some 123, _, _, _, _, _⟩) (v := ?qev4) rfl (by kernel_rfl) (by kernel_rfl) (by kernel_rfl) (fun _ _ _ h => h) (Or.inl ⟨by rfl, ?qehy4⟩) hHeld ?qer4
                case qehy4 => (intro w hSw; (try dsimp only at hSw); go_simp; (try with_reducible rfl))
                (try simp only [Act.put, List.setIfInBounds_toArray, List.set_cons_zero, List.set_cons_succ])
                refine wpAnyH_take (i := 5) (oi := ⟨some 124, _, _, _, _, _⟩) (v := ?qev5) rfl (by kernel_rfl) (by kernel_rfl) (by kernel_rfl) (fun _ _ _ h => h) (Or.inl ⟨by rfl, ?qehy5⟩) hHeld ?qer5
                case qehy5 => (intro w hSw; (try dsimp only at hSw); go_simp; (try with_reducible rfl))
                (try simp only [Act.put, List.setIfInBounds_toArray, List.set_cons_zero, List.set_cons_succ])
                refine wpAnyH_take (i := 6) (oi := ⟨some 125, _, _, _, _, _⟩) (v := ?qev6) rfl (by kernel_rfl) (by kernel_rfl) (by kernel_rfl) (fun _ _ _ h => h) (Or.inl ⟨by rfl, ?qehy6⟩) hHeld ?qer6
                case qehy6 => (intro w hSw; (try dsimp only at hSw); go_simp; (try with_reducible rfl))
                (try simp only [Act.put, List.setIfInBounds_toArray, List.set_cons_zero, List.set_cons_succ])
                refine wpAnyH_take (i := 7) (oi := ⟨some 126, _, _, _, _, _⟩) (v := (.int .i64 s2.er)) rfl (by kernel_rfl) (by kernel_rfl) (by kernel_rfl) (fun _ _ _ h => h) (kn_yields1 (by rfl) 26 _ rfl gp 5 rfl _ 74 (fun _ h => h) _ rfl _ Tryd.underlying26 rfl) hHeld ?qer7
                (try simp only [Act.put, List.setIfInBounds_toArray, List.set_cons_zero, List.set_cons_succ])
                refine wpAnyH_take (i := 8) (oi := ⟨some 2, _, _, _, _, _⟩) (v := ?qev8) rfl (by kernel_rfl) (by kernel_rfl) (by kernel_rfl) (fun _ _ _ h => h) (Or.inl ⟨by rfl, ?qehy8⟩) hHeld ?qer8
                case qehy8 => (intro w hSw; (try dsimp only at hSw); go_simp; (try with_reducible rfl))
                (try simp only [Act.put, List.setIfInBounds_toArray, List.set_cons_zero, List.set_cons_succ])
                refine wpAnyH_ready (rs := [9]) (by kernel_rfl) (by simp) ?qec9
                refine AllReadyH.cons (o := ⟨none, _, _, _, _, _⟩) rfl (fun K hK => ?qest9) AllReadyH.nil
                (rw [if_pos (by rfl)]; refine wp_kn_storeW KN 25 _ _ rfl _ rfl #[.int .i64 s2.p.1, .int .i64 s2.p.2] rfl _ _ (by repeat (first | exact Repl.here | apply Repl.there)) (by kernel_rfl) (by kernel_rfl) (by kernel_rfl) ?_; clear KN; intro wx KN)
                refine hK.out _ _ ?qek9 (fun hHeld2 => ?qem9)
                case qek9 => exact KN.at_ (by repeat (first | exact Has.here | refine Has.there ?_))
                clear hK K hHeld
                have hHeld := hHeld2; clear hHeld2
                (try simp only [Act.put, List.setIfInBounds_toArray, List.set_cons_zero, List.set_cons_succ])
                refine wpAnyH_take (i := 10) (oi := ⟨some 4, _, _, _, _, _⟩) (v := ?qev10) rfl (by kernel_rfl) (by kernel_rfl) (by kernel_rfl) (fun _ _ _ h => h) (Or.inl ⟨by rfl, ?qehy10⟩) hHeld ?qer10
                case qehy10 => (intro w hSw; (try dsimp only at hSw); go_simp; (try with_reducible rfl))
                (try simp only [Act.put, List.setIfInBounds_toArray, List.set_cons_zero, List.set_cons_succ])
                refine wpAnyH_done (by kernel_rfl) ?qedone _
                go_wp2_with fail
                refine bodyPost_ret (results_tct rfl _ _ g3 #[.int .i64 s2.p.1, .int .i64 s2.p.2] (.int .i64 s2.er) (.slice none 0 0) rfl rfl (run_loadVar_row _ g3 _ _ _ (0, 0) _ (KN.at_ (by repeat (first | exact Has.here | refine Has.there ?_))) Tryd.underlying25 rfl (by kernel_rfl)) rfl) rfl ?_
                exact HOUT.out _ _ ⟨.slice none 0 0, [], by rw [HSP.out.2], by rw [HSP.out.2]; exact .nil, KN.frame0⟩
            · by_cases h0 : s2.er = 0
              · have hs2 : s2 = ⟨x.i, (a, b), 0⟩ ∧ r1 = aFix x.labels n (x.uses.drop k) p := by
                  rcases hcase with h | h
                  · exact h
                  · exact absurd h0 h.1
                obtain ⟨rfl, hrk⟩ := hs2
                have HAE : Hid (AS = (p, (0, 0), 0)) := Lib.hid (HA2.out.2 p (by rw [← HRE.out, hrk, List.drop_eq_nil_of_le (by rw [← HNU.out]; omega)]; rfl))
                have HT1 : Hid (((⟨x.i, (a, b), 0⟩ : PSt).er == 0) = true) := Lib.hid rfl
                have HOP : Hid (OwnT 35 5 (.slice (some ⟨go, 0, none⟩) n co) (insRows p) [(go, CapAt 35 5 co (insRows p))]) := Lib.hid (by
                  have := OwnT.blk (e := 35) (sz := 5) (g := go) (cap := co) (L := insRows p) (by rw [List.length_map, hpn]; exact ho1) ho2 (cells_len p)
                  rw [show (insRows p).length = n from by rw [List.length_map, hpn]] at this
                  exact this)
                clear hcase h0 hpn hpi hpo hrk
                go_upto_region 25 with (first | (go_at_call 30; refine (par_ok KN).mono ?_; rw [HT1.out]; rintro e9 wx ⟨rfl, K2⟩; replace KN := K2; clear K2) | ((with_reducible refine wpList_gate ?_); first | ((refine gate_load (by rfl) ?_); first | (refine ks_load1 KN 67 Tryd.underlying67 ?_) | (refine ks_loadW KN 25 Tryd.underlying25 ?_) | (refine ks_load1 KN 26 Tryd.underlying26 ?_) | (refine ks_load1 KN 23 Tryd.underlying23 ?_) | (refine ks_load1 KN 69 Tryd.underlying69 ?_) | (refine ks_loadW KN 76 Tryd.underlying76 ?_) | (refine ks_load1 KN 3 Tryd.underlying3 ?_) | (refine ks_load1 KN 9 Tryd.underlying9 ?_) | (refine ks_loadW KN 35 Tryd.underlying35 ?_) | (refine ks_load1 KN 21 Tryd.underlying21 ?_)) | ((refine gate_store (by rfl) ?_); first | (refine ks_storeW KN 25 ?_; clear KN; intro wx KN) | (refine ks_storeA KN 25 ?_; clear KN; intro wx KN) | (refine ks_storeW KN 76 ?_; clear KN; intro wx KN) | (refine ks_storeA KN 76 ?_; clear KN; intro wx KN) | (refine ks_store1 KN 21 ?_; clear KN; intro wx KN)) | ((refine gate_new (by rfl) ?_); first | (refine ks_alloc KN 25 (q := 3) #[.int .i64 0, .int .i64 0] ?_; clear KN; intro g3 wx hg3 KN) | (refine ks_boxA KN 72 (q := 14) ?_; clear KN; intro g14 wx hg14 KN) | (refine wpList_built rfl 25 #[] rfl #[.int .i64 0, .int .i64 0] (by kernel_rfl) ?_) | (refine ks_alloc KN 76 (q := 8) #[.string ByteArray.empty, .int .i64 0, .int .i64 0] ?_; clear KN; intro g8 wx hg8 KN))))
                replace KN := Kn.base K0.out KN
                go_wp2_with (first | ((with_reducible refine wpList_gate ?_); first | ((refine gate_load (by rfl) ?_); first | (refine ks_load1 KN 67 Tryd.underlying67 ?_) | (refine ks_loadW KN 25 Tryd.underlying25 ?_) | (refine ks_load1 KN 26 Tryd.underlying26 ?_) | (refine ks_load1 KN 23 Tryd.underlying23 ?_) | (refine ks_load1 KN 69 Tryd.underlying69 ?_) | (refine ks_loadW KN 76 Tryd.underlying76 ?_) | (refine ks_load1 KN 3 Tryd.underlying3 ?_) | (refine ks_load1 KN 9 Tryd.underlying9 ?_) | (refine ks_loadW KN 35 Tryd.underlying35 ?_) | (refine ks_load1 KN 21 Tryd.underlying21 ?_)) | ((refine gate_store (by rfl) ?_); first | (refine ks_storeW KN 25 ?_; clear KN; intro wx KN) | (refine ks_storeA KN 25 ?_; clear KN; intro wx KN) | (refine ks_storeW KN 76 ?_; clear KN; intro wx KN) | (refine ks_storeA KN 76 ?_; clear KN; intro wx KN) | (refine ks_store1 KN 21 ?_; clear KN; intro wx KN)) | ((refine gate_new (by rfl) ?_); first | (refine wpList_built rfl 25 _ rfl #[.int .i64 0, .int .i64 0] (by kernel_rfl) ?_) | (refine ks_alloc KN 25 (q := 3) #[.int .i64 0, .int .i64 0] ?_; clear KN; intro g3 wx hg3 KN) | (refine ks_boxA KN 72 (q := 14) ?_; clear KN; intro g14 wx hg14 KN) | (refine wpList_built rfl 25 #[] rfl #[.int .i64 0, .int .i64 0] (by kernel_rfl) ?_) | (refine ks_alloc KN 76 (q := 8) #[.string ByteArray.empty, .int .i64 0, .int .i64 0] ?_; clear KN; intro g8 wx hg8 KN))))
                refine bodyPost_ret (results_tct rfl _ _ g3 #[.int .i64 0, .int .i64 0] (.int .i64 0) (.slice (some ⟨go, 0, none⟩) n co) rfl rfl (run_loadVar_row _ g3 _ _ _ (0, 0) _ (KN.at_ (by repeat (first | exact Has.here | refine Has.there ?_))) Tryd.underlying25 rfl (by kernel_rfl)) rfl) rfl ?_
                exact HOUT.out _ _ ⟨.slice (some ⟨go, 0, none⟩) n co, [(go, CapAt 35 5 co (insRows p))], by rw [HAE.out], by rw [HAE.out]; exact HOP.out, KN.sub (List.Sublist.cons _ (List.Sublist.cons _ (List.Sublist.cons _ (List.Sublist.cons_cons _ (List.nil_sublist _)))))⟩
              · have hsp : Spoilt AS s2 := by
                  rcases hcase with h | h
                  · exact absurd (by rw [h.1]) h0
                  · exact h
                have HSP := Lib.hid hsp
                have HT1 : Hid ((s2.er == 0) = false) := Lib.hid (by rw [beq_eq_false_iff_ne]; exact h0)
                clear hcase h0 hsp hpn hpi hpo
                go_upto_region 24 with (first | (go_at_call 30; refine (par_ok KN).mono ?_; rw [HT1.out]; rintro e9 wx ⟨rfl, K2⟩; replace KN := K2; clear K2) | ((with_reducible refine wpList_gate ?_); first | ((refine gate_load (by rfl) ?_); first | (refine ks_load1 KN 67 Tryd.underlying67 ?_) | (refine ks_loadW KN 25 Tryd.underlying25 ?_) | (refine ks_load1 KN 26 Tryd.underlying26 ?_) | (refine ks_load1 KN 23 Tryd.underlying23 ?_) | (refine ks_load1 KN 69 Tryd.underlying69 ?_) | (refine ks_loadW KN 76 Tryd.underlying76 ?_) | (refine ks_load1 KN 3 Tryd.underlying3 ?_) | (refine ks_load1 KN 9 Tryd.underlying9 ?_) | (refine ks_loadW KN 35 Tryd.underlying35 ?_) | (refine ks_load1 KN 21 Tryd.underlying21 ?_)) | ((refine gate_store (by rfl) ?_); first | (refine ks_storeW KN 25 ?_; clear KN; intro wx KN) | (refine ks_storeA KN 25 ?_; clear KN; intro wx KN) | (refine ks_storeW KN 76 ?_; clear KN; intro wx KN) | (refine ks_storeA KN 76 ?_; clear KN; intro wx KN) | (refine ks_store1 KN 21 ?_; clear KN; intro wx KN)) | ((refine gate_new (by rfl) ?_); first | (refine ks_alloc KN 25 (q := 3) #[.int .i64 0, .int .i64 0] ?_; clear KN; intro g3 wx hg3 KN) | (refine ks_boxA KN 72 (q := 14) ?_; clear KN; intro g14 wx hg14 KN) | (refine wpList_built rfl 25 #[] rfl #[.int .i64 0, .int .i64 0] (by kernel_rfl) ?_) | (refine ks_alloc KN 76 (q := 8) #[.string ByteArray.empty, .int .i64 0, .int .i64 0] ?_; clear KN; intro g8 wx hg8 KN))))
                (try go_frame)
                replace KN := Kn.base K0.out KN
                replace KN := KN.drew
                refine wp_region_held_drew (S := (fun w' => BlkT w' gp (parC (.string s) tv s2) 74)) (by kernel_rfl) ?qfhS (fun hHeld => ?qfrest)
                case qfhS => exact KN.at_ (by repeat (first | exact Has.here | refine Has.there ?_))
                refine wpAnyH_take (i := 0) (oi := ⟨some 119, _, _, _, _, _⟩) (v := ?qfv0) rfl (by kernel_rfl) (by kernel_rfl) (by kernel_rfl) (fun _ _ _ h => h) (Or.inl ⟨by rfl, ?qfhy0⟩) hHeld ?qfr0
                case qfhy0 => (intro w hSw; (try dsimp only at hSw); go_simp; (try with_reducible rfl))
                (try simp only [Act.put, List.setIfInBounds_toArray, List.set_cons_zero, List.set_cons_succ])
                refine wpAnyH_take (i := 1) (oi := ⟨some 120, _, _, _, _, _⟩) (v := ?qfv1) rfl (by kernel_rfl) (by kernel_rfl) (by kernel_rfl) (fun _ _ _ h => h) (Or.inl ⟨by rfl, ?qfhy1⟩) hHeld ?qfr1
                case qfhy1 => (intro w hSw; (try dsimp only at hSw); go_simp; (try with_reducible rfl))
                (try simp only [Act.put, List.setIfInBounds_toArray, List.set_cons_zero, List.set_cons_succ])
                refine wpAnyH_take (i := 2) (oi := ⟨some 121, _, _, _, _, _⟩) (v := ?qfv2) rfl (by kernel_rfl) (by kernel_rfl) (by kernel_rfl) (fun _ _ _ h => h) (Or.inl ⟨by rfl, ?qfhy2⟩) hHeld ?qfr2
                case qfhy2 => (intro w hSw; (try dsimp only at hSw); go_simp; (try with_reducible rfl))
                (try simp only [Act.put, List.setIfInBounds_toArray, List.set_cons_zero, List.set_cons_succ])
                refine wpAnyH_take (i := 3) (oi := ⟨some 122, _, _, _, _, _⟩) (v := (.agg #[.int .i64 s2.p.1, .int .i64 s2.p.2])) rfl (by kernel_rfl) (by kernel_rfl) (by kernel_rfl) (fun _ _ _ h => h) (kn_yieldsN (by rfl) 25 _ rfl gp 3 rfl _ 74 (fun _ h => h) #[.int .i64 s2.p.1, .int .i64 s2.p.2] rfl _ Tryd.underlying25 rfl (by kernel_rfl)) hHeld ?qfr3
                (try simp only [Act.put, List.setIfInBounds_toArray, List.set_cons_zero, List.set_cons_succ])
                refine wpAnyH_take (i := 4) (oi := ⟨some 123, _, _, _, _, _⟩) (v := ?qfv4) rfl (by kernel_rfl) (by kernel_rfl) (by kernel_rfl) (fun _ _ _ h => h) (Or.inl ⟨by rfl, ?qfhy4⟩) hHeld ?qfr4
                case qfhy4 => (intro w hSw; (try dsimp only at hSw); go_simp; (try with_reducible rfl))
                (try simp only [Act.put, List.setIfInBounds_toArray, List.set_cons_zero, List.set_cons_succ])
                refine wpAnyH_take (i := 5) (oi := ⟨some 124, _, _, _, _, _⟩) (v := ?qfv5) rfl (by kernel_rfl) (by kernel_rfl) (by kernel_rfl) (fun _ _ _ h => h) (Or.inl ⟨by rfl, ?qfhy5⟩) hHeld ?qfr5
                case qfhy5 => (intro w hSw; (try dsimp only at hSw); go_simp; (try with_reducible rfl))
                (try simp only [Act.put, List.setIfInBounds_toArray, List.set_cons_zero, List.set_cons_succ])
                refine wpAnyH_take (i := 6) (oi := ⟨some 125, _, _, _, _, _⟩) (v := ?qfv6) rfl (by kernel_rfl) (by kernel_rfl) (by kernel_rfl) (fun _ _ _ h => h) (Or.inl ⟨by rfl, ?qfhy6⟩) hHeld ?qfr6
                case qfhy6 => (intro w hSw; (try dsimp only at hSw); go_simp; (try with_reducible rfl))
                (try simp only [Act.put, List.setIfInBounds_toArray, List.set_cons_zero, List.set_cons_succ])
                refine wpAnyH_take (i := 7) (oi := ⟨some 126, _, _, _, _, _⟩) (v := (.int .i64 s2.er)) rfl (by kernel_rfl) (by kernel_rfl) (by kernel_rfl) (fun _ _ _ h => h) (kn_yields1 (by rfl) 26 _ rfl gp 5 rfl _ 74 (fun _ h => h) _ rfl _ Tryd.underlying26 rfl) hHeld ?qfr7
                (try simp only [Act.put, List.setIfInBounds_toArray, List.set_cons_zero, List.set_cons_succ])
                refine wpAnyH_take (i := 8) (oi := ⟨some 2, _, _, _, _, _⟩) (v := ?qfv8) rfl (by kernel_rfl) (by kernel_rfl) (by kernel_rfl) (fun _ _ _ h => h) (Or.inl ⟨by rfl, ?qfhy8⟩) hHeld ?qfr8
                case qfhy8 => (intro w hSw; (try dsimp only at hSw); go_simp; (try with_reducible rfl))
                (try simp only [Act.put, List.setIfInBounds_toArray, List.set_cons_zero, List.set_cons_succ])
                refine wpAnyH_ready (rs := [9]) (by kernel_rfl) (by simp) ?qfc9
                refine AllReadyH.cons (o := ⟨none, _, _, _, _, _⟩) rfl (fun K hK => ?qfst9) AllReadyH.nil
                (rw [if_pos (by rfl)]; refine wp_kn_storeW KN 25 _ _ rfl _ rfl #[.int .i64 s2.p.1, .int .i64 s2.p.2] rfl _ _ (by repeat (first | exact Repl.here | apply Repl.there)) (by kernel_rfl) (by kernel_rfl) (by kernel_rfl) ?_; clear KN; intro wx KN)
                refine hK.out _ _ ?qfk9 (fun hHeld2 => ?qfm9)
                case qfk9 => exact KN.at_ (by repeat (first | exact Has.here | refine Has.there ?_))
                clear hK K hHeld
                have hHeld := hHeld2; clear hHeld2
                (try simp only [Act.put, List.setIfInBounds_toArray, List.set_cons_zero, List.set_cons_succ])
                refine wpAnyH_take (i := 10) (oi := ⟨some 4, _, _, _, _, _⟩) (v := ?qfv10) rfl (by kernel_rfl) (by kernel_rfl) (by kernel_rfl) (fun _ _ _ h => h) (Or.inl ⟨by rfl, ?qfhy10⟩) hHeld ?qfr10
                case qfhy10 => (intro w hSw; (try dsimp only at hSw); go_simp; (try with_reducible rfl))
                (try simp only [Act.put, List.setIfInBounds_toArray, List.set_cons_zero, List.set_cons_succ])
                refine wpAnyH_done (by kernel_rfl) ?qfdone _
                go_wp2_with fail
                refine bodyPost_ret (results_tct rfl _ _ g3 #[.int .i64 s2.p.1, .int .i64 s2.p.2] (.int .i64 s2.er) (.slice none 0 0) rfl rfl (run_loadVar_row _ g3 _ _ _ (0, 0) _ (KN.at_ (by repeat (first | exact Has.here | refine Has.there ?_))) Tryd.underlying25 rfl (by kernel_rfl)) rfl) rfl ?_
                exact HOUT.out _ _ ⟨.slice none 0 0, [], by rw [HSP.out.2], by rw [HSP.out.2]; exact .nil, KN.frame0⟩
    · have HSP := Lib.hid hsp
      have HT0 : Hid ((s1.er == 0) = false) := Lib.hid (by rw [beq_eq_false_iff_ne]; exact hsp.1)
      obtain ⟨ov, uv, nv, qv, ol, ul, nl, ql, OWo, OWu, OWn, OWq, KN⟩ := hst
      clear hsp OWo OWu OWn OWq
      go_upto_region 8 with (first | (go_at_call 30; refine (par_ok KN).mono ?_; rw [HT0.out]; rintro e9 wx ⟨rfl, K2⟩; replace KN := K2; clear K2) | ((with_reducible refine wpList_gate ?_); first | ((refine gate_load (by rfl) ?_); first | (refine ks_load1 KN 67 Tryd.underlying67 ?_) | (refine ks_loadW KN 25 Tryd.underlying25 ?_) | (refine ks_load1 KN 26 Tryd.underlying26 ?_) | (refine ks_load1 KN 23 Tryd.underlying23 ?_) | (refine ks_load1 KN 69 Tryd.underlying69 ?_) | (refine ks_loadW KN 76 Tryd.underlying76 ?_) | (refine ks_load1 KN 3 Tryd.underlying3 ?_) | (refine ks_load1 KN 9 Tryd.underlying9 ?_) | (refine ks_loadW KN 35 Tryd.underlying35 ?_) | (refine ks_load1 KN 21 Tryd.underlying21 ?_)) | ((refine gate_store (by rfl) ?_); first | (refine ks_storeW KN 25 ?_; clear KN; intro wx KN) | (refine ks_storeA KN 25 ?_; clear KN; intro wx KN) | (refine ks_storeW KN 76 ?_; clear KN; intro wx KN) | (refine ks_storeA KN 76 ?_; clear KN; intro wx KN) | (refine ks_store1 KN 21 ?_; clear KN; intro wx KN)) | ((refine gate_new (by rfl) ?_); first | (refine ks_alloc KN 25 (q := 3) #[.int .i64 0, .int .i64 0] ?_; clear KN; intro g3 wx hg3 KN) | (refine ks_boxA KN 72 (q := 14) ?_; clear KN; intro g14 wx hg14 KN) | (refine wpList_built rfl 25 #[] rfl #[.int .i64 0, .int .i64 0] (by kernel_rfl) ?_) | (refine ks_alloc KN 76 (q := 8) #[.string ByteArray.empty, .int .i64 0, .int .i64 0] ?_; clear KN; intro g8 wx hg8 KN))))
      (try go_frame)
      replace KN := Kn.base K0.out KN
      replace KN := KN.drew
      refine wp_region_held_drew (S := (fun w' => BlkT w' gp (parC (.string s) tv s1) 74)) (by kernel_rfl) ?qghS (fun hHeld => ?qgrest)
      case qghS => exact KN.at_ (by repeat (first | exact Has.here | refine Has.there ?_))
      refine wpAnyH_take (i := 0) (oi := ⟨some 35, _, _, _, _, _⟩) (v := ?qgv0) rfl (by kernel_rfl) (by kernel_rfl) (by kernel_rfl) (fun _ _ _ h => h) (Or.inl ⟨by rfl, ?qghy0⟩) hHeld ?qgr0
      case qghy0 => (intro w hSw; (try dsimp only at hSw); go_simp; (try with_reducible rfl))
      (try simp only [Act.put, List.setIfInBounds_toArray, List.set_cons_zero, List.set_cons_succ])
      refine wpAnyH_take (i := 1) (oi := ⟨some 36, _, _, _, _, _⟩) (v := ?qgv1) rfl (by kernel_rfl) (by kernel_rfl) (by kernel_rfl) (fun _ _ _ h => h) (Or.inl ⟨by rfl, ?qghy1⟩) hHeld ?qgr1
      case qghy1 => (intro w hSw; (try dsimp only at hSw); go_simp; (try with_reducible rfl))
      (try simp only [Act.put, List.setIfInBounds_toArray, List.set_cons_zero, List.set_cons_succ])
      refine wpAnyH_take (i := 2) (oi := ⟨some 37, _, _, _, _, _⟩) (v := ?qgv2) rfl (by kernel_rfl) (by kernel_rfl) (by kernel_rfl) (fun _ _ _ h => h) (Or.inl ⟨by rfl, ?qghy2⟩) hHeld ?qgr2
      case qghy2 => (intro w hSw; (try dsimp only at hSw); go_simp; (try with_reducible rfl))
      (try simp only [Act.put, List.setIfInBounds_toArray, List.set_cons_zero, List.set_cons_succ])
      refine wpAnyH_take (i := 3) (oi := ⟨some 38, _, _, _, _, _⟩) (v := (.agg #[.int .i64 s1.p.1, .int .i64 s1.p.2])) rfl (by kernel_rfl) (by kernel_rfl) (by kernel_rfl) (fun _ _ _ h => h) (kn_yieldsN (by rfl) 25 _ rfl gp 3 rfl _ 74 (fun _ h => h) #[.int .i64 s1.p.1, .int .i64 s1.p.2] rfl _ Tryd.underlying25 rfl (by kernel_rfl)) hHeld ?qgr3
      (try simp only [Act.put, List.setIfInBounds_toArray, List.set_cons_zero, List.set_cons_succ])
      refine wpAnyH_take (i := 4) (oi := ⟨some 39, _, _, _, _, _⟩) (v := ?qgv4) rfl (by kernel_rfl) (by kernel_rfl) (by kernel_rfl) (fun _ _ _ h => h) (Or.inl ⟨by rfl, ?qghy4⟩) hHeld ?qgr4
      case qghy4 => (intro w hSw; (try dsimp only at hSw); go_simp; (try with_reducible rfl))
      (try simp only [Act.put, List.setIfInBounds_toArray, List.set_cons_zero, List.set_cons_succ])
      refine wpAnyH_take (i := 5) (oi := ⟨some 40, _, _, _, _, _⟩) (v := ?qgv5) rfl (by kernel_rfl) (by kernel_rfl) (by kernel_rfl) (fun _ _ _ h => h) (Or.inl ⟨by rfl, ?qghy5⟩) hHeld ?qgr5
      case qghy5 => (intro w hSw; (try dsimp only at hSw); go_simp; (try with_reducible rfl))
      (try simp only [Act.put, List.setIfInBounds_toArray, List.set_cons_zero, List.set_cons_succ])
      refine wpAnyH_take (i := 6) (oi := ⟨some 41, _, _, _, _, _⟩) (v := ?qgv6) rfl (by kernel_rfl) (by kernel_rfl) (by kernel_rfl) (fun _ _ _ h => h) (Or.inl ⟨by rfl, ?qghy6⟩) hHeld ?qgr6
      case qghy6 => (intro w hSw; (try dsimp only at hSw); go_simp; (try with_reducible rfl))
      (try simp only [Act.put, List.setIfInBounds_toArray, List.set_cons_zero, List.set_cons_succ])
      refine wpAnyH_take (i := 7) (oi := ⟨some 42, _, _, _, _, _⟩) (v := (.int .i64 s1.er)) rfl (by kernel_rfl) (by kernel_rfl) (by kernel_rfl) (fun _ _ _ h => h) (kn_yields1 (by rfl) 26 _ rfl gp 5 rfl _ 74 (fun _ h => h) _ rfl _ Tryd.underlying26 rfl) hHeld ?qgr7
      (try simp only [Act.put, List.setIfInBounds_toArray, List.set_cons_zero, List.set_cons_succ])
      refine wpAnyH_take (i := 8) (oi := ⟨some 2, _, _, _, _, _⟩) (v := ?qgv8) rfl (by kernel_rfl) (by kernel_rfl) (by kernel_rfl) (fun _ _ _ h => h) (Or.inl ⟨by rfl, ?qghy8⟩) hHeld ?qgr8
      case qghy8 => (intro w hSw; (try dsimp only at hSw); go_simp; (try with_reducible rfl))
      (try simp only [Act.put, List.setIfInBounds_toArray, List.set_cons_zero, List.set_cons_succ])
      refine wpAnyH_ready (rs := [9]) (by kernel_rfl) (by simp) ?qgc9
      refine AllReadyH.cons (o := ⟨none, _, _, _, _, _⟩) rfl (fun K hK => ?qgst9) AllReadyH.nil
      (rw [if_pos (by rfl)]; refine wp_kn_storeW KN 25 _ _ rfl _ rfl #[.int .i64 s1.p.1, .int .i64 s1.p.2] rfl _ _ (by repeat (first | exact Repl.here | apply Repl.there)) (by kernel_rfl) (by kernel_rfl) (by kernel_rfl) ?_; clear KN; intro wx KN)
      refine hK.out _ _ ?qgk9 (fun hHeld2 => ?qgm9)
      case qgk9 => exact KN.at_ (by repeat (first | exact Has.here | refine Has.there ?_))
      clear hK K hHeld
      have hHeld := hHeld2; clear hHeld2
      (try simp only [Act.put, List.setIfInBounds_toArray, List.set_cons_zero, List.set_cons_succ])
      refine wpAnyH_take (i := 10) (oi := ⟨some 4, _, _, _, _, _⟩) (v := ?qgv10) rfl (by kernel_rfl) (by kernel_rfl) (by kernel_rfl) (fun _ _ _ h => h) (Or.inl ⟨by rfl, ?qghy10⟩) hHeld ?qgr10
      case qghy10 => (intro w hSw; (try dsimp only at hSw); go_simp; (try with_reducible rfl))
      (try simp only [Act.put, List.setIfInBounds_toArray, List.set_cons_zero, List.set_cons_succ])
      refine wpAnyH_done (by kernel_rfl) ?qgdone _
      go_wp2_with fail
      refine bodyPost_ret (results_tct rfl _ _ g3 #[.int .i64 s1.p.1, .int .i64 s1.p.2] (.int .i64 s1.er) (.slice none 0 0) rfl rfl (run_loadVar_row _ g3 _ _ _ (0, 0) _ (KN.at_ (by repeat (first | exact Has.here | refine Has.there ?_))) Tryd.underlying25 rfl (by kernel_rfl)) rfl) rfl ?_
      exact HOUT.out _ _ ⟨.slice none 0 0, [], by rw [HSP.out.2], by rw [HSP.out.2]; exact .nil, KN.frame0⟩
end Go.Proofs.YtemigcdieghkfaaDoor
