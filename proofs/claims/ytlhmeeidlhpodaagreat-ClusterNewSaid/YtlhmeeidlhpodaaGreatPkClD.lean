/- Merged: CEq, CAwake. -/
import Derived.Test.YtlhmeeidlhpodaaGreatPkEngH
import Derived.Test.YtlhmeeidlhpodaaGreatPkJoinA
import Derived.Laws.BytesString
import Derived.Test.YtlhmeeidlhpodaaGreatProg
set_option linter.unusedVariables false
set_option linter.unusedSimpArgs false
set_option linter.unusedSectionVars false
namespace Go.Proofs.YtlhmeeidlhpodaaGreat
section
open Go Go.RowKit Go.BigFrame
def bsOf (ns : List Int) : ByteArray := ns.foldl (fun r n => r.push (UInt8.ofNat n.toNat)) ByteArray.empty
set_option maxRecDepth 100000 in
theorem Equal_any {w : World} {a b : Option Addr} {n m c d : Nat} {s : ByteArray} (h1 : (Conv.bytesToString (.slice a n c)).run Tryz.prog w = .ok (.string s) w) (h2 : (Conv.bytesToString (.slice b m d)).run Tryz.prog w = .ok (.string s) w) :
    Calls Tryz.prog 75 #[.slice a n c, .slice b m d] w fun e w' => e = .returned (.bool true) ∧ w = w' := by
  have e1 : Sem.run Tryz.prog (convert 84 9 (.slice a n c)) w = .ok (.string s) w := (run_convert_bytes_string w _ _ _ a n c Tryz.underlying84 Tryz.underlying5 Tryz.underlying9).trans h1
  have e2 : Sem.run Tryz.prog (convert 84 9 (.slice b m d)) w = .ok (.string s) w := (run_convert_bytes_string w _ _ _ b m d Tryz.underlying84 Tryz.underlying5 Tryz.underlying9).trans h2
  have hs : (s == s) = true := by first | exact beq_self_eq_true s | (show (s.data == s.data) = true; simp) | (unfold BEq.beq; simp [ByteArray.beq]) | decide
  clear h1 h2
  go_enter Tryz.func75, Tryz.ntmps75
  go_wp2
  go_ret
  exact ⟨rfl, rfl⟩
def u8V : Value → Option Int
  | .int .u8 z => some z
  | _ => none
def u8sV : List Value → Option (List Int)
  | [] => some []
  | v :: l => match u8V v, u8sV l with
    | some z, some r => some (z :: r)
    | _, _ => none
theorem u8V_eq {v : Value} {z : Int} (h : u8V v = some z) : v = .int .u8 z := by
  unfold u8V at h
  split at h
  · cases h; rfl
  · cases h
theorem u8sV_eq : ∀ {l : List Value} {zs : List Int}, u8sV l = some zs → l = zs.map (Value.int .u8)
  | [], zs, h => by cases h; rfl
  | v :: l, zs, h => by
    have h : (match u8V v, u8sV l with | some z, some r => some (z :: r) | _, _ => none) = some zs := h
    split at h
    · rename_i z r h1 h2
      cases h
      rw [u8V_eq h1, u8sV_eq h2]; rfl
    · cases h
theorem u8s_real {ρ : Names} {zs : List Int} {vs : List Value} (h : LR ρ (zs.map (Value.int .u8)) vs) : vs = zs.map (Value.int .u8) := by
  apply List.ext_getElem?
  intro i
  cases hi : vs[i]? with
  | none =>
    rw [List.getElem?_eq_none_iff] at hi
    symm
    rw [List.getElem?_eq_none_iff, h.1]; exact hi
  | some y =>
    cases hx : (zs.map (Value.int .u8))[i]? with
    | none =>
      rw [List.getElem?_eq_none_iff, h.1] at hx
      have := (List.getElem?_eq_some_iff.1 hi).1
      omega
    | some x =>
      have hr := h.2 i x y hx hi
      rw [List.getElem?_map] at hx
      cases hz : zs[i]? with
      | none => rw [hz] at hx; cases hx
      | some z =>
        rw [hz] at hx
        cases hx
        rw [hr.plain_eq rfl]
noncomputable def bytesAt (st : St) (v : Value) : Option (List Int) := match v with
  | .slice none 0 _ => some []
  | .slice (some ⟨k, o, none⟩) n _ => match readO o n (findO k st.H) with
    | some cs => u8sV cs
    | none => none
  | _ => none
theorem bytesAt_real {W w : World} {R : Nat → Prop} {ρ : Names} {st : St} {l : Ents} (hs : Sim W R w ρ st l) {v v' : Value} {ns : List Int} (h : bytesAt st v = some ns) (hr : VR ρ v v') : ∃ a n c, v' = .slice a n c ∧ (Conv.bytesToString v').run Tryz.prog w = .ok (.string (bsOf ns)) w := by
  unfold bytesAt at h
  split at h
  · cases h
    cases hr
    exact ⟨_, _, _, rfl, rfl⟩
  · rename_i k o n c
    split at h
    · rename_i cs hread
      have e := u8sV_eq h
      subst e
      cases hr with
      | @slice _ _ o' g _ _ c' q hk hoff hn hm he ho =>
        obtain ⟨ds, hl, hlen, _, hcell⟩ := hs.read hk hread
        have hds := u8s_real hl
        subst hds
        refine ⟨_, _, _, rfl, run_bytesToString w ⟨g, o', none⟩ n c' ns ?_⟩
        rcases Nat.eq_zero_or_pos n with h0 | h0
        · subst h0
          have : ns = [] := by simpa using hlen
          subst this
          rfl
        · rw [hoff (.inl h0)]
          have := run_loadCells (P := Tryz.prog) (g := g) (o := o) (w := w) (ns.map (Value.int .u8)) 0 #[] (fun j v hv => by rw [Nat.zero_add]; exact hcell j v hv)
          rw [hlen] at this
          simpa [loadCells] using this
    · cases h
  · cases h
def eqI (a b : List Int) : Bool := match a, b with
  | [], [] => true
  | .ofNat x :: a, .ofNat y :: b => Nat.beq x y && eqI a b
  | _, _ => false
theorem eqI_eq : ∀ {a b : List Int}, eqI a b = true → a = b
  | [], [], _ => rfl
  | .ofNat x :: a, .ofNat y :: b, h => by
    unfold eqI at h
    rw [Bool.and_eq_true] at h
    rw [Nat.eq_of_beq_eq_true h.1, eqI_eq h.2]
  | .negSucc _ :: _, _, h => by unfold eqI at h; cases h
  | [], _ :: _, h => by unfold eqI at h; cases h
  | .ofNat _ :: _, [], h => by unfold eqI at h; cases h
  | .ofNat _ :: _, .negSucc _ :: _, h => by unfold eqI at h; cases h
noncomputable def equalC : FnC := fun _ args st k => match args with
  | [x, y] => match bytesAt st x.toV, bytesAt st y.toV with
    | some a, some b => cond (eqI a b) (k (.sc (.bool true)) st) false
    | _, _ => false
  | _ => false
theorem equalC_ok {G : Nat} : FnOk Tryz.prog G 75 equalC := by
  intro F args st k hF h
  unfold equalC at h
  split at h
  · rename_i x y
    split at h
    · rename_i a b ha hb
      cases he : eqI a b with
      | false => rw [he] at h; cases h
      | true =>
        rw [he] at h
        have hab := eqI_eq he
        subst hab
        refine ⟨_, st, h, fun W R ρ args' w l hl _ hs => ?_⟩
        have hlen := hl.1
        have hsz : args'.size = 2 := by simpa using hlen.symm
        obtain ⟨u, v, huv⟩ : ∃ u v, args' = #[u, v] := ⟨args'[0], args'[1], by
          apply Array.ext
          · simpa using hsz
          · intro i h1 h2
            match i with
            | 0 => rfl
            | 1 => rfl
            | n + 2 => omega⟩
        subst huv
        have hx : VR ρ x.toV u := hl.2 0 _ _ rfl rfl
        have hy : VR ρ y.toV v := hl.2 1 _ _ rfl rfl
        obtain ⟨_, _, _, rfl, h1⟩ := bytesAt_real hs ha hx
        obtain ⟨_, _, _, rfl, h2⟩ := bytesAt_real hs hb hy
        refine Calls.mono (Equal_any h1 h2) fun e w' hh => ?_
        obtain ⟨rfl, rfl⟩ := hh
        exact ⟨ρ, _, l, rfl, .refl _, .bool true, hs⟩
    · cases h
  · cases h
end
section
open Go Go.RowKit Go.BigFrame
set_option maxRecDepth 100000
theorem hN : NoNum Tryz.prog := noNum_of (by kernel_rfl)
theorem hmix : Tryz.prog.follows .mixedOrders = true := by kernel_rfl
noncomputable def hkA : FuncId → Option FnC := fun f => cond (Nat.beq f 75) (some equalC) none
theorem hkA_ok : ∀ f h, hkA f = some h → FnOk Tryz.prog 0 f h := fun f h hh => by
  unfold hkA at hh
  cases hb : Nat.beq f 75 with
  | false => rw [hb] at hh; cases hh
  | true =>
    rw [hb] at hh
    cases hh
    rw [Nat.eq_of_beq_eq_true hb]
    exact equalC_ok
noncomputable def runA : Fns := runF Tryz.prog hN 0 3000 hkA 60
theorem awake_run : runA 4 [] st0 isTrue = true := by kernel_rfl
theorem awake28 (w : World) : Calls Tryz.prog 4 #[] w fun e w' => e = .returned (.bool true) ∧ Below w.heap.size w w' :=
  calls_true (runF_ok hN hmix hkA_ok 60) awake_run w
end
end Go.Proofs.YtlhmeeidlhpodaaGreat
