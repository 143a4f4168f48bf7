/- Merged: Bin4, Enc. -/
import Derived.Test.YtemigcdieghkfaaDoorPkKnAll
import Derived.Test.YtemigcdieghkfaaDoorPkScanAB
import Derived.Test.YtemigcdieghkfaaDoorPkRead
import Derived.Lib.Hide
import Derived.StillTailTactics
import Derived.BigQuiet
import Derived.Laws.Bits64b
import Derived.Laws.CopyOwn
import Derived.Deep.Cut
import Derived.Test.YtemigcdieghkfaaDoorPkValidG
set_option linter.unusedVariables false
set_option linter.unusedSimpArgs false
set_option linter.unusedSectionVars false
namespace Go.Proofs.YtemigcdieghkfaaDoor
section
open Go.RowKit Go.BigFrame

/-- Four bytes, the first k of them written. -/
def fixC (v : Int) (k : Nat) : Array Value := #[.int .u8 (if 0 < k then v % 256 else 0), .int .u8 (if 1 < k then v / 256 % 256 else 0), .int .u8 (if 2 < k then v / 65536 % 256 else 0), .int .u8 (if 3 < k then v / 16777216 % 256 else 0)]
set_option maxRecDepth 100000 in
set_option maxHeartbeats 4000000 in
theorem fixed4_nil (v : Int) (h0 : 0 ≤ v) (h1 : v < 18446744073709551616) (w : World) :
    Calls Tryd.prog 77 #[.slice none 0 0, .int .u64 v, .int .i64 4] w fun e w' => ∃ g, e = .returned (.slice (some ⟨g, 0, none⟩) 4 4) ∧ Kn [] w w' [(g, At (fixC v 4) 5)] := by
  have KN := Kn.start w
  go_enter Tryd.func77, Tryd.ntmps77
  go_wp2_with (first | ((with_reducible refine wpList_gate ?_); first | (refine wpList_kn_make KN rfl 36 _ _ rfl 5 1 1 rfl (by kernel_rfl) 4 4 .i64 .i64 rfl rfl (by omega) (by decide) (by decide) ?_; clear KN; intro g wx cs hg hcs KN; obtain rfl : cs = fixC v 0 := hcs.trans (by kernel_rfl)) | (refine wpList_copy_nothing rfl _ _ 36 36 rfl 5 Tryd.underlying36 (by kernel_rfl) _ _ _ _ _ _ rfl rfl rfl ?_) | ((refine gate_store (by rfl) ?_); first | (refine ks_store1 KN 5 ?_; clear KN; intro wx KN))))
  clear hg hcs
  go_loopw [8] (fun s8 wr => ∃ k : Nat, k ≤ 4 ∧ s8 = .int .i64 k ∧ Kn [] w wr [(g, At (fixC v k) 5)]) (fun s8 _ => 4 - (intOf s8).toNat)
  case atStart => exact ⟨0, by omega, rfl, KN⟩
  case round =>
    clear KN
    obtain ⟨k, hk, rfl, KN⟩ := hrel
    obtain rfl | rfl | rfl | rfl | rfl : k = 0 ∨ k = 1 ∨ k = 2 ∨ k = 3 ∨ k = 4 := by omega
    · go_wp2_with (first | ((with_reducible refine wpList_gate ?_); first | ((refine gate_store (by rfl) ?_); first | (refine ks_store1 KN 5 ?_; clear KN; intro wx KN))))
      go_roundw
      case rel => exact ⟨1, by omega, rfl, KN.as_ g (fixC v 1) (by repeat (first | exact Repl.here | apply Repl.there)) (by rfl)⟩
      case measure => simp [intOf]
    · go_wp2_with (first | ((with_reducible refine wpList_gate ?_); first | ((refine gate_store (by rfl) ?_); first | (refine ks_store1 KN 5 ?_; clear KN; intro wx KN))))
      go_roundw
      case rel => exact ⟨2, by omega, rfl, KN.as_ g (fixC v 2) (by repeat (first | exact Repl.here | apply Repl.there)) (by rfl)⟩
      case measure => simp [intOf]
    · go_wp2_with (first | ((with_reducible refine wpList_gate ?_); first | ((refine gate_store (by rfl) ?_); first | (refine ks_store1 KN 5 ?_; clear KN; intro wx KN))))
      go_roundw
      case rel => exact ⟨3, by omega, rfl, KN.as_ g (fixC v 3) (by repeat (first | exact Repl.here | apply Repl.there)) (by rfl)⟩
      case measure => simp [intOf]
    · go_wp2_with (first | ((with_reducible refine wpList_gate ?_); first | ((refine gate_store (by rfl) ?_); first | (refine ks_store1 KN 5 ?_; clear KN; intro wx KN))))
      go_roundw
      case rel => exact ⟨4, by omega, rfl, KN.as_ g (fixC v 4) (by repeat (first | exact Repl.here | apply Repl.there)) (by rfl)⟩
      case measure => simp [intOf]
    · go_wp2_with (first | ((with_reducible refine wpList_gate ?_); first | ((refine gate_store (by rfl) ?_); first | (refine ks_store1 KN 5 ?_; clear KN; intro wx KN))))
      go_ret
      exact ⟨g, rfl, KN⟩
set_option maxRecDepth 100000 in
theorem u32_nil (v : Int) (h0 : 0 ≤ v) (h1 : v < 4294967296) (w : World) :
    Calls Tryd.prog 39 #[.slice none 0 0, .int .u32 v] w fun e w' => ∃ g, e = .returned (.slice (some ⟨g, 0, none⟩) 4 4) ∧ Kn [] w w' [(g, At (fixC v 4) 5)] := by
  go_enter Tryd.func39, Tryd.ntmps39
  have hw : IntKind.u64.wrap v = v := by rw [IntKind.wrap_u64]; omega
  go_wp2_with fail
  refine (fixed4_nil v h0 (by omega) _).mono ?_
  rintro e w' ⟨g, rfl, KN⟩
  go_wp2_with fail
  go_ret
  exact ⟨g, rfl, KN⟩
/-- A slice of these bytes. -/
def U8s (w : World) (v : Value) (xs : List Int) : Prop := Row w v 1 (xs.map fun x => [Value.int .u8 x]) ∧ ∀ x ∈ xs, 0 ≤ x ∧ x ≤ 255
theorem U8s.below {w w' : World} {v : Value} {xs : List Int} (h : U8s w v xs) (hb : Below w.heap.size w w') : U8s w' v xs := ⟨h.1.below hb, h.2⟩
theorem U8s.form {w : World} {v : Value} {xs : List Int} (h : U8s w v xs) : ∃ a c, v = .slice a xs.length c ∧ xs.length ≤ maxLen ∧ ∀ (k : Nat) (x : Int), xs[k]? = some x → ∃ g off, a = some ⟨g, off, none⟩ ∧ g < w.heap.size ∧ xs.length ≤ c ∧ c ≤ maxLen ∧ w.cell? ⟨g, off + k, none⟩ = some (.int .u8 x) := by
  have hml := h.1.1
  simp only [List.length_map] at hml
  rcases h.1.2 with ⟨hL, a, c, rfl⟩ | ⟨g, off, cap, rfl, hl0, hlc, hcm, hg, hc⟩
  · have hL : xs = [] := by simpa using hL
    subst hL
    exact ⟨a, c, rfl, by simp, fun k x hk => by simp at hk⟩
  · simp only [List.length_map] at hl0 hlc hc ⊢
    refine ⟨_, cap, rfl, by omega, fun k x hk => ⟨g, off, rfl, hg, hlc, hcm, ?_⟩⟩
    have := hc k [.int .u8 x] 0 (.int .u8 x) (by rw [List.getElem?_map, hk]; rfl) rfl
    simpa using this
end
section
open Go.RowKit Go.BigFrame

def fixL (v : Int) : List Int := [v % 256, v / 256 % 256, v / 65536 % 256, v / 16777216 % 256]
/-- The bytes of an instruction. -/
def encI (x : Ins) : List Int := [x.op % 256, x.a % 256, x.b % 256, x.c % 256] ++ fixL (x.imm % 4294967296)
def encP (p : List Ins) : List Int := p.flatMap encI
def encR (p : List Ins) : List Int := if progErr p = 0 then encP p else []
def u8C (zs : List Int) : List (List Value) := zs.map fun z => [.int .u8 z]
theorem encP_len : ∀ p : List Ins, (encP p).length = 8 * p.length
  | [] => rfl
  | x :: p => by
    show (encI x ++ encP p).length = _
    rw [List.length_append, encP_len p]
    show 8 + 8 * p.length = 8 * (p.length + 1)
    omega
theorem encP_take {p : List Ins} {k : Nat} {x : Ins} (h : p[k]? = some x) : encP (p.take (k + 1)) = encP (p.take k) ++ encI x := by
  rw [List.take_add_one, h]
  simp [encP]
theorem u8C_flat : ∀ zs : List Int, (u8C zs).flatten = zs.map (Value.int .u8)
  | [] => rfl
  | z :: zs => by
    show [Value.int .u8 z] ++ (u8C zs).flatten = _
    rw [u8C_flat zs]; rfl
theorem u8C_one (zs : List Int) : ∀ u ∈ (u8C zs).flatten, u.oneCell' = true := by
  intro u hu
  rw [u8C_flat] at hu
  obtain ⟨z, _, rfl⟩ := List.mem_map.1 hu
  rfl
theorem u8C_sz (zs : List Int) : ∀ c ∈ u8C zs, c.length = 1 := by
  intro c hc
  simp [u8C] at hc
  obtain ⟨z, _, rfl⟩ := hc
  rfl
theorem Kn.src8 {M : List Nat} {W w : World} {l : Ents} (KN : Kn M W w l) {g : Nat} {cs : Array Value} {T : TypeId} (m : Has l g (At cs T)) (zs : List Int) (e : cs = (zs.map (Value.int .u8)).toArray) : ∀ j u, (u8C zs).flatten[j]? = some u → w.cell? ⟨g, 0 + j, none⟩ = some u := fun j u h => by
  subst e
  rw [u8C_flat] at h
  rw [Nat.zero_add]
  exact KN.cell m (by simpa using h)
theorem u8C_app (a b : List Int) : u8C (a ++ b) = u8C a ++ u8C b := by simp [u8C]
theorem u8C_len (a : List Int) : (u8C a).length = a.length := by simp [u8C]
theorem progErr_len {p : List Ins} (h : progErr p = 0) : 1 ≤ p.length ∧ p.length ≤ 4096 := by
  unfold progErr at h
  split at h
  · cases h
  · omega
def EncPost (p : List Ins) (w : World) (e : Ending) (w' : World) : Prop := ∃ v ol, e = .returned (.tuple #[v, .int .i64 (progErr p)]) ∧ OwnT 5 1 v (u8C (encR p)) ol ∧ Kn [] w w' ol
def EncRel (p : List Ins) (n : Nat) (w : World) (v i : Value) (wr : World) : Prop := ∃ (k : Nat) (ol : Ents), i = .int .i64 (k : Int) ∧ k ≤ n ∧ OwnT 5 1 v (u8C (encP (p.take k))) ol ∧ Kn [] w wr ol
set_option maxRecDepth 100000 in
set_option maxHeartbeats 40000000 in
theorem Encode_any (va : Value) (p : List Ins) (w : World) (h : Instrs w va p) : Calls Tryd.prog 13 #[va] w (EncPost p w) := by
  obtain ⟨a, c, rfl, _⟩ := h.form
  have H := Lib.hid h
  obtain ⟨n, hn⟩ : ∃ n, n = p.length := ⟨_, rfl⟩
  obtain ⟨er, her⟩ : ∃ er, er = progErr p := ⟨_, rfl⟩
  have HN := Lib.hid hn
  have HE := Lib.hid her
  rw [← hn]
  have KN := Kn.start w
  by_cases h0 : er = 0
  · subst h0
    have hb := progErr_len her.symm
    rw [← hn] at hb
    obtain ⟨hb0, hb1⟩ := hb
    clear h hn her
    go_enter Tryd.func13, Tryd.ntmps13
    go_wp2_with (first | (go_at_call 14; refine (Validate_any _ p _ (by rw [HN.out]; exact H.out)).mono ?_; rintro e wx ⟨rfl, hb⟩; rw [← HE.out]; replace KN := KN.below hb; clear hb) | ((with_reducible refine wpList_gate ?_); first | (refine wpList_kn_make KN rfl 36 (.const (.int .i64 0)) (.tmp 15) rfl 5 1 1 Tryd.underlying36 (by kernel_rfl) 0 (8 * n) .i64 .i64 rfl (by show Value.int .i64 _ = _; exact congrArg (Value.int .i64) (by omega)) (by omega) (by omega) (by unfold maxLen; omega) ?_; clear KN; intro g wx cs hg hcs KN) | ((refine gate_load (by rfl) ?_); first | (refine ks_loadW KN 35 Tryd.underlying35 ?_) | (refine ks_load1 KN 3 Tryd.underlying3 ?_) | (refine ks_load1 KN 21 Tryd.underlying21 ?_)) | ((refine gate_store (by rfl) ?_); first | (refine ks_storeW KN 35 ?_; clear KN; intro wx KN) | (refine ks_storeA KN 35 ?_; clear KN; intro wx KN)) | ((refine gate_new (by rfl) ?_); first | (refine ks_alloc KN 35 (q := 7) #[.int .i64 0, .int .i64 0, .int .i64 0, .int .i64 0, .int .i32 0] ?_; clear KN; intro g7 wx hg7 KN))))
    have hcs2 : cs.size = 8 * n := by rw [hcs, Nat.mul_one, size_madeCells]
    replace KN := KN.weak (g := g) (Φ := At cs 5) (Φ' := CapAt 5 1 (8 * n) []) (l' := [(g, CapAt 5 1 (8 * n) [])]) (by rintro o rfl; exact ⟨cs, rfl, by omega, by simp⟩) Repl.here
    have OW : OwnT 5 1 (.slice (some ⟨g, 0, none⟩) 0 (8 * n)) (u8C (encP (p.take 0))) [(g, CapAt 5 1 (8 * n) [])] := .blk (L := []) (Nat.zero_le _) (by unfold maxLen; omega) (by simp)
    have HREL : Hid (EncRel p n w (.slice (some ⟨g, 0, none⟩) 0 (8 * n)) (.int .i64 0) wx) := Lib.hid ⟨0, _, rfl, Nat.zero_le _, OW, KN⟩
    clear KN OW hcs hcs2 hg
    go_loopw [5, 19] (fun v i wr => EncRel p n w v i wr) (fun _ i _ => n - (intOf i).toNat)
    case atStart => exact HREL.out
    case round =>
      obtain ⟨k, ol, rfl, hk, OW, KN⟩ := hrel
      by_cases hlt : k < n
      · obtain ⟨x, hx⟩ : ∃ x, p[k]? = some x := ⟨_, List.getElem?_eq_getElem (by rw [← HN.out]; exact hlt)⟩
        obtain ⟨a', c', hv, hcells⟩ := (H.out.below KN.toBelow).form
        simp only [Value.slice.injEq] at hv
        obtain ⟨g2, off, hg2, hgb, hc1, hc2, x0, x1, x2, x3, x4⟩ := hcells k x hx
        obtain ⟨rfl, _, rfl⟩ := hv
        subst hg2
        have hfit := (H.out.2 x (List.mem_of_getElem? hx)).1
        have hol : (u8C (encP (p.take k))).length = 8 * k := by rw [u8C_len, encP_len, List.length_take, ← HN.out]; omega
        obtain ⟨ov, oc, hov⟩ := OW.form
        rw [hol] at hov
        subst hov
        have HO := Lib.hid OW
        have HOL := Lib.hid hol
        have HX := Lib.hid hx
        clear OW hol hx hcells hc1
        unfold maxLen at hc2
        go_wp2_with (first | (go_at_call 39; refine (u32_nil (x.imm % 4294967296) (by omega) (by omega) _).mono ?_; rintro e wx ⟨gq, rfl, K2⟩; replace KN := KN.call0 K2; clear K2; simp only [List.cons_append, List.nil_append] at KN) | ((with_reducible refine wpList_gate ?_); first | (refine wpList_kn_lit KN rfl 36 5 4 _ rfl 36 rfl Tryd.underlying36 #[.int .u8 (x.op % 256), .int .u8 (x.a % 256), .int .u8 (x.b % 256), .int .u8 (x.c % 256)] (by kernel_rfl) ?_; clear KN; intro g36 wx hg36 KN) | (at_builtin; (refine wpList_kn_appendN (f := fun o => _ :: _ :: o) KN HO.out (by rfl) (.tmp 23) (.tmp 36) 36 rfl 1 Tryd.underlying36 (by kernel_rfl) (by decide) rfl g36 0 4 4 rfl (u8C [x.op % 256, x.a % 256, x.b % 256, x.c % 256]) rfl (u8C_sz _) (by exact KN.src8 (by repeat (first | exact Has.here | refine Has.there ?_)) _ rfl) (u8C_one _) (by rw [HOL.out]; unfold maxLen; omega) (by rw [HOL.out]; omega) (by repeat (first | exact TailF.id | apply TailF.cons)) rfl ?_); clear KN; intro v1 wx ol1 OW1 KN; obtain ⟨va1, vc1, hv1⟩ := OW1.form; rw [List.length_append, HOL.out, show (u8C [x.op % 256, x.a % 256, x.b % 256, x.c % 256]).length = 4 from rfl] at hv1; subst hv1; have HO1 := Lib.hid OW1; clear OW1) | (at_builtin; (refine wpList_kn_appendN (f := fun o => _ :: _ :: _ :: o) KN HO1.out (by rfl) (.tmp 38) (.tmp 42) 36 rfl 1 Tryd.underlying36 (by kernel_rfl) (by decide) rfl gq 0 4 4 rfl (u8C (fixL (x.imm % 4294967296))) rfl (u8C_sz _) (by exact KN.src8 (by repeat (first | exact Has.here | refine Has.there ?_)) _ rfl) (u8C_one _) (by rw [List.length_append, HOL.out]; unfold maxLen; show 8 * k + 4 + 4 ≤ _; omega) (by rw [List.length_append, HOL.out]; show (8 * k + 4 + 4) * 1 ≤ _; omega) (by repeat (first | exact TailF.id | apply TailF.cons)) rfl ?_); clear KN; intro v2 wx ol2 OW2 KN) | ((refine gate_load (by rfl) ?_); first | (refine ks_loadW KN 35 Tryd.underlying35 ?_) | (refine ks_load1 KN 3 Tryd.underlying3 ?_) | (refine ks_load1 KN 21 Tryd.underlying21 ?_)) | ((refine gate_store (by rfl) ?_); first | (refine ks_storeW KN 35 ?_; clear KN; intro wx KN) | (refine ks_storeA KN 35 ?_; clear KN; intro wx KN)) | ((refine gate_new (by rfl) ?_); first | (refine ks_alloc KN 35 (q := 7) #[.int .i64 0, .int .i64 0, .int .i64 0, .int .i64 0, .int .i32 0] ?_; clear KN; intro g7 wx hg7 KN))))
        go_roundw
        case rel =>
          refine ⟨k + 1, ol2, by go_num, by omega, ?_, KN.sub ((((List.Sublist.refl _).cons _).cons _).cons _)⟩
          rw [encP_take HX.out]
          show OwnT 5 1 v2 (u8C (encP (p.take k) ++ ([x.op % 256, x.a % 256, x.b % 256, x.c % 256] ++ fixL (x.imm % 4294967296)))) ol2
          rw [← List.append_assoc, u8C_app, u8C_app]
          exact OW2
        case measure => simp [intOf]; omega
      · have hkn : k = n := by omega
        rw [List.take_of_length_le (show p.length ≤ k by rw [← HN.out]; omega)] at OW
        have HO := Lib.hid OW
        clear OW
        go_wp2_with fail
        refine bodyPost_ret (results_tmp2 rfl _ _ _) rfl ?_
        refine ⟨_, ol, by rw [← HE.out]; rfl, ?_, KN⟩
        unfold encR
        rw [if_pos HE.out.symm]
        exact HO.out
  · have hb : (er != 0) = true := by rw [bne_iff_ne]; exact h0
    have H0 := Lib.hid h0
    clear h hn her h0
    go_enter Tryd.func13, Tryd.ntmps13
    go_wp2_with (first | (go_at_call 14; refine (Validate_any _ p _ (by rw [HN.out]; exact H.out)).mono ?_; rintro e wx ⟨rfl, hb2⟩; rw [← HE.out]; replace KN := KN.below hb2; clear hb2) | ((with_reducible refine wpList_gate ?_); first | ((refine gate_load (by rfl) ?_); first | (refine ks_loadW KN 35 Tryd.underlying35 ?_) | (refine ks_load1 KN 3 Tryd.underlying3 ?_) | (refine ks_load1 KN 21 Tryd.underlying21 ?_)) | ((refine gate_store (by rfl) ?_); first | (refine ks_storeW KN 35 ?_; clear KN; intro wx KN) | (refine ks_storeA KN 35 ?_; clear KN; intro wx KN)) | ((refine gate_new (by rfl) ?_); first | (refine ks_alloc KN 35 (q := 7) #[.int .i64 0, .int .i64 0, .int .i64 0, .int .i64 0, .int .i32 0] ?_; clear KN; intro g7 wx hg7 KN))))
    refine bodyPost_ret (results_tmp2 rfl _ _ _) rfl ?_
    refine ⟨_, [], by rw [← HE.out]; rfl, ?_, KN⟩
    unfold encR
    rw [if_neg (by rw [← HE.out]; exact H0.out)]
    exact .nil
end
end Go.Proofs.YtemigcdieghkfaaDoor
