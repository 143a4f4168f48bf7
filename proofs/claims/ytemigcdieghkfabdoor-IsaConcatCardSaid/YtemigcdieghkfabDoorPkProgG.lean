/- Merged: NextK, InstrK, ProgK, IntsForm. -/
import Derived.Test.YtemigcdieghkfabDoorPkRefG
import Derived.Deep.RegionHeld3
import Derived.Deep.DrawnRows
import Derived.Deep.DeepCutAuto
import Derived.Deep.RegionWith
import Derived.Test.YtemigcdieghkfabDoorPkNext
import Derived.Test.YtemigcdieghkfabDoorPkKnAll
import Derived.Deep.Cut
set_option linter.unusedVariables false
set_option linter.unusedSimpArgs false
set_option linter.unusedSectionVars false
namespace Go.Proofs.YtemigcdieghkfabDoor
section
open Go.RowKit

/-! ### Next, over known blocks -/
abbrev numA (va : Value) (k : Nat) : Array Value := #[va, .int .i64 (k : Int)]
theorem Next_knx {M : List Nat} {W w : World} {l l' : Ents} (KN : Kn M W w l) (b k : Nat) (va : Value) (zs : List Int) (n : Int) (hz : Ints w va zs)
    (rp : Repl l b (At (numA va k) 55) (At (numA va (k + 1)) 55) l') (hk : k ≤ 1000000) (hn : 1 ≤ n) (hn2 : n ≤ 1073741824) :
    Calls Tryd.prog 18 #[.pointer (some ⟨b, 0, none⟩), .int .i64 n] w fun e w' => e = .returned (.int .i64 (nextV zs k % n)) ∧ Kn M W w' l' := by
  have hb := KN.at_ rp.has
  refine (Next_any b k va zs n w (blk_cell hb 0) (blk_cell hb 1) (blk_free hb 1) hz hk hn hn2).mono ?_
  rintro e w' ⟨rfl, nq, rfl⟩
  refine ⟨rfl, Kn.drewN ?_ nq⟩
  exact KN.setCells (g := b) 1 [.int .i64 ((k + 1 : Nat) : Int)] rp
theorem Ints.slice {w : World} {v : Value} {zs : List Int} (h : Ints w v zs) : ∃ a n c, v = .slice a n c := by
  rcases h.1.2 with ⟨_, a, c, rfl⟩ | ⟨g, off, cap, rfl, _⟩ <;> exact ⟨_, _, _, rfl⟩
theorem next_bd (zs : List Int) (k : Nat) (n : Int) (hn : 1 ≤ n) : ∃ r, nextV zs k % n = r ∧ 0 ≤ r ∧ r < n :=
  ⟨_, rfl, Int.emod_nonneg _ (by omega), Int.emod_lt_of_pos _ (by omega)⟩
theorem Kn.onlyK {M : List Nat} {W w : World} {l : Ents} {g : Nat} {Φ : Obj → Prop} (h : Kn M W w l) (m : Has l g Φ) : Kn M W w [(g, Φ)] :=
  ⟨h.os, h.tape, h.output, h.size, h.frame, fun k Ψ hk => by (cases hk with | here => exact h.own _ _ m | there hk => cases hk), fun k Ψ hk => by (cases hk with | here => exact h.fresh _ _ m | there hk => cases hk), by simp⟩
end
section
open Go.RowKit
/-! ### An instruction that is being built -/
/-- The operands that belong to these letters are there, no others. -/
structure PartOk (l : List UInt8) (n : Int) (x : Ins) : Prop where
  a : 0 ≤ x.a ∧ x.a < 16 ∧ (97 ∉ l → x.a = 0)
  b : 0 ≤ x.b ∧ x.b < 16 ∧ (98 ∉ l → x.b = 0)
  c : 0 ≤ x.c ∧ x.c < 16 ∧ (99 ∉ l → x.c = 0)
  imm : -2147483648 ≤ x.imm ∧ x.imm ≤ 2147483647
  none : 105 ∉ l → 116 ∉ l → x.imm = 0
  tgt : 116 ∈ l → 0 ≤ x.imm ∧ x.imm < n
theorem PartOk.start (o n : Int) : PartOk [] n ⟨o, 0, 0, 0, 0⟩ := ⟨by simp, by simp, by simp, by simp, by simp, by simp⟩
section
variable {l : List UInt8} {n : Int} {x : Ins} {r : Int}
theorem PartOk.setA (h : PartOk l n x) (h0 : 0 ≤ r) (h1 : r < 16) : PartOk (l ++ [97]) n { x with a := r } :=
  ⟨⟨h0, h1, by simp⟩, ⟨h.b.1, h.b.2.1, fun q => h.b.2.2 (by simpa using q)⟩, ⟨h.c.1, h.c.2.1, fun q => h.c.2.2 (by simpa using q)⟩, h.imm, fun p q => h.none (by simpa using p) (by simpa using q), fun q => h.tgt (by simpa using q)⟩
theorem PartOk.setB (h : PartOk l n x) (h0 : 0 ≤ r) (h1 : r < 16) : PartOk (l ++ [98]) n { x with b := r } :=
  ⟨⟨h.a.1, h.a.2.1, fun q => h.a.2.2 (by simpa using q)⟩, ⟨h0, h1, by simp⟩, ⟨h.c.1, h.c.2.1, fun q => h.c.2.2 (by simpa using q)⟩, h.imm, fun p q => h.none (by simpa using p) (by simpa using q), fun q => h.tgt (by simpa using q)⟩
theorem PartOk.setC (h : PartOk l n x) (h0 : 0 ≤ r) (h1 : r < 16) : PartOk (l ++ [99]) n { x with c := r } :=
  ⟨⟨h.a.1, h.a.2.1, fun q => h.a.2.2 (by simpa using q)⟩, ⟨h.b.1, h.b.2.1, fun q => h.b.2.2 (by simpa using q)⟩, ⟨h0, h1, by simp⟩, h.imm, fun p q => h.none (by simpa using p) (by simpa using q), fun q => h.tgt (by simpa using q)⟩
theorem PartOk.setT (h : PartOk l n x) (h0 : 0 ≤ r) (h1 : r < n) (hn : n ≤ 2147483647) : PartOk (l ++ [116]) n { x with imm := r } :=
  ⟨⟨h.a.1, h.a.2.1, fun q => h.a.2.2 (by simpa using q)⟩, ⟨h.b.1, h.b.2.1, fun q => h.b.2.2 (by simpa using q)⟩, ⟨h.c.1, h.c.2.1, fun q => h.c.2.2 (by simpa using q)⟩, ⟨by show -2147483648 ≤ r; omega, by show r ≤ 2147483647; omega⟩, fun p q => absurd (by simp) q, fun q => ⟨h0, h1⟩⟩
theorem PartOk.setI (h : PartOk l n x) (ht : 116 ∉ l) (h0 : -2147483648 ≤ r) (h1 : r ≤ 2147483647) : PartOk (l ++ [105]) n { x with imm := r } :=
  ⟨⟨h.a.1, h.a.2.1, fun q => h.a.2.2 (by simpa using q)⟩, ⟨h.b.1, h.b.2.1, fun q => h.b.2.2 (by simpa using q)⟩, ⟨h.c.1, h.c.2.1, fun q => h.c.2.2 (by simpa using q)⟩, ⟨h0, h1⟩, fun p q => absurd (by simp) p, fun q => absurd (by simpa using q) ht⟩
theorem regOk_of {v : Int} {u : Bool} (h : 0 ≤ v ∧ v < 16 ∧ (u = false → v = 0)) : regOk v u = true := by
  by_cases h0 : v = 0
  · subst h0; rfl
  · cases u with
    | false => exact absurd (h.2.2 rfl) h0
    | true => rw [regOk_used h0 _ h.1 h.2.1]
theorem PartOk.good {op : Int} (h : PartOk (operandsOf op) n x) (ho : x.op = op) (h0 : 0 ≤ op) (h1 : op ≤ 27) : insErr x n = 0 := by
  have no : ∀ c : UInt8, uses op c = false → c ∉ operandsOf op := fun c hc hm => by
    rw [uses, List.contains_iff_mem.2 hm] at hc; cases hc
  unfold insErr
  rw [ho, if_neg (by omega), regOk_of ⟨h.a.1, h.a.2.1, fun q => h.a.2.2 (no _ q)⟩, regOk_of ⟨h.b.1, h.b.2.1, fun q => h.b.2.2 (no _ q)⟩, regOk_of ⟨h.c.1, h.c.2.1, fun q => h.c.2.2 (no _ q)⟩]
  rw [if_neg, if_neg]
  · rintro ⟨hu, hi⟩
    have := h.tgt (List.contains_iff_mem.1 hu)
    omega
  · intro hf
    simp only [Bool.true_and, Bool.or_eq_false_iff, beq_eq_false_iff_ne] at hf
    exact hf.1.1 (h.none (no _ hf.1.2) (no _ hf.2))
end
theorem letters (op : Int) (h0 : 0 ≤ op) (h1 : op ≤ 27) : (∀ c ∈ operandsOf op, c = 97 ∨ c = 98 ∨ c = 99 ∨ c = 105 ∨ c = 116) ∧ (105 ∈ operandsOf op → 116 ∉ operandsOf op) := by
  unfold operandsOf
  have ho : op = 0 ∨ op = 1 ∨ op = 2 ∨ op = 3 ∨ op = 4 ∨ op = 5 ∨ op = 6 ∨ op = 7 ∨ op = 8 ∨ op = 9 ∨ op = 10 ∨ op = 11 ∨ op = 12 ∨ op = 13 ∨ op = 14 ∨ op = 15 ∨ op = 16 ∨ op = 17 ∨ op = 18 ∨ op = 19 ∨ op = 20 ∨ op = 21 ∨ op = 22 ∨ op = 23 ∨ op = 24 ∨ op = 25 ∨ op = 26 ∨ op = 27 := by omega
  rcases ho with rfl | rfl | rfl | rfl | rfl | rfl | rfl | rfl | rfl | rfl | rfl | rfl | rfl | rfl | rfl | rfl | rfl | rfl | rfl | rfl | rfl | rfl | rfl | rfl | rfl | rfl | rfl | rfl <;> decide
abbrev fourA : Array Value := #[.int .i32 (-2147483648), .int .i32 2147483647, .int .i32 4096, .int .i32 (-4096)]
theorem four_any (v : Int) (h0 : 0 ≤ v) (h1 : v < 4) : ∃ y, -2147483648 ≤ y ∧ y ≤ 2147483647 ∧ ∀ w, Sem.run Tryd.prog (Instr.index 97 (.agg fourA) (.int .i64 v)) w = .ok (.int .i32 y) w := by
  have h : v = 0 ∨ v = 1 ∨ v = 2 ∨ v = 3 := by omega
  rcases h with rfl | rfl | rfl | rfl
  · exact ⟨-2147483648, by decide, by decide, fun w => by kernel_rfl⟩
  · exact ⟨2147483647, by decide, by decide, fun w => by kernel_rfl⟩
  · exact ⟨4096, by decide, by decide, fun w => by kernel_rfl⟩
  · exact ⟨-4096, by decide, by decide, fun w => by kernel_rfl⟩
def InstrPost (b k : Nat) (va : Value) (n : Int) (w : World) (e : Ending) (w' : World) : Prop :=
  ∃ (x : Ins) (k' : Nat), e = .returned (.agg x.cells) ∧ insErr x n = 0 ∧ x.fits ∧ k ≤ k' ∧ k' ≤ k + 12 ∧ Kn [b] w w' [(b, At (numA va k') 55)]
theorem ins_size : (Tryd.prog.info? 48).map (·.size) = some 5 := by kernel_rfl
def InstrRel (b k0 : Nat) (va : Value) (n op : Int) (s : ByteArray) (w : World) (g4 g5 : Nat) (z4 : Array Value) (i : Value) (wr : World) : Prop :=
  ∃ (j k : Nat) (x : Ins), i = .int .i64 (j : Int) ∧ j ≤ s.size ∧ k0 + 1 ≤ k ∧ k ≤ k0 + 1 + 3 * j ∧ x.op = op ∧ PartOk (s.data.toList.take j) n x ∧
    Kn [b] w wr [(g5, At x.cells 48), (g4, At z4 48), (b, At (numA va k) 55)]
set_option maxRecDepth 100000 in
set_option maxHeartbeats 40000000 in
theorem Instr_any (b k : Nat) (va : Value) (zs : List Int) (n : Int) (w : World) (hb : BlkT w b (numA va k) 55) (hz : ∀ w', Only b w w' → Ints w' va zs) (hk : k ≤ 900000) (hn : 1 ≤ n) (hn2 : n ≤ 1000) :
    Calls Tryd.prog 19 #[.pointer (some ⟨b, 0, none⟩), .int .i64 n] w (InstrPost b k va n w) := by
  have KN := Kn.startAt (W := w) (g := b) hb (show At (numA va k) 55 _ from rfl)
  have HZ := Lib.hid hz
  clear hz hb
  obtain ⟨op, hop, o0, o1⟩ := next_bd zs k 28 (by decide)
  have HOP := Lib.hid hop
  clear hop
  have hl := operands_len op o0 (by omega)
  obtain ⟨s, hs⟩ : ∃ s, s = str (operandsOf op) := ⟨_, rfl⟩
  have hsz : s.size ≤ 3 := by rw [hs, str_size]; exact hl
  have hd : s.data.toList = operandsOf op := by rw [hs, data_str]
  have hlet := letters op o0 (by omega)
  have HS := Lib.hid hs
  have HD := Lib.hid hd
  have HL := Lib.hid hlet
  clear hs hd hl hlet
  go_enter Tryd.func19, Tryd.ntmps19
  go_wp2_with (first | (go_at_call 18; refine (Next_knx KN b _ va zs _ (HZ.out _ KN.toOnly) (by repeat (first | exact Repl.here | apply Repl.there)) (by omega) (by omega) (by omega)).mono ?_; rintro e wx ⟨rfl, K2⟩; replace KN := K2; clear K2; first | rw [HOP.out]) | (go_at_call 41; refine (Operands_any op _ o0 (by omega)).mono ?_; rintro e wx ⟨rfl, hb1⟩; rw [← HS.out]; replace KN := KN.below hb1; clear hb1) | ((with_reducible refine wpList_gate ?_); first | ((refine gate_load (by rfl) ?_); first | (refine wpList_kn_load1 KN (by rfl) 3 _ rfl _ _ rfl _ _ (by repeat (first | exact Has.here | refine Has.there ?_)) _ (by (repeat (first | ((with_reducible refine get_hit ?_); exact Nat.le_of_ble_eq_true (by kernel_rfl)) | ((with_reducible refine (get_miss ?_).trans ?_); (focus kernel_rfl)) | ((with_reducible refine (get_pmiss ?_).trans ?_); (focus kernel_rfl)))); all_goals (conv => lhs; whnf; arg 1; whnf)) _ Tryd.underlying3 rfl ?_) | (refine wpList_kn_loadW KN (by rfl) 48 _ rfl _ rfl _ _ (by repeat (first | exact Has.here | refine Has.there ?_)) _ Tryd.underlying48 rfl (by kernel_rfl) ?_)) | ((refine gate_store (by rfl) ?_); first | (refine wpList_kn_storeW KN (by rfl) 48 _ _ rfl _ rfl _ rfl _ _ (by repeat (first | exact Repl.here | apply Repl.there)) (by kernel_rfl) (by kernel_rfl) (by kernel_rfl) ?_; clear KN; intro wx KN) | (refine wpList_kn_storeA KN (by rfl) 48 _ _ rfl _ _ rfl _ rfl _ _ (by repeat (first | exact Repl.here | apply Repl.there)) (by (try simp only [Array.size_setIfInBounds, putL_size]); first | exact Nat.le_of_ble_eq_true rfl | (simp; omega)) (by kernel_rfl) (by kernel_rfl) ?_; clear KN; intro wx KN) | (refine wpList_kn_store1 KN (by rfl) 3 _ _ rfl _ _ rfl _ (by conv => lhs; whnf) (by rfl) _ _ (by repeat (first | exact Repl.here | apply Repl.there)) (by (try simp only [Array.size_setIfInBounds, putL_size]); first | exact Nat.le_of_ble_eq_true rfl | (simp; omega)) (by kernel_rfl) (by rfl) ?_; clear KN; intro wx KN) | (refine wpList_kn_store1 KN (by rfl) 21 _ _ rfl _ _ rfl _ (by conv => lhs; whnf) (by rfl) _ _ (by repeat (first | exact Repl.here | apply Repl.there)) (by (try simp only [Array.size_setIfInBounds, putL_size]); first | exact Nat.le_of_ble_eq_true rfl | (simp; omega)) (by kernel_rfl) (by rfl) ?_; clear KN; intro wx KN)) | ((refine gate_new (by rfl) ?_); first | (refine wpList_built rfl 48 _ rfl (Ins.mk op 0 0 0 0).cells (by kernel_rfl) ?_) | (refine wpList_kn_alloc KN (by rfl) 48 rfl 4 rfl #[.int .i64 0, .int .i64 0, .int .i64 0, .int .i64 0, .int .i32 0] (by kernel_rfl) ?_; clear KN; intro g4 wx hg4 KN) | (refine wpList_kn_alloc KN (by rfl) 48 rfl 5 rfl #[.int .i64 0, .int .i64 0, .int .i64 0, .int .i64 0, .int .i32 0] (by kernel_rfl) ?_; clear KN; intro g5 wx hg5 KN))))
  go_loopw [7] (fun i wr => InstrRel b k va n op s w g4 g5 #[.int .i64 0, .int .i64 0, .int .i64 0, .int .i64 0, .int .i32 0] i wr) (fun i _ => s.size - (intOf i).toNat)
  case atStart => exact ⟨0, k + 1, _, rfl, Nat.zero_le _, Nat.le_refl _, by omega, rfl, by simpa using PartOk.start op n, KN⟩
  case round =>
    obtain ⟨j, kk, x, rfl, hj, hk0, hk1, hxo, hpart, KN⟩ := hrel
    have HX := Lib.hid hxo
    have HP := Lib.hid hpart
    clear hxo hpart
    by_cases hlt : j < s.size
    · have hmem : s[j] ∈ operandsOf op := by rw [← HD.out]; exact List.getElem_mem (l := s.data.toList) hlt
      have htk := take_snoc s j hlt
      have HT := Lib.hid htk
      have HM := Lib.hid hmem
      clear htk hmem
      rcases HL.out.1 _ HM.out with hc | hc | hc | hc | hc
      · have q1 : (((s[j].toNat : Nat) : Int) == 97) = true := by rw [hc]; rfl
        have q2 : (((s[j].toNat : Nat) : Int) == 98) = false := by rw [hc]; rfl
        have q3 : (((s[j].toNat : Nat) : Int) == 99) = false := by rw [hc]; rfl
        have HC := Lib.hid hc
        clear hc
        obtain ⟨r, hr, r0, r1⟩ := next_bd zs kk 16 (by decide)
        have HR := Lib.hid hr
        clear hr
        go_wp2_with (first | (go_at_call 18; refine (Next_knx KN b _ va zs _ (HZ.out _ KN.toOnly) (by repeat (first | exact Repl.here | apply Repl.there)) (by omega) (by omega) (by omega)).mono ?_; rintro e wx ⟨rfl, K2⟩; replace KN := K2; clear K2; first | rw [HR.out]) | ((with_reducible refine wpList_gate ?_); first | ((refine gate_load (by rfl) ?_); first | (refine wpList_kn_load1 KN (by rfl) 3 _ rfl _ _ rfl _ _ (by repeat (first | exact Has.here | refine Has.there ?_)) _ (by (repeat (first | ((with_reducible refine get_hit ?_); exact Nat.le_of_ble_eq_true (by kernel_rfl)) | ((with_reducible refine (get_miss ?_).trans ?_); (focus kernel_rfl)) | ((with_reducible refine (get_pmiss ?_).trans ?_); (focus kernel_rfl)))); all_goals (conv => lhs; whnf; arg 1; whnf)) _ Tryd.underlying3 rfl ?_) | (refine wpList_kn_loadW KN (by rfl) 48 _ rfl _ rfl _ _ (by repeat (first | exact Has.here | refine Has.there ?_)) _ Tryd.underlying48 rfl (by kernel_rfl) ?_)) | ((refine gate_store (by rfl) ?_); first | (refine wpList_kn_storeW KN (by rfl) 48 _ _ rfl _ rfl _ rfl _ _ (by repeat (first | exact Repl.here | apply Repl.there)) (by kernel_rfl) (by kernel_rfl) (by kernel_rfl) ?_; clear KN; intro wx KN) | (refine wpList_kn_storeA KN (by rfl) 48 _ _ rfl _ _ rfl _ rfl _ _ (by repeat (first | exact Repl.here | apply Repl.there)) (by (try simp only [Array.size_setIfInBounds, putL_size]); first | exact Nat.le_of_ble_eq_true rfl | (simp; omega)) (by kernel_rfl) (by kernel_rfl) ?_; clear KN; intro wx KN) | (refine wpList_kn_store1 KN (by rfl) 3 _ _ rfl _ _ rfl _ (by conv => lhs; whnf) (by rfl) _ _ (by repeat (first | exact Repl.here | apply Repl.there)) (by (try simp only [Array.size_setIfInBounds, putL_size]); first | exact Nat.le_of_ble_eq_true rfl | (simp; omega)) (by kernel_rfl) (by rfl) ?_; clear KN; intro wx KN) | (refine wpList_kn_store1 KN (by rfl) 21 _ _ rfl _ _ rfl _ (by conv => lhs; whnf) (by rfl) _ _ (by repeat (first | exact Repl.here | apply Repl.there)) (by (try simp only [Array.size_setIfInBounds, putL_size]); first | exact Nat.le_of_ble_eq_true rfl | (simp; omega)) (by kernel_rfl) (by rfl) ?_; clear KN; intro wx KN)) | ((refine gate_new (by rfl) ?_); first | (refine wpList_kn_alloc KN (by rfl) 48 rfl 4 rfl #[.int .i64 0, .int .i64 0, .int .i64 0, .int .i64 0, .int .i32 0] (by kernel_rfl) ?_; clear KN; intro g4 wx hg4 KN) | (refine wpList_kn_alloc KN (by rfl) 48 rfl 5 rfl #[.int .i64 0, .int .i64 0, .int .i64 0, .int .i64 0, .int .i32 0] (by kernel_rfl) ?_; clear KN; intro g5 wx hg5 KN))))
        go_round
        case rel => exact ⟨j + 1, kk + 1, { x with a := r }, by go_num, by omega, by omega, by omega, HX.out, by rw [HT.out, HC.out]; exact HP.out.setA r0 r1, KN.as_ g5 _ (by repeat (first | exact Repl.here | apply Repl.there)) (by kernel_rfl)⟩
        case measure => simp [intOf]; omega
      · have q1 : (((s[j].toNat : Nat) : Int) == 97) = false := by rw [hc]; rfl
        have q2 : (((s[j].toNat : Nat) : Int) == 98) = true := by rw [hc]; rfl
        have q3 : (((s[j].toNat : Nat) : Int) == 99) = false := by rw [hc]; rfl
        have HC := Lib.hid hc
        clear hc
        obtain ⟨r, hr, r0, r1⟩ := next_bd zs kk 16 (by decide)
        have HR := Lib.hid hr
        clear hr
        go_wp2_with (first | (go_at_call 18; refine (Next_knx KN b _ va zs _ (HZ.out _ KN.toOnly) (by repeat (first | exact Repl.here | apply Repl.there)) (by omega) (by omega) (by omega)).mono ?_; rintro e wx ⟨rfl, K2⟩; replace KN := K2; clear K2; first | rw [HR.out]) | ((with_reducible refine wpList_gate ?_); first | ((refine gate_load (by rfl) ?_); first | (refine wpList_kn_load1 KN (by rfl) 3 _ rfl _ _ rfl _ _ (by repeat (first | exact Has.here | refine Has.there ?_)) _ (by (repeat (first | ((with_reducible refine get_hit ?_); exact Nat.le_of_ble_eq_true (by kernel_rfl)) | ((with_reducible refine (get_miss ?_).trans ?_); (focus kernel_rfl)) | ((with_reducible refine (get_pmiss ?_).trans ?_); (focus kernel_rfl)))); all_goals (conv => lhs; whnf; arg 1; whnf)) _ Tryd.underlying3 rfl ?_) | (refine wpList_kn_loadW KN (by rfl) 48 _ rfl _ rfl _ _ (by repeat (first | exact Has.here | refine Has.there ?_)) _ Tryd.underlying48 rfl (by kernel_rfl) ?_)) | ((refine gate_store (by rfl) ?_); first | (refine wpList_kn_storeW KN (by rfl) 48 _ _ rfl _ rfl _ rfl _ _ (by repeat (first | exact Repl.here | apply Repl.there)) (by kernel_rfl) (by kernel_rfl) (by kernel_rfl) ?_; clear KN; intro wx KN) | (refine wpList_kn_storeA KN (by rfl) 48 _ _ rfl _ _ rfl _ rfl _ _ (by repeat (first | exact Repl.here | apply Repl.there)) (by (try simp only [Array.size_setIfInBounds, putL_size]); first | exact Nat.le_of_ble_eq_true rfl | (simp; omega)) (by kernel_rfl) (by kernel_rfl) ?_; clear KN; intro wx KN) | (refine wpList_kn_store1 KN (by rfl) 3 _ _ rfl _ _ rfl _ (by conv => lhs; whnf) (by rfl) _ _ (by repeat (first | exact Repl.here | apply Repl.there)) (by (try simp only [Array.size_setIfInBounds, putL_size]); first | exact Nat.le_of_ble_eq_true rfl | (simp; omega)) (by kernel_rfl) (by rfl) ?_; clear KN; intro wx KN) | (refine wpList_kn_store1 KN (by rfl) 21 _ _ rfl _ _ rfl _ (by conv => lhs; whnf) (by rfl) _ _ (by repeat (first | exact Repl.here | apply Repl.there)) (by (try simp only [Array.size_setIfInBounds, putL_size]); first | exact Nat.le_of_ble_eq_true rfl | (simp; omega)) (by kernel_rfl) (by rfl) ?_; clear KN; intro wx KN)) | ((refine gate_new (by rfl) ?_); first | (refine wpList_kn_alloc KN (by rfl) 48 rfl 4 rfl #[.int .i64 0, .int .i64 0, .int .i64 0, .int .i64 0, .int .i32 0] (by kernel_rfl) ?_; clear KN; intro g4 wx hg4 KN) | (refine wpList_kn_alloc KN (by rfl) 48 rfl 5 rfl #[.int .i64 0, .int .i64 0, .int .i64 0, .int .i64 0, .int .i32 0] (by kernel_rfl) ?_; clear KN; intro g5 wx hg5 KN))))
        go_round
        case rel => exact ⟨j + 1, kk + 1, { x with b := r }, by go_num, by omega, by omega, by omega, HX.out, by rw [HT.out, HC.out]; exact HP.out.setB r0 r1, KN.as_ g5 _ (by repeat (first | exact Repl.here | apply Repl.there)) (by kernel_rfl)⟩
        case measure => simp [intOf]; omega
      · have q1 : (((s[j].toNat : Nat) : Int) == 97) = false := by rw [hc]; rfl
        have q2 : (((s[j].toNat : Nat) : Int) == 98) = false := by rw [hc]; rfl
        have q3 : (((s[j].toNat : Nat) : Int) == 99) = true := by rw [hc]; rfl
        have HC := Lib.hid hc
        clear hc
        obtain ⟨r, hr, r0, r1⟩ := next_bd zs kk 16 (by decide)
        have HR := Lib.hid hr
        clear hr
        go_wp2_with (first | (go_at_call 18; refine (Next_knx KN b _ va zs _ (HZ.out _ KN.toOnly) (by repeat (first | exact Repl.here | apply Repl.there)) (by omega) (by omega) (by omega)).mono ?_; rintro e wx ⟨rfl, K2⟩; replace KN := K2; clear K2; first | rw [HR.out]) | ((with_reducible refine wpList_gate ?_); first | ((refine gate_load (by rfl) ?_); first | (refine wpList_kn_load1 KN (by rfl) 3 _ rfl _ _ rfl _ _ (by repeat (first | exact Has.here | refine Has.there ?_)) _ (by (repeat (first | ((with_reducible refine get_hit ?_); exact Nat.le_of_ble_eq_true (by kernel_rfl)) | ((with_reducible refine (get_miss ?_).trans ?_); (focus kernel_rfl)) | ((with_reducible refine (get_pmiss ?_).trans ?_); (focus kernel_rfl)))); all_goals (conv => lhs; whnf; arg 1; whnf)) _ Tryd.underlying3 rfl ?_) | (refine wpList_kn_loadW KN (by rfl) 48 _ rfl _ rfl _ _ (by repeat (first | exact Has.here | refine Has.there ?_)) _ Tryd.underlying48 rfl (by kernel_rfl) ?_)) | ((refine gate_store (by rfl) ?_); first | (refine wpList_kn_storeW KN (by rfl) 48 _ _ rfl _ rfl _ rfl _ _ (by repeat (first | exact Repl.here | apply Repl.there)) (by kernel_rfl) (by kernel_rfl) (by kernel_rfl) ?_; clear KN; intro wx KN) | (refine wpList_kn_storeA KN (by rfl) 48 _ _ rfl _ _ rfl _ rfl _ _ (by repeat (first | exact Repl.here | apply Repl.there)) (by (try simp only [Array.size_setIfInBounds, putL_size]); first | exact Nat.le_of_ble_eq_true rfl | (simp; omega)) (by kernel_rfl) (by kernel_rfl) ?_; clear KN; intro wx KN) | (refine wpList_kn_store1 KN (by rfl) 3 _ _ rfl _ _ rfl _ (by conv => lhs; whnf) (by rfl) _ _ (by repeat (first | exact Repl.here | apply Repl.there)) (by (try simp only [Array.size_setIfInBounds, putL_size]); first | exact Nat.le_of_ble_eq_true rfl | (simp; omega)) (by kernel_rfl) (by rfl) ?_; clear KN; intro wx KN) | (refine wpList_kn_store1 KN (by rfl) 21 _ _ rfl _ _ rfl _ (by conv => lhs; whnf) (by rfl) _ _ (by repeat (first | exact Repl.here | apply Repl.there)) (by (try simp only [Array.size_setIfInBounds, putL_size]); first | exact Nat.le_of_ble_eq_true rfl | (simp; omega)) (by kernel_rfl) (by rfl) ?_; clear KN; intro wx KN)) | ((refine gate_new (by rfl) ?_); first | (refine wpList_kn_alloc KN (by rfl) 48 rfl 4 rfl #[.int .i64 0, .int .i64 0, .int .i64 0, .int .i64 0, .int .i32 0] (by kernel_rfl) ?_; clear KN; intro g4 wx hg4 KN) | (refine wpList_kn_alloc KN (by rfl) 48 rfl 5 rfl #[.int .i64 0, .int .i64 0, .int .i64 0, .int .i64 0, .int .i32 0] (by kernel_rfl) ?_; clear KN; intro g5 wx hg5 KN))))
        go_round
        case rel => exact ⟨j + 1, kk + 1, { x with c := r }, by go_num, by omega, by omega, by omega, HX.out, by rw [HT.out, HC.out]; exact HP.out.setC r0 r1, KN.as_ g5 _ (by repeat (first | exact Repl.here | apply Repl.there)) (by kernel_rfl)⟩
        case measure => simp [intOf]; omega
      · have q1 : (((s[j].toNat : Nat) : Int) == 97) = false := by rw [hc]; rfl
        have q2 : (((s[j].toNat : Nat) : Int) == 98) = false := by rw [hc]; rfl
        have q3 : (((s[j].toNat : Nat) : Int) == 99) = false := by rw [hc]; rfl
        have q4 : (((s[j].toNat : Nat) : Int) == 116) = false := by rw [hc]; rfl
        have hnt : 116 ∉ s.data.toList.take j := fun q => HL.out.2 (by rw [← hc]; exact HM.out) (by rw [← HD.out]; exact List.mem_of_mem_take q)
        have HC := Lib.hid hc
        have HN := Lib.hid hnt
        clear hc hnt
        obtain ⟨r, hr, r0, r1⟩ := next_bd zs kk 41 (by decide)
        obtain ⟨t, ht, t0, t1⟩ := next_bd zs (kk + 1) 7 (by decide)
        obtain ⟨u, hu, u0, u1⟩ := next_bd zs (kk + 1 + 1) 4 (by decide)
        obtain ⟨y, y0, y1, hy⟩ := four_any u u0 u1
        obtain ⟨fa, hfa⟩ : ∃ fa, fa = fourA := ⟨_, rfl⟩
        rw [← hfa] at hy
        have HFA := Lib.hid hfa
        have HY := Lib.hid hy
        clear hfa hy
        have HR := Lib.hid hr
        have HU := Lib.hid hu
        have HT2 := Lib.hid ht
        clear hr hu ht
        rcases Bool.eq_false_or_eq_true (t == 0) with h7 | h7
        · go_upto_region 9 with (first | (go_at_call 18; refine (Next_knx KN b _ va zs _ (HZ.out _ KN.toOnly) (by repeat (first | exact Repl.here | apply Repl.there)) (by omega) (by omega) (by omega)).mono ?_; rintro e wx ⟨rfl, K2⟩; replace KN := K2; clear K2; first | rw [HR.out] | rw [HT2.out] | rw [HU.out]) | ((with_reducible refine wpList_gate ?_); first | ((refine gate_load (by rfl) ?_); first | (refine wpList_kn_load1 KN (by rfl) 3 _ rfl _ _ rfl _ _ (by repeat (first | exact Has.here | refine Has.there ?_)) _ (by (repeat (first | ((with_reducible refine get_hit ?_); exact Nat.le_of_ble_eq_true (by kernel_rfl)) | ((with_reducible refine (get_miss ?_).trans ?_); (focus kernel_rfl)) | ((with_reducible refine (get_pmiss ?_).trans ?_); (focus kernel_rfl)))); all_goals (conv => lhs; whnf; arg 1; whnf)) _ Tryd.underlying3 rfl ?_) | (refine wpList_kn_loadW KN (by rfl) 48 _ rfl _ rfl _ _ (by repeat (first | exact Has.here | refine Has.there ?_)) _ Tryd.underlying48 rfl (by kernel_rfl) ?_)) | ((refine gate_store (by rfl) ?_); first | (refine wpList_kn_storeW KN (by rfl) 48 _ _ rfl _ rfl _ rfl _ _ (by repeat (first | exact Repl.here | apply Repl.there)) (by kernel_rfl) (by kernel_rfl) (by kernel_rfl) ?_; clear KN; intro wx KN) | (refine wpList_kn_storeA KN (by rfl) 48 _ _ rfl _ _ rfl _ rfl _ _ (by repeat (first | exact Repl.here | apply Repl.there)) (by (try simp only [Array.size_setIfInBounds, putL_size]); first | exact Nat.le_of_ble_eq_true rfl | (simp; omega)) (by kernel_rfl) (by kernel_rfl) ?_; clear KN; intro wx KN) | (refine wpList_kn_store1 KN (by rfl) 3 _ _ rfl _ _ rfl _ (by conv => lhs; whnf) (by rfl) _ _ (by repeat (first | exact Repl.here | apply Repl.there)) (by (try simp only [Array.size_setIfInBounds, putL_size]); first | exact Nat.le_of_ble_eq_true rfl | (simp; omega)) (by kernel_rfl) (by rfl) ?_; clear KN; intro wx KN) | (refine wpList_kn_store1 KN (by rfl) 21 _ _ rfl _ _ rfl _ (by conv => lhs; whnf) (by rfl) _ _ (by repeat (first | exact Repl.here | apply Repl.there)) (by (try simp only [Array.size_setIfInBounds, putL_size]); first | exact Nat.le_of_ble_eq_true rfl | (simp; omega)) (by kernel_rfl) (by rfl) ?_; clear KN; intro wx KN)) | ((refine gate_new (by rfl) ?_); first | (refine wpList_built rfl 97 _ rfl fa (by rw [HFA.out]; kernel_rfl) ?_) | (refine wpList_kn_alloc KN (by rfl) 48 rfl 4 rfl #[.int .i64 0, .int .i64 0, .int .i64 0, .int .i64 0, .int .i32 0] (by kernel_rfl) ?_; clear KN; intro g4 wx hg4 KN) | (refine wpList_kn_alloc KN (by rfl) 48 rfl 5 rfl #[.int .i64 0, .int .i64 0, .int .i64 0, .int .i64 0, .int .i32 0] (by kernel_rfl) ?_; clear KN; intro g5 wx hg5 KN))))
          have hy := HY.out
          go_wp2_with (first | (go_at_call 18; refine (Next_knx KN b _ va zs _ (HZ.out _ KN.toOnly) (by repeat (first | exact Repl.here | apply Repl.there)) (by omega) (by omega) (by omega)).mono ?_; rintro e wx ⟨rfl, K2⟩; replace KN := K2; clear K2; first | rw [HR.out] | rw [HT2.out] | rw [HU.out]) | ((with_reducible refine wpList_gate ?_); first | ((refine gate_load (by rfl) ?_); first | (refine wpList_kn_load1 KN (by rfl) 3 _ rfl _ _ rfl _ _ (by repeat (first | exact Has.here | refine Has.there ?_)) _ (by (repeat (first | ((with_reducible refine get_hit ?_); exact Nat.le_of_ble_eq_true (by kernel_rfl)) | ((with_reducible refine (get_miss ?_).trans ?_); (focus kernel_rfl)) | ((with_reducible refine (get_pmiss ?_).trans ?_); (focus kernel_rfl)))); all_goals (conv => lhs; whnf; arg 1; whnf)) _ Tryd.underlying3 rfl ?_) | (refine wpList_kn_loadW KN (by rfl) 48 _ rfl _ rfl _ _ (by repeat (first | exact Has.here | refine Has.there ?_)) _ Tryd.underlying48 rfl (by kernel_rfl) ?_)) | ((refine gate_store (by rfl) ?_); first | (refine wpList_kn_storeW KN (by rfl) 48 _ _ rfl _ rfl _ rfl _ _ (by repeat (first | exact Repl.here | apply Repl.there)) (by kernel_rfl) (by kernel_rfl) (by kernel_rfl) ?_; clear KN; intro wx KN) | (refine wpList_kn_storeA KN (by rfl) 48 _ _ rfl _ _ rfl _ rfl _ _ (by repeat (first | exact Repl.here | apply Repl.there)) (by (try simp only [Array.size_setIfInBounds, putL_size]); first | exact Nat.le_of_ble_eq_true rfl | (simp; omega)) (by kernel_rfl) (by kernel_rfl) ?_; clear KN; intro wx KN) | (refine wpList_kn_store1 KN (by rfl) 3 _ _ rfl _ _ rfl _ (by conv => lhs; whnf) (by rfl) _ _ (by repeat (first | exact Repl.here | apply Repl.there)) (by (try simp only [Array.size_setIfInBounds, putL_size]); first | exact Nat.le_of_ble_eq_true rfl | (simp; omega)) (by kernel_rfl) (by rfl) ?_; clear KN; intro wx KN) | (refine wpList_kn_store1 KN (by rfl) 21 _ _ rfl _ _ rfl _ (by conv => lhs; whnf) (by rfl) _ _ (by repeat (first | exact Repl.here | apply Repl.there)) (by (try simp only [Array.size_setIfInBounds, putL_size]); first | exact Nat.le_of_ble_eq_true rfl | (simp; omega)) (by kernel_rfl) (by rfl) ?_; clear KN; intro wx KN)) | ((refine gate_new (by rfl) ?_); first | (refine wpList_built rfl 97 _ rfl fa (by rw [HFA.out]; kernel_rfl) ?_) | (refine wpList_kn_alloc KN (by rfl) 48 rfl 4 rfl #[.int .i64 0, .int .i64 0, .int .i64 0, .int .i64 0, .int .i32 0] (by kernel_rfl) ?_; clear KN; intro g4 wx hg4 KN) | (refine wpList_kn_alloc KN (by rfl) 48 rfl 5 rfl #[.int .i64 0, .int .i64 0, .int .i64 0, .int .i64 0, .int .i32 0] (by kernel_rfl) ?_; clear KN; intro g5 wx hg5 KN))))
          go_round
          case rel => exact ⟨j + 1, kk + 1 + 1 + 1, { x with imm := y }, by go_num, by omega, by omega, by omega, HX.out, by rw [HT.out, HC.out]; exact HP.out.setI HN.out y0 y1, KN.as_ g5 _ (by repeat (first | exact Repl.here | apply Repl.there)) (by kernel_rfl)⟩
          case measure => simp [intOf]; omega
        · go_wp2_with (first | (go_at_call 18; refine (Next_knx KN b _ va zs _ (HZ.out _ KN.toOnly) (by repeat (first | exact Repl.here | apply Repl.there)) (by omega) (by omega) (by omega)).mono ?_; rintro e wx ⟨rfl, K2⟩; replace KN := K2; clear K2; first | rw [HR.out] | rw [HT2.out]) | ((with_reducible refine wpList_gate ?_); first | ((refine gate_load (by rfl) ?_); first | (refine wpList_kn_load1 KN (by rfl) 3 _ rfl _ _ rfl _ _ (by repeat (first | exact Has.here | refine Has.there ?_)) _ (by (repeat (first | ((with_reducible refine get_hit ?_); exact Nat.le_of_ble_eq_true (by kernel_rfl)) | ((with_reducible refine (get_miss ?_).trans ?_); (focus kernel_rfl)) | ((with_reducible refine (get_pmiss ?_).trans ?_); (focus kernel_rfl)))); all_goals (conv => lhs; whnf; arg 1; whnf)) _ Tryd.underlying3 rfl ?_) | (refine wpList_kn_loadW KN (by rfl) 48 _ rfl _ rfl _ _ (by repeat (first | exact Has.here | refine Has.there ?_)) _ Tryd.underlying48 rfl (by kernel_rfl) ?_)) | ((refine gate_store (by rfl) ?_); first | (refine wpList_kn_storeW KN (by rfl) 48 _ _ rfl _ rfl _ rfl _ _ (by repeat (first | exact Repl.here | apply Repl.there)) (by kernel_rfl) (by kernel_rfl) (by kernel_rfl) ?_; clear KN; intro wx KN) | (refine wpList_kn_storeA KN (by rfl) 48 _ _ rfl _ _ rfl _ rfl _ _ (by repeat (first | exact Repl.here | apply Repl.there)) (by (try simp only [Array.size_setIfInBounds, putL_size]); first | exact Nat.le_of_ble_eq_true rfl | (simp; omega)) (by kernel_rfl) (by kernel_rfl) ?_; clear KN; intro wx KN) | (refine wpList_kn_store1 KN (by rfl) 3 _ _ rfl _ _ rfl _ (by conv => lhs; whnf) (by rfl) _ _ (by repeat (first | exact Repl.here | apply Repl.there)) (by (try simp only [Array.size_setIfInBounds, putL_size]); first | exact Nat.le_of_ble_eq_true rfl | (simp; omega)) (by kernel_rfl) (by rfl) ?_; clear KN; intro wx KN) | (refine wpList_kn_store1 KN (by rfl) 21 _ _ rfl _ _ rfl _ (by conv => lhs; whnf) (by rfl) _ _ (by repeat (first | exact Repl.here | apply Repl.there)) (by (try simp only [Array.size_setIfInBounds, putL_size]); first | exact Nat.le_of_ble_eq_true rfl | (simp; omega)) (by kernel_rfl) (by rfl) ?_; clear KN; intro wx KN)) | ((refine gate_new (by rfl) ?_); first | (refine wpList_kn_alloc KN (by rfl) 48 rfl 4 rfl #[.int .i64 0, .int .i64 0, .int .i64 0, .int .i64 0, .int .i32 0] (by kernel_rfl) ?_; clear KN; intro g4 wx hg4 KN) | (refine wpList_kn_alloc KN (by rfl) 48 rfl 5 rfl #[.int .i64 0, .int .i64 0, .int .i64 0, .int .i64 0, .int .i32 0] (by kernel_rfl) ?_; clear KN; intro g5 wx hg5 KN))))
          go_round
          case rel => exact ⟨j + 1, kk + 1 + 1, { x with imm := r - 20 }, by go_num, by omega, by omega, by omega, HX.out, by rw [HT.out, HC.out]; exact HP.out.setI HN.out (by omega) (by omega), KN.as_ g5 _ (by repeat (first | exact Repl.here | apply Repl.there)) (by kernel_rfl)⟩
          case measure => simp [intOf]; omega
      · have q1 : (((s[j].toNat : Nat) : Int) == 97) = false := by rw [hc]; rfl
        have q2 : (((s[j].toNat : Nat) : Int) == 98) = false := by rw [hc]; rfl
        have q3 : (((s[j].toNat : Nat) : Int) == 99) = false := by rw [hc]; rfl
        have q4 : (((s[j].toNat : Nat) : Int) == 116) = true := by rw [hc]; rfl
        have HC := Lib.hid hc
        clear hc
        obtain ⟨r, hr, r0, r1⟩ := next_bd zs kk n hn
        have HR := Lib.hid hr
        clear hr
        go_wp2_with (first | (go_at_call 18; refine (Next_knx KN b _ va zs _ (HZ.out _ KN.toOnly) (by repeat (first | exact Repl.here | apply Repl.there)) (by omega) (by omega) (by omega)).mono ?_; rintro e wx ⟨rfl, K2⟩; replace KN := K2; clear K2; first | rw [HR.out]) | ((with_reducible refine wpList_gate ?_); first | ((refine gate_load (by rfl) ?_); first | (refine wpList_kn_load1 KN (by rfl) 3 _ rfl _ _ rfl _ _ (by repeat (first | exact Has.here | refine Has.there ?_)) _ (by (repeat (first | ((with_reducible refine get_hit ?_); exact Nat.le_of_ble_eq_true (by kernel_rfl)) | ((with_reducible refine (get_miss ?_).trans ?_); (focus kernel_rfl)) | ((with_reducible refine (get_pmiss ?_).trans ?_); (focus kernel_rfl)))); all_goals (conv => lhs; whnf; arg 1; whnf)) _ Tryd.underlying3 rfl ?_) | (refine wpList_kn_loadW KN (by rfl) 48 _ rfl _ rfl _ _ (by repeat (first | exact Has.here | refine Has.there ?_)) _ Tryd.underlying48 rfl (by kernel_rfl) ?_)) | ((refine gate_store (by rfl) ?_); first | (refine wpList_kn_storeW KN (by rfl) 48 _ _ rfl _ rfl _ rfl _ _ (by repeat (first | exact Repl.here | apply Repl.there)) (by kernel_rfl) (by kernel_rfl) (by kernel_rfl) ?_; clear KN; intro wx KN) | (refine wpList_kn_storeA KN (by rfl) 48 _ _ rfl _ _ rfl _ rfl _ _ (by repeat (first | exact Repl.here | apply Repl.there)) (by (try simp only [Array.size_setIfInBounds, putL_size]); first | exact Nat.le_of_ble_eq_true rfl | (simp; omega)) (by kernel_rfl) (by kernel_rfl) ?_; clear KN; intro wx KN) | (refine wpList_kn_store1 KN (by rfl) 3 _ _ rfl _ _ rfl _ (by conv => lhs; whnf) (by rfl) _ _ (by repeat (first | exact Repl.here | apply Repl.there)) (by (try simp only [Array.size_setIfInBounds, putL_size]); first | exact Nat.le_of_ble_eq_true rfl | (simp; omega)) (by kernel_rfl) (by rfl) ?_; clear KN; intro wx KN) | (refine wpList_kn_store1 KN (by rfl) 21 _ _ rfl _ _ rfl _ (by conv => lhs; whnf) (by rfl) _ _ (by repeat (first | exact Repl.here | apply Repl.there)) (by (try simp only [Array.size_setIfInBounds, putL_size]); first | exact Nat.le_of_ble_eq_true rfl | (simp; omega)) (by kernel_rfl) (by rfl) ?_; clear KN; intro wx KN)) | ((refine gate_new (by rfl) ?_); first | (refine wpList_kn_alloc KN (by rfl) 48 rfl 4 rfl #[.int .i64 0, .int .i64 0, .int .i64 0, .int .i64 0, .int .i32 0] (by kernel_rfl) ?_; clear KN; intro g4 wx hg4 KN) | (refine wpList_kn_alloc KN (by rfl) 48 rfl 5 rfl #[.int .i64 0, .int .i64 0, .int .i64 0, .int .i64 0, .int .i32 0] (by kernel_rfl) ?_; clear KN; intro g5 wx hg5 KN))))
        go_round
        case rel => exact ⟨j + 1, kk + 1, { x with imm := r }, by go_num, by omega, by omega, by omega, HX.out, by rw [HT.out, HC.out]; exact HP.out.setT r0 r1 (by omega), KN.as_ g5 _ (by repeat (first | exact Repl.here | apply Repl.there)) (by kernel_rfl)⟩
        case measure => simp [intOf]; omega
    · have HE : Hid (PartOk (operandsOf op) n x) := Lib.hid (by rw [← HD.out]; have := HP.out; rwa [List.take_of_length_le (by show s.size ≤ j; omega)] at this)
      go_wp2_with (first | ((with_reducible refine wpList_gate ?_); first | ((refine gate_load (by rfl) ?_); first | (refine wpList_kn_load1 KN (by rfl) 3 _ rfl _ _ rfl _ _ (by repeat (first | exact Has.here | refine Has.there ?_)) _ (by (repeat (first | ((with_reducible refine get_hit ?_); exact Nat.le_of_ble_eq_true (by kernel_rfl)) | ((with_reducible refine (get_miss ?_).trans ?_); (focus kernel_rfl)) | ((with_reducible refine (get_pmiss ?_).trans ?_); (focus kernel_rfl)))); all_goals (conv => lhs; whnf; arg 1; whnf)) _ Tryd.underlying3 rfl ?_) | (refine wpList_kn_loadW KN (by rfl) 48 _ rfl _ rfl _ _ (by repeat (first | exact Has.here | refine Has.there ?_)) _ Tryd.underlying48 rfl (by kernel_rfl) ?_)) | ((refine gate_store (by rfl) ?_); first | (refine wpList_kn_storeW KN (by rfl) 48 _ _ rfl _ rfl _ rfl _ _ (by repeat (first | exact Repl.here | apply Repl.there)) (by kernel_rfl) (by kernel_rfl) (by kernel_rfl) ?_; clear KN; intro wx KN) | (refine wpList_kn_storeA KN (by rfl) 48 _ _ rfl _ _ rfl _ rfl _ _ (by repeat (first | exact Repl.here | apply Repl.there)) (by (try simp only [Array.size_setIfInBounds, putL_size]); first | exact Nat.le_of_ble_eq_true rfl | (simp; omega)) (by kernel_rfl) (by kernel_rfl) ?_; clear KN; intro wx KN) | (refine wpList_kn_store1 KN (by rfl) 3 _ _ rfl _ _ rfl _ (by conv => lhs; whnf) (by rfl) _ _ (by repeat (first | exact Repl.here | apply Repl.there)) (by (try simp only [Array.size_setIfInBounds, putL_size]); first | exact Nat.le_of_ble_eq_true rfl | (simp; omega)) (by kernel_rfl) (by rfl) ?_; clear KN; intro wx KN) | (refine wpList_kn_store1 KN (by rfl) 21 _ _ rfl _ _ rfl _ (by conv => lhs; whnf) (by rfl) _ _ (by repeat (first | exact Repl.here | apply Repl.there)) (by (try simp only [Array.size_setIfInBounds, putL_size]); first | exact Nat.le_of_ble_eq_true rfl | (simp; omega)) (by kernel_rfl) (by rfl) ?_; clear KN; intro wx KN)) | ((refine gate_new (by rfl) ?_); first | (refine wpList_kn_alloc KN (by rfl) 48 rfl 4 rfl #[.int .i64 0, .int .i64 0, .int .i64 0, .int .i64 0, .int .i32 0] (by kernel_rfl) ?_; clear KN; intro g4 wx hg4 KN) | (refine wpList_kn_alloc KN (by rfl) 48 rfl 5 rfl #[.int .i64 0, .int .i64 0, .int .i64 0, .int .i64 0, .int .i32 0] (by kernel_rfl) ?_; clear KN; intro g5 wx hg5 KN))))
      have KX := Lib.hid KN
      refine bodyPost_ret (v := .agg x.cells) (results_cell_row (p := 4) Tryd.results19 _ _ g4 48 x.cells (0, 0) _ rfl (KX.out.at_ (by repeat (first | exact Has.here | refine Has.there ?_))) Tryd.underlying48 rfl ins_size) rfl ?_
      exact ⟨x, kk, rfl, HE.out.good HX.out o0 (by omega), ⟨HE.out.imm, by rw [HX.out]; omega⟩, by omega, by omega, KX.out.onlyK (by repeat (first | exact Has.here | refine Has.there ?_))⟩
end
section
open Go.RowKit
def ProgPost (w : World) (e : Ending) (w' : World) : Prop :=
  ∃ (g cap : Nat) (p : List Ins), e = .returned (.slice (some ⟨g, 0, none⟩) p.length cap) ∧ p.length ≤ cap ∧ cap ≤ maxLen ∧ 1 ≤ p.length ∧ p.length ≤ 12 ∧ progErr p = 0 ∧ (∀ x ∈ p, x.fits) ∧
    Kn [] w w' [(g, CapAt 48 5 cap (p.map fun x => x.cells.toList))]
def ProgRel (va : Value) (N : Nat) (w : World) (g9 : Nat) (v i : Value) (wr : World) : Prop :=
  ∃ (j k : Nat) (p : List Ins) (ol : Ents), i = .int .i64 (j : Int) ∧ j ≤ N ∧ k ≤ 1 + 12 * j ∧ p.length = j ∧ (∀ x ∈ p, insErr x N = 0 ∧ x.fits) ∧ OwnT 48 5 v (p.map fun x => x.cells.toList) ol ∧
    Kn [] w wr ((g9, At (numA va k) 55) :: ol)
theorem firstErr_none (n : Int) : ∀ (p : List Ins), (∀ x ∈ p, insErr x n = 0) → firstErr n p = 0
  | [], _ => rfl
  | x :: p, h => by rw [firstErr, if_pos (h x (by simp))]; exact firstErr_none n p (fun y hy => h y (by simp [hy]))
theorem progErr_none {p : List Ins} (h0 : 1 ≤ p.length) (h1 : p.length ≤ 4096) (h : ∀ x ∈ p, insErr x p.length = 0) : progErr p = 0 := by
  unfold progErr; rw [if_neg (by omega)]; exact firstErr_none _ _ h
set_option maxRecDepth 100000 in
set_option maxHeartbeats 40000000 in
theorem Program_any (va : Value) (zs : List Int) (w : World) (hz : Ints w va zs) : Calls Tryd.prog 7 #[va] w (ProgPost w) := by
  have KN := Kn.start w
  obtain ⟨za, zn, zc, rfl⟩ := hz.slice
  have HZ := Lib.hid hz
  clear hz
  obtain ⟨r, hr, r0, r1⟩ := next_bd zs 0 12 (by decide)
  obtain ⟨N, rfl⟩ := Int.eq_ofNat_of_zero_le r0
  have HR := Lib.hid hr
  clear hr
  go_enter Tryd.func7, Tryd.ntmps7
  go_wp2_with (first | (go_at_call 18; refine (Next_knx KN g9 _ _ zs _ (HZ.out.below KN.toBelow) (by repeat (first | exact Repl.here | apply Repl.there)) (by omega) (by omega) (by omega)).mono ?_; rintro e wx ⟨rfl, K2⟩; replace KN := K2; clear K2; first | rw [HR.out]) | ((with_reducible refine wpList_gate ?_); first | ((refine gate_new (by rfl) ?_); first | (refine wpList_built rfl 55 _ rfl (numA (.slice za zn zc) 0) (by kernel_rfl) ?_) | (refine wpList_kn_boxA KN (by rfl) 55 _ rfl 9 rfl _ rfl ?_; clear KN; intro g9 wx hg9 KN))))
  have HREL : Hid (ProgRel (.slice za zn zc) (N + 1) w g9 (.slice none 0 0) (.int .i64 0) wx) := Lib.hid ⟨0, 1, [], [], rfl, Nat.zero_le _, Nat.le_refl _, rfl, by simp, .nil, KN⟩
  have HG := Lib.hid hg9
  clear KN hg9
  go_loopw [5, 6] (fun v i wr => ProgRel (.slice za zn zc) (N + 1) w g9 v i wr) (fun _ i _ => N + 1 - (intOf i).toNat)
  case atStart => exact HREL.out
  case round =>
    obtain ⟨j, k, p, ol, rfl, hj, hk, hp, hx, OW, KN⟩ := hrel
    have HX := Lib.hid hx
    have HP := Lib.hid hp
    have HO := Lib.hid OW
    clear hx hp OW
    by_cases hlt : j < N + 1
    · have hs : ∀ w', Only g9 wr w' → Ints w' (.slice za zn zc) zs := fun w' ho => HZ.out.below (below_only KN.toBelow ho HG.out KN.size)
      have HS := Lib.hid hs
      clear hs
      obtain ⟨a, c, hv⟩ := HO.out.form
      rw [List.length_map] at hv
      subst hv
      go_wp2_with (first | (go_at_call 19; refine (Instr_any g9 k _ zs _ _ (KN.at_ (by repeat (first | exact Has.here | refine Has.there ?_))) HS.out (by omega) (by omega) (by omega)).mono ?_; rintro e wx ⟨x, k', rfl, he, hf, hk1, hk2, K2⟩; replace KN := KN.call1 K2 (by repeat (first | exact Repl.here | apply Repl.there)); clear K2) | ((with_reducible refine wpList_gate ?_); first | (refine wpList_kn_lit KN rfl 25 48 1 _ rfl 22 rfl Tryd.underlying25 x.cells (by kernel_rfl) ?_; clear KN; intro g22 wx hg22 KN) | (at_builtin; (refine wpList_kn_append1 KN HO.out (by rfl) _ _ 25 rfl 40 Tryd.underlying25 (by kernel_rfl) (by decide) rfl 1 rfl rfl (by kernel_rfl) (by simp [HP.out, maxLen]; omega) (by simp [HP.out]; omega) (by repeat (first | exact TailF.id | apply TailF.cons)) rfl ?_); clear KN; intro v' wx ol' OW KN) | ((refine gate_new (by rfl) ?_); first | (refine wpList_kn_boxA KN (by rfl) 55 _ rfl 9 rfl _ rfl ?_; clear KN; intro g9 wx hg9 KN))))
      go_roundw
      case rel =>
        refine ⟨j + 1, k', p ++ [x], ol', by go_num, by omega, by omega, by simp [HP.out], ?_, by simpa using OW, KN⟩
        intro y hy
        rcases List.mem_append.1 hy with hy | hy
        · exact HX.out y hy
        · simp at hy; subst hy; exact ⟨by rw [← he]; congr 1; omega, hf⟩
      case measure => simp [intOf]; omega
    · have hjN : j = N + 1 := by omega
      obtain ⟨g, cap, h1, h2, h3, h4⟩ := HO.out.pos (by rw [List.length_map, HP.out]; omega)
      rw [List.length_map] at h1 h2
      subst h1
      subst h4
      have HC := Lib.hid h2
      have HM := Lib.hid h3
      clear h2 h3
      go_wp2_with (first | ((with_reducible refine wpList_gate ?_); first | ((refine gate_new (by rfl) ?_); first | (refine wpList_kn_boxA KN (by rfl) 55 _ rfl 9 rfl _ rfl ?_; clear KN; intro g9 wx hg9 KN))))
      go_ret
      refine ⟨g, cap, p, rfl, HC.out, HM.out, by rw [HP.out]; omega, by rw [HP.out]; omega, progErr_none (by rw [HP.out]; omega) (by rw [HP.out]; omega) (fun x hx => ?_), fun x hx => (HX.out x hx).2, (KN.drop .here)⟩
      rw [HP.out, hjN]
      exact (HX.out x hx).1
end
section
open Go Go.RowKit
theorem Ints.form {w : World} {v : Value} {zs : List Int} (h : Ints w v zs) : ∃ a c, v = .slice a zs.length c ∧ zs.length ≤ maxLen := by
  have hm := h.1.1
  simp only [List.length_map] at hm
  rcases h.1.2 with ⟨hL, a, c, rfl⟩ | ⟨g, off, cap, rfl, _⟩
  · have : zs = [] := by simpa using hL
    subst this
    exact ⟨a, c, rfl, by simp⟩
  · exact ⟨_, cap, by rw [List.length_map], hm⟩
end
end Go.Proofs.YtemigcdieghkfabDoor
