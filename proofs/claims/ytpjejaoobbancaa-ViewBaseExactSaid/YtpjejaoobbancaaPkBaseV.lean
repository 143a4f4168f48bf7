/- baseView. -/
import Derived.Test.YtpjejaoobbancaaPkBase
import Derived.Test.YtpjejaoobbancaaPkVAwake
set_option linter.unusedVariables false
set_option linter.unusedSimpArgs false
set_option linter.unusedSectionVars false
namespace Go.Proofs.Ytpjejaoobbancaa
open Go.RowKit Go.BigFrame

/-- The view of the base. -/
def baseVf (rs : List Rep) (b : Int) (ad : Bool) : Vw :=
  match rs.find? fun r => r.view.num == b with
  | some r => r.view
  | none => match rs.find? fun r => ad && (r.ready && r.next.num == b) with
    | some r => r.next
    | none => ⟨0, [], []⟩
theorem find_none_take {α : Type} {p : α → Bool} {l : List α} {k : Nat} {x : α} (h : (l.take k).find? p = none) (hx : l[k]? = some x) (hp : p x = false) : (l.take (k + 1)).find? p = none := by
  rw [List.take_add_one, hx, List.find?_append, h]
  simp [hp]
theorem find_hit {α : Type} {p : α → Bool} {l : List α} {k : Nat} {x : α} (h : (l.take k).find? p = none) (hx : l[k]? = some x) (hp : p x = true) : l.find? p = some x := by
  have e : l = l.take (k + 1) ++ l.drop (k + 1) := (List.take_append_drop _ _).symm
  rw [e, List.find?_append, List.take_add_one, hx, List.find?_append, h]
  simp [hp]
def BaseVOut (rs : List Rep) (W w : World) (e : Ending) (w' : World) : Prop :=
  ∃ (m o : SL) (b : Int) (ad : Bool), IsBase rs b ad ∧ e = .returned (.agg #[.int .i64 (baseVf rs b ad).num, m.v, o.v]) ∧ Row W m.v 1 (intRows (baseVf rs b ad).mem) ∧ Row W o.v 1 (intRows (baseVf rs b ad).own) ∧ Below w.heap.size w w'
def BvR1 (rs : List Rep) (b : Int) (g2 : Nat) (w : World) (i : Value) (wr : World) : Prop :=
  ∃ k : Nat, i = .int .i64 (k : Int) ∧ k ≤ rs.length ∧ (rs.take k).find? (fun r => r.view.num == b) = none ∧ Kn [] w wr [(g2, At #[.int .i64 0, .slice none 0 0, .slice none 0 0] 30)]
def BvR2 (rs : List Rep) (b : Int) (ad : Bool) (g2 : Nat) (w : World) (i : Value) (wr : World) : Prop :=
  ∃ k : Nat, i = .int .i64 (k : Int) ∧ k ≤ rs.length ∧ (rs.take k).find? (fun r => ad && (r.ready && r.next.num == b)) = none ∧ Kn [] w wr [(g2, At #[.int .i64 0, .slice none 0 0, .slice none 0 0] 30)]
set_option maxRecDepth 100000 in
set_option maxHeartbeats 8000000 in
theorem baseView_any {W w : World} {v : Value} {rs : List Rep} (h : RepRd W v rs) (hb0 : Below W.heap.size W w) (hl : rs.length ≤ 1000) :
    Calls Try.prog 29 #[v] w (BaseVOut rs W w) := by
  have KN := Kn.start w
  have H := Lib.hid (h.below hb0)
  have HB0 := Lib.hid hb0
  obtain ⟨a, c, rfl, _, hf⟩ := h.form
  obtain ⟨n, hn⟩ : ∃ n, n = rs.length := ⟨_, rfl⟩
  have HN := Lib.hid hn
  have HF := Lib.hid hf
  rw [← hn] at H hl ⊢
  clear h hf hn hb0
  go_enter Try.func29, Try.ntmps29
  go_wp2_with (first | (go_at_call 10; refine (Base_any (H.out.below KN.toBelow) (by rw [← HN.out]; exact hl)).mono ?_; rintro e wx ⟨b, ad, rfl, hbs, hb⟩; have HBS := Lib.hid hbs; replace KN := KN.below hb; clear hb hbs) | ((with_reducible refine wpList_gate ?_); first | ((with_reducible refine gate_load ?_ ?_); rfl; first | (refine ks_loadW KN 40 Try.underlying40 ?_) | (refine ks_load1 KN 3 Try.underlying3 ?_) | (refine ks_loadW KN 30 Try.underlying30 ?_) | (refine ks_load1 KN 4 Try.underlying4 ?_)) | ((with_reducible refine gate_store ?_ ?_); rfl; first | (refine ks_storeW KN 40 ?_; clear KN; intro wx KN) | (refine ks_storeA KN 40 ?_; clear KN; intro wx KN) | (refine ks_storeW KN 30 ?_; clear KN; intro wx KN) | (refine ks_storeA KN 30 ?_; clear KN; intro wx KN)) | ((with_reducible refine gate_new ?_ ?_); rfl; first | (refine ks_alloc KN 30 (q := 2) #[.int .i64 0, .slice none 0 0, .slice none 0 0] ?_; clear KN; intro g2 wx hg2 KN) | (refine ks_alloc KN 40 (q := 6) #[.int .i64 0, .int .i64 0, .slice none 0 0, .slice none 0 0, .slice none 0 0, .slice none 0 0, .slice none 0 0, .slice none 0 0, .slice none 0 0, .slice none 0 0, .bool false, .int .i64 0, .slice none 0 0, .slice none 0 0, .slice none 0 0, .slice none 0 0, .slice none 0 0, .slice none 0 0, .slice none 0 0, .slice none 0 0] ?_; clear KN; intro g6 wx hg6 KN) | (refine ks_alloc KN 40 (q := 8) #[.int .i64 0, .int .i64 0, .slice none 0 0, .slice none 0 0, .slice none 0 0, .slice none 0 0, .slice none 0 0, .slice none 0 0, .slice none 0 0, .slice none 0 0, .bool false, .int .i64 0, .slice none 0 0, .slice none 0 0, .slice none 0 0, .slice none 0 0, .slice none 0 0, .slice none 0 0, .slice none 0 0, .slice none 0 0] ?_; clear KN; intro g8 wx hg8 KN) | (refine wpList_built rfl 30 #[] rfl #[.int .i64 0, .slice none 0 0, .slice none 0 0] (by kernel_rfl) ?_))))
  go_loopw [16] (fun i wr => BvR1 rs b g2 w i wr) (fun i _ => n - (intOf i).toNat)
  case atStart => exact ⟨0, rfl, Nat.zero_le _, rfl, KN⟩
  case round =>
    clear KN
    obtain ⟨k, rfl, hk, hnone, KN⟩ := hrel
    have HNO := Lib.hid hnone
    rw [← HN.out] at hk
    clear hnone
    by_cases hlt : k < n
    · obtain ⟨r, hr⟩ : ∃ r, rs[k]? = some r := ⟨_, List.getElem?_eq_getElem (by rw [← HN.out]; exact hlt)⟩
      obtain ⟨g, off, cs, rfl, hg, hc1, hc2, hd, hrange⟩ := HF.out k r hr
      obtain ⟨m, o, s0, s2, s3, nm, no, p0, p2, p3, rfl, q1, q2, _, _⟩ := hd
      have HR := Lib.hid hr
      have RNG := Lib.hid (fun j v hj => (HB0.out.cell (by exact hg)).trans (hrange j v hj) : w.rangeAt g _ _)
      have hg := Nat.lt_of_lt_of_le hg HB0.out.size
      have HQ1 := Lib.hid q1
      have HQ2 := Lib.hid q2
      have hc1' : n ≤ c := by rw [HN.out]; exact hc1
      unfold maxLen at hc2
      obtain ⟨rd, hrd⟩ : ∃ q, q = r.ready := ⟨_, rfl⟩
      rw [← hrd] at RNG
      clear hr hrange hc1 q1 q2 hrd
      by_cases hq : r.view.num = b
      · have hqb : (r.view.num == b) = true := beq_iff_eq.2 hq
        have HFD : Hid (baseVf rs b ad = r.view) := Lib.hid (by unfold baseVf; rw [find_hit HNO.out HR.out hqb])
        clear hq
        obtain ⟨ma, mn, mc⟩ := m
        obtain ⟨oa, on, oc⟩ := o
        go_wp2_with (first | ((with_reducible refine wpList_gate ?_); first | ((with_reducible refine gate_load ?_ ?_); rfl; first | (refine wpList_kn_oldN KN (by rfl) 40 _ rfl g _ rfl (repA r.core r.view.num ⟨ma, mn, mc⟩ ⟨oa, on, oc⟩ s0 s2 s3 rd r.next.num nm no p0 p2 p3) RNG.out hg (by simp) _ Try.underlying40 rfl (by kernel_rfl) ?_) | (refine wpList_kn_loadN KN (by rfl) 30 _ rfl g6 1 rfl (repA r.core r.view.num ⟨ma, mn, mc⟩ ⟨oa, on, oc⟩ s0 s2 s3 rd r.next.num nm no p0 p2 p3) _ (by repeat (first | exact Has.here | refine Has.there ?_)) #[.int .i64 r.view.num, .slice ma mn mc, .slice oa on oc] rfl _ Try.underlying30 rfl (by kernel_rfl) ?_) | (refine ks_loadW KN 40 Try.underlying40 ?_) | (refine ks_load1 KN 3 Try.underlying3 ?_) | (refine ks_loadW KN 30 Try.underlying30 ?_) | (refine ks_load1 KN 4 Try.underlying4 ?_)) | ((with_reducible refine gate_store ?_ ?_); rfl; first | (refine ks_storeW KN 40 ?_; clear KN; intro wx KN) | (refine ks_storeA KN 40 ?_; clear KN; intro wx KN) | (refine ks_storeW KN 30 ?_; clear KN; intro wx KN) | (refine ks_storeA KN 30 ?_; clear KN; intro wx KN)) | ((with_reducible refine gate_new ?_ ?_); rfl; first | (refine ks_alloc KN 30 (q := 2) #[.int .i64 0, .slice none 0 0, .slice none 0 0] ?_; clear KN; intro g2 wx hg2 KN) | (refine ks_alloc KN 40 (q := 6) #[.int .i64 0, .int .i64 0, .slice none 0 0, .slice none 0 0, .slice none 0 0, .slice none 0 0, .slice none 0 0, .slice none 0 0, .slice none 0 0, .slice none 0 0, .bool false, .int .i64 0, .slice none 0 0, .slice none 0 0, .slice none 0 0, .slice none 0 0, .slice none 0 0, .slice none 0 0, .slice none 0 0, .slice none 0 0] ?_; clear KN; intro g6 wx hg6 KN) | (refine ks_alloc KN 40 (q := 8) #[.int .i64 0, .int .i64 0, .slice none 0 0, .slice none 0 0, .slice none 0 0, .slice none 0 0, .slice none 0 0, .slice none 0 0, .slice none 0 0, .slice none 0 0, .bool false, .int .i64 0, .slice none 0 0, .slice none 0 0, .slice none 0 0, .slice none 0 0, .slice none 0 0, .slice none 0 0, .slice none 0 0, .slice none 0 0] ?_; clear KN; intro g8 wx hg8 KN) | (refine wpList_built rfl 30 #[] rfl #[.int .i64 0, .slice none 0 0, .slice none 0 0] (by kernel_rfl) ?_))))
        refine bodyPost_ret (results_cell_row (p := 2) Try.results29 _ _ g2 30 #[.int .i64 r.view.num, .slice ma mn mc, .slice oa on oc] (0, 0) _ rfl (KN.at_ (by repeat (first | exact Has.here | refine Has.there ?_))) Try.underlying30 rfl (by kernel_rfl)) rfl ?_
        exact ⟨⟨ma, mn, mc⟩, ⟨oa, on, oc⟩, b, ad, HBS.out, by rw [HFD.out]; rfl, by rw [HFD.out]; exact HQ1.out, by rw [HFD.out]; exact HQ2.out, KN.toBelow⟩
      · have hqb : (r.view.num == b) = false := beq_eq_false_iff_ne.2 hq
        have HNX := Lib.hid (find_none_take HNO.out HR.out hqb)
        clear hq
        go_wp2_with (first | ((with_reducible refine wpList_gate ?_); first | ((with_reducible refine gate_load ?_ ?_); rfl; first | (refine wpList_kn_oldN KN (by rfl) 40 _ rfl g _ rfl (repA r.core r.view.num m o s0 s2 s3 rd r.next.num nm no p0 p2 p3) RNG.out hg (by simp) _ Try.underlying40 rfl (by kernel_rfl) ?_) | (refine ks_loadW KN 40 Try.underlying40 ?_) | (refine ks_load1 KN 3 Try.underlying3 ?_) | (refine ks_loadW KN 30 Try.underlying30 ?_) | (refine ks_load1 KN 4 Try.underlying4 ?_)) | ((with_reducible refine gate_store ?_ ?_); rfl; first | (refine ks_storeW KN 40 ?_; clear KN; intro wx KN) | (refine ks_storeA KN 40 ?_; clear KN; intro wx KN) | (refine ks_storeW KN 30 ?_; clear KN; intro wx KN) | (refine ks_storeA KN 30 ?_; clear KN; intro wx KN)) | ((with_reducible refine gate_new ?_ ?_); rfl; first | (refine ks_alloc KN 30 (q := 2) #[.int .i64 0, .slice none 0 0, .slice none 0 0] ?_; clear KN; intro g2 wx hg2 KN) | (refine ks_alloc KN 40 (q := 6) #[.int .i64 0, .int .i64 0, .slice none 0 0, .slice none 0 0, .slice none 0 0, .slice none 0 0, .slice none 0 0, .slice none 0 0, .slice none 0 0, .slice none 0 0, .bool false, .int .i64 0, .slice none 0 0, .slice none 0 0, .slice none 0 0, .slice none 0 0, .slice none 0 0, .slice none 0 0, .slice none 0 0, .slice none 0 0] ?_; clear KN; intro g6 wx hg6 KN) | (refine ks_alloc KN 40 (q := 8) #[.int .i64 0, .int .i64 0, .slice none 0 0, .slice none 0 0, .slice none 0 0, .slice none 0 0, .slice none 0 0, .slice none 0 0, .slice none 0 0, .slice none 0 0, .bool false, .int .i64 0, .slice none 0 0, .slice none 0 0, .slice none 0 0, .slice none 0 0, .slice none 0 0, .slice none 0 0, .slice none 0 0, .slice none 0 0] ?_; clear KN; intro g8 wx hg8 KN) | (refine wpList_built rfl 30 #[] rfl #[.int .i64 0, .slice none 0 0, .slice none 0 0] (by kernel_rfl) ?_))))
        go_roundw
        case rel => exact ⟨k + 1, by go_num, by rw [← HN.out]; omega, HNX.out, KN.drop .here⟩
        case measure => simp [intOf]; omega
    · obtain rfl : k = n := by omega
      have HN1 : Hid (rs.find? (fun r => r.view.num == b) = none) := Lib.hid (by
        have := HNO.out
        rwa [List.take_of_length_le (by rw [← HN.out]; exact Nat.le_refl _)] at this)
      go_wp2_with fail
      go_loopw [30] (fun i wr => BvR2 rs b ad g2 w i wr) (fun i _ => k - (intOf i).toNat)
      case atStart => exact ⟨0, rfl, Nat.zero_le _, rfl, KN⟩
      case round =>
        clear KN hlt hk HNO
        obtain ⟨j, rfl, hj, hnone, KN⟩ := hrel
        have HNO := Lib.hid hnone
        rw [← HN.out] at hj
        clear hnone
        by_cases hlt : j < k
        · obtain ⟨r, hr⟩ : ∃ r, rs[j]? = some r := ⟨_, List.getElem?_eq_getElem (by rw [← HN.out]; exact hlt)⟩
          obtain ⟨g, off, cs, rfl, hg, hc1, hc2, hd, hrange⟩ := HF.out j r hr
          obtain ⟨m, o, s0, s2, s3, nm, no, p0, p2, p3, rfl, _, _, q1, q2⟩ := hd
          have HR := Lib.hid hr
          have RNG := Lib.hid (fun j v hj => (HB0.out.cell (by exact hg)).trans (hrange j v hj) : w.rangeAt g _ _)
          have hg := Nat.lt_of_lt_of_le hg HB0.out.size
          have HQ1 := Lib.hid q1
          have HQ2 := Lib.hid q2
          have hc1' : k ≤ c := by rw [HN.out]; exact hc1
          unfold maxLen at hc2
          obtain ⟨rd, hrd⟩ : ∃ q, q = r.ready := ⟨_, rfl⟩
          have HRD := Lib.hid hrd
          rw [← hrd] at RNG
          clear hr hrange hc1 q1 q2 hrd
          have HP : Hid (∀ b1 b3, ad = b1 → (r.next.num == b) = b3 → (ad && (r.ready && r.next.num == b)) = (b1 && (rd && b3))) := Lib.hid (fun b1 b3 h1 h3 => by rw [h1, h3, ← HRD.out])
          have hyes : (ad = true ∧ rd = true ∧ (r.next.num == b) = true) ∨ ¬ (ad = true ∧ rd = true ∧ (r.next.num == b) = true) := Classical.em _
          rcases hyes with ⟨h1, h2, h3⟩ | hno
          · have HFD : Hid (baseVf rs b ad = r.next) := Lib.hid (by unfold baseVf; rw [HN1.out, find_hit HNO.out HR.out (by rw [HP.out _ _ h1 h3, h2]; rfl)])
            subst h2
            obtain ⟨ma, mn, mc⟩ := nm
            obtain ⟨oa, on, oc⟩ := no
            go_wp2_with (first | ((with_reducible refine wpList_gate ?_); first | ((with_reducible refine gate_load ?_ ?_); rfl; first | (refine wpList_kn_oldN KN (by rfl) 40 _ rfl g _ rfl (repA r.core r.view.num m o s0 s2 s3 true r.next.num ⟨ma, mn, mc⟩ ⟨oa, on, oc⟩ p0 p2 p3) RNG.out hg (by simp) _ Try.underlying40 rfl (by kernel_rfl) ?_) | (refine wpList_kn_loadN KN (by rfl) 30 _ rfl g8 11 rfl (repA r.core r.view.num m o s0 s2 s3 true r.next.num ⟨ma, mn, mc⟩ ⟨oa, on, oc⟩ p0 p2 p3) _ (by repeat (first | exact Has.here | refine Has.there ?_)) #[.int .i64 r.next.num, .slice ma mn mc, .slice oa on oc] rfl _ Try.underlying30 rfl (by kernel_rfl) ?_) | (refine ks_loadW KN 40 Try.underlying40 ?_) | (refine ks_load1 KN 3 Try.underlying3 ?_) | (refine ks_loadW KN 30 Try.underlying30 ?_) | (refine ks_load1 KN 4 Try.underlying4 ?_)) | ((with_reducible refine gate_store ?_ ?_); rfl; first | (refine ks_storeW KN 40 ?_; clear KN; intro wx KN) | (refine ks_storeA KN 40 ?_; clear KN; intro wx KN) | (refine ks_storeW KN 30 ?_; clear KN; intro wx KN) | (refine ks_storeA KN 30 ?_; clear KN; intro wx KN)) | ((with_reducible refine gate_new ?_ ?_); rfl; first | (refine ks_alloc KN 30 (q := 2) #[.int .i64 0, .slice none 0 0, .slice none 0 0] ?_; clear KN; intro g2 wx hg2 KN) | (refine ks_alloc KN 40 (q := 6) #[.int .i64 0, .int .i64 0, .slice none 0 0, .slice none 0 0, .slice none 0 0, .slice none 0 0, .slice none 0 0, .slice none 0 0, .slice none 0 0, .slice none 0 0, .bool false, .int .i64 0, .slice none 0 0, .slice none 0 0, .slice none 0 0, .slice none 0 0, .slice none 0 0, .slice none 0 0, .slice none 0 0, .slice none 0 0] ?_; clear KN; intro g6 wx hg6 KN) | (refine ks_alloc KN 40 (q := 8) #[.int .i64 0, .int .i64 0, .slice none 0 0, .slice none 0 0, .slice none 0 0, .slice none 0 0, .slice none 0 0, .slice none 0 0, .slice none 0 0, .slice none 0 0, .bool false, .int .i64 0, .slice none 0 0, .slice none 0 0, .slice none 0 0, .slice none 0 0, .slice none 0 0, .slice none 0 0, .slice none 0 0, .slice none 0 0] ?_; clear KN; intro g8 wx hg8 KN) | (refine wpList_built rfl 30 #[] rfl #[.int .i64 0, .slice none 0 0, .slice none 0 0] (by kernel_rfl) ?_))))
            refine bodyPost_ret (results_cell_row (p := 2) Try.results29 _ _ g2 30 #[.int .i64 r.next.num, .slice ma mn mc, .slice oa on oc] (0, 0) _ rfl (KN.at_ (by repeat (first | exact Has.here | refine Has.there ?_))) Try.underlying30 rfl (by kernel_rfl)) rfl ?_
            exact ⟨⟨ma, mn, mc⟩, ⟨oa, on, oc⟩, b, ad, HBS.out, by rw [HFD.out]; rfl, by rw [HFD.out]; exact HQ1.out, by rw [HFD.out]; exact HQ2.out, KN.toBelow⟩
          · have HNX := Lib.hid (find_none_take HNO.out HR.out (by
              rw [HP.out _ _ rfl rfl]
              cases h1 : ad <;> cases h2 : rd <;> cases h3 : (r.next.num == b) <;> first | rfl | exact absurd ⟨h1, h2, h3⟩ hno))
            have HNO2 := Lib.hid hno
            clear hno
            cases h1 : ad with
            | false =>
              go_wp2_with (first | ((with_reducible refine wpList_gate ?_); first | ((with_reducible refine gate_load ?_ ?_); rfl; first | (refine wpList_kn_oldN KN (by rfl) 40 _ rfl g _ rfl (repA r.core r.view.num m o s0 s2 s3 rd r.next.num nm no p0 p2 p3) RNG.out hg (by simp) _ Try.underlying40 rfl (by kernel_rfl) ?_) | (refine ks_loadW KN 40 Try.underlying40 ?_) | (refine ks_load1 KN 3 Try.underlying3 ?_) | (refine ks_loadW KN 30 Try.underlying30 ?_) | (refine ks_load1 KN 4 Try.underlying4 ?_)) | ((with_reducible refine gate_store ?_ ?_); rfl; first | (refine ks_storeW KN 40 ?_; clear KN; intro wx KN) | (refine ks_storeA KN 40 ?_; clear KN; intro wx KN) | (refine ks_storeW KN 30 ?_; clear KN; intro wx KN) | (refine ks_storeA KN 30 ?_; clear KN; intro wx KN)) | ((with_reducible refine gate_new ?_ ?_); rfl; first | (refine ks_alloc KN 30 (q := 2) #[.int .i64 0, .slice none 0 0, .slice none 0 0] ?_; clear KN; intro g2 wx hg2 KN) | (refine ks_alloc KN 40 (q := 6) #[.int .i64 0, .int .i64 0, .slice none 0 0, .slice none 0 0, .slice none 0 0, .slice none 0 0, .slice none 0 0, .slice none 0 0, .slice none 0 0, .slice none 0 0, .bool false, .int .i64 0, .slice none 0 0, .slice none 0 0, .slice none 0 0, .slice none 0 0, .slice none 0 0, .slice none 0 0, .slice none 0 0, .slice none 0 0] ?_; clear KN; intro g6 wx hg6 KN) | (refine ks_alloc KN 40 (q := 8) #[.int .i64 0, .int .i64 0, .slice none 0 0, .slice none 0 0, .slice none 0 0, .slice none 0 0, .slice none 0 0, .slice none 0 0, .slice none 0 0, .slice none 0 0, .bool false, .int .i64 0, .slice none 0 0, .slice none 0 0, .slice none 0 0, .slice none 0 0, .slice none 0 0, .slice none 0 0, .slice none 0 0, .slice none 0 0] ?_; clear KN; intro g8 wx hg8 KN) | (refine wpList_built rfl 30 #[] rfl #[.int .i64 0, .slice none 0 0, .slice none 0 0] (by kernel_rfl) ?_))))
              go_roundw
              case rel => exact ⟨j + 1, by go_num, by rw [← HN.out]; omega, by rw [← h1]; exact HNX.out, KN.drop .here⟩
              case measure => simp [intOf]; omega
            | true =>
              cases h2 : rd with
              | false =>
                rw [h2] at RNG
                go_wp2_with (first | ((with_reducible refine wpList_gate ?_); first | ((with_reducible refine gate_load ?_ ?_); rfl; first | (refine wpList_kn_oldN KN (by rfl) 40 _ rfl g _ rfl (repA r.core r.view.num m o s0 s2 s3 false r.next.num nm no p0 p2 p3) RNG.out hg (by simp) _ Try.underlying40 rfl (by kernel_rfl) ?_) | (refine ks_loadW KN 40 Try.underlying40 ?_) | (refine ks_load1 KN 3 Try.underlying3 ?_) | (refine ks_loadW KN 30 Try.underlying30 ?_) | (refine ks_load1 KN 4 Try.underlying4 ?_)) | ((with_reducible refine gate_store ?_ ?_); rfl; first | (refine ks_storeW KN 40 ?_; clear KN; intro wx KN) | (refine ks_storeA KN 40 ?_; clear KN; intro wx KN) | (refine ks_storeW KN 30 ?_; clear KN; intro wx KN) | (refine ks_storeA KN 30 ?_; clear KN; intro wx KN)) | ((with_reducible refine gate_new ?_ ?_); rfl; first | (refine ks_alloc KN 30 (q := 2) #[.int .i64 0, .slice none 0 0, .slice none 0 0] ?_; clear KN; intro g2 wx hg2 KN) | (refine ks_alloc KN 40 (q := 6) #[.int .i64 0, .int .i64 0, .slice none 0 0, .slice none 0 0, .slice none 0 0, .slice none 0 0, .slice none 0 0, .slice none 0 0, .slice none 0 0, .slice none 0 0, .bool false, .int .i64 0, .slice none 0 0, .slice none 0 0, .slice none 0 0, .slice none 0 0, .slice none 0 0, .slice none 0 0, .slice none 0 0, .slice none 0 0] ?_; clear KN; intro g6 wx hg6 KN) | (refine ks_alloc KN 40 (q := 8) #[.int .i64 0, .int .i64 0, .slice none 0 0, .slice none 0 0, .slice none 0 0, .slice none 0 0, .slice none 0 0, .slice none 0 0, .slice none 0 0, .slice none 0 0, .bool false, .int .i64 0, .slice none 0 0, .slice none 0 0, .slice none 0 0, .slice none 0 0, .slice none 0 0, .slice none 0 0, .slice none 0 0, .slice none 0 0] ?_; clear KN; intro g8 wx hg8 KN) | (refine wpList_built rfl 30 #[] rfl #[.int .i64 0, .slice none 0 0, .slice none 0 0] (by kernel_rfl) ?_))))
                go_roundw
                case rel => exact ⟨j + 1, by go_num, by rw [← HN.out]; omega, by rw [← h1]; exact HNX.out, KN.drop .here⟩
                case measure => simp [intOf]; omega
              | true =>
                have h3 : (r.next.num == b) = false := by
                  cases h3 : (r.next.num == b) with
                  | false => rfl
                  | true => exact absurd ⟨h1, h2, h3⟩ HNO2.out
                rw [h2] at RNG
                go_wp2_with (first | ((with_reducible refine wpList_gate ?_); first | ((with_reducible refine gate_load ?_ ?_); rfl; first | (refine wpList_kn_oldN KN (by rfl) 40 _ rfl g _ rfl (repA r.core r.view.num m o s0 s2 s3 true r.next.num nm no p0 p2 p3) RNG.out hg (by simp) _ Try.underlying40 rfl (by kernel_rfl) ?_) | (refine ks_loadW KN 40 Try.underlying40 ?_) | (refine ks_load1 KN 3 Try.underlying3 ?_) | (refine ks_loadW KN 30 Try.underlying30 ?_) | (refine ks_load1 KN 4 Try.underlying4 ?_)) | ((with_reducible refine gate_store ?_ ?_); rfl; first | (refine ks_storeW KN 40 ?_; clear KN; intro wx KN) | (refine ks_storeA KN 40 ?_; clear KN; intro wx KN) | (refine ks_storeW KN 30 ?_; clear KN; intro wx KN) | (refine ks_storeA KN 30 ?_; clear KN; intro wx KN)) | ((with_reducible refine gate_new ?_ ?_); rfl; first | (refine ks_alloc KN 30 (q := 2) #[.int .i64 0, .slice none 0 0, .slice none 0 0] ?_; clear KN; intro g2 wx hg2 KN) | (refine ks_alloc KN 40 (q := 6) #[.int .i64 0, .int .i64 0, .slice none 0 0, .slice none 0 0, .slice none 0 0, .slice none 0 0, .slice none 0 0, .slice none 0 0, .slice none 0 0, .slice none 0 0, .bool false, .int .i64 0, .slice none 0 0, .slice none 0 0, .slice none 0 0, .slice none 0 0, .slice none 0 0, .slice none 0 0, .slice none 0 0, .slice none 0 0] ?_; clear KN; intro g6 wx hg6 KN) | (refine ks_alloc KN 40 (q := 8) #[.int .i64 0, .int .i64 0, .slice none 0 0, .slice none 0 0, .slice none 0 0, .slice none 0 0, .slice none 0 0, .slice none 0 0, .slice none 0 0, .slice none 0 0, .bool false, .int .i64 0, .slice none 0 0, .slice none 0 0, .slice none 0 0, .slice none 0 0, .slice none 0 0, .slice none 0 0, .slice none 0 0, .slice none 0 0] ?_; clear KN; intro g8 wx hg8 KN) | (refine wpList_built rfl 30 #[] rfl #[.int .i64 0, .slice none 0 0, .slice none 0 0] (by kernel_rfl) ?_))))
                go_roundw
                case rel => exact ⟨j + 1, by go_num, by rw [← HN.out]; omega, by rw [← h1]; exact HNX.out, KN.drop .here⟩
                case measure => simp [intOf]; omega
        · have HFD : Hid (baseVf rs b ad = ⟨0, [], []⟩) := Lib.hid (by
            have h2 := HNO.out
            rw [List.take_of_length_le (by rw [← HN.out]; omega)] at h2
            unfold baseVf
            rw [HN1.out]
            dsimp only
            rw [h2])
          go_wp2_with (first | ((with_reducible refine wpList_gate ?_); first | ((with_reducible refine gate_load ?_ ?_); rfl; first | (refine ks_loadW KN 40 Try.underlying40 ?_) | (refine ks_load1 KN 3 Try.underlying3 ?_) | (refine ks_loadW KN 30 Try.underlying30 ?_) | (refine ks_load1 KN 4 Try.underlying4 ?_)) | ((with_reducible refine gate_store ?_ ?_); rfl; first | (refine ks_storeW KN 40 ?_; clear KN; intro wx KN) | (refine ks_storeA KN 40 ?_; clear KN; intro wx KN) | (refine ks_storeW KN 30 ?_; clear KN; intro wx KN) | (refine ks_storeA KN 30 ?_; clear KN; intro wx KN)) | ((with_reducible refine gate_new ?_ ?_); rfl; first | (refine ks_alloc KN 30 (q := 2) #[.int .i64 0, .slice none 0 0, .slice none 0 0] ?_; clear KN; intro g2 wx hg2 KN) | (refine ks_alloc KN 40 (q := 6) #[.int .i64 0, .int .i64 0, .slice none 0 0, .slice none 0 0, .slice none 0 0, .slice none 0 0, .slice none 0 0, .slice none 0 0, .slice none 0 0, .slice none 0 0, .bool false, .int .i64 0, .slice none 0 0, .slice none 0 0, .slice none 0 0, .slice none 0 0, .slice none 0 0, .slice none 0 0, .slice none 0 0, .slice none 0 0] ?_; clear KN; intro g6 wx hg6 KN) | (refine ks_alloc KN 40 (q := 8) #[.int .i64 0, .int .i64 0, .slice none 0 0, .slice none 0 0, .slice none 0 0, .slice none 0 0, .slice none 0 0, .slice none 0 0, .slice none 0 0, .slice none 0 0, .bool false, .int .i64 0, .slice none 0 0, .slice none 0 0, .slice none 0 0, .slice none 0 0, .slice none 0 0, .slice none 0 0, .slice none 0 0, .slice none 0 0] ?_; clear KN; intro g8 wx hg8 KN) | (refine wpList_built rfl 30 #[] rfl #[.int .i64 0, .slice none 0 0, .slice none 0 0] (by kernel_rfl) ?_))))
          refine bodyPost_ret (results_cell_row (p := 2) Try.results29 _ _ g2 30 #[.int .i64 0, .slice none 0 0, .slice none 0 0] (0, 0) _ rfl (KN.at_ (by repeat (first | exact Has.here | refine Has.there ?_))) Try.underlying30 rfl (by kernel_rfl)) rfl ?_
          exact ⟨.nil, .nil, b, ad, HBS.out, by rw [HFD.out]; rfl, by rw [HFD.out]; exact ⟨by simp, .inl ⟨rfl, _, _, rfl⟩⟩, by rw [HFD.out]; exact ⟨by simp, .inl ⟨rfl, _, _, rfl⟩⟩, KN.toBelow⟩
end Go.Proofs.Ytpjejaoobbancaa
