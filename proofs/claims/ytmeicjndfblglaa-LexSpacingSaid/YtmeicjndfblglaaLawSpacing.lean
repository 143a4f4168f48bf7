/- LexSpacing: what the law returns. -/
import Derived.Test.YtmeicjndfblglaaRight
import Derived.Test.YtmeicjndfblglaaSpacePlain
namespace Go.Proofs.Ytmeicjndfblglaa
open Go.RowKit

theorem same_nil (a b : Option Addr) (ca cb : Nat) (bf : Bool) (w : World) :
    Calls Try.prog 14 #[.slice a 0 ca, .slice b 0 cb, .bool bf] w fun e w' => e = .returned (.bool true) ∧ Below w.heap.size w w' := by
  go_enter Try.func14, Try.ntmps14
  go_wp2
  go_loop [7] (fun i => i = .int .i64 0) (fun _ => 0)
  case atStart => rfl
  case round =>
    obtain rfl := hrel
    go_wp2
    go_ret
    exact ⟨rfl, Below.refl _ _⟩

theorem same_toks (va vb : Value) (d dd : List Tok) (w : World) (h : Toks w va d) (hb : TokSlice w vb dd.length dd) (he : dd.map (·.raw) = d.map (·.raw)) (hd : d.length ≤ 100) :
    Calls Try.prog 14 #[va, vb, .bool true] w fun e w' => e = .returned (.bool true) ∧ Below w.heap.size w w' := by
  have hl : dd.length = d.length := by have := congrArg List.length he; simpa using this
  rcases h.slice (by omega) with ⟨rfl, a, c, rfl⟩ | hs
  · simp only [List.length_nil] at hl
    rcases hb.2 with ⟨_, rfl⟩ | ⟨b, off, cap, rfl, _⟩
    · exact same_nil a none c 0 true w
    · rw [hl]; exact same_nil a _ c cap true w
  · refine same_any va vb d.length d dd true w hs (by rw [hl] at hb; exact hb) ?_
    intro i t1 t2 h1 h2
    refine ⟨?_, fun h => by cases h⟩
    have e1 : (d.map (·.raw))[i]? = some t1.raw := by rw [List.getElem?_map, h1]; rfl
    have e2 : (dd.map (·.raw))[i]? = some t2.raw := by rw [List.getElem?_map, h2]; rfl
    rw [he, e1] at e2
    exact Option.some.inj e2

def gapsA : Array Value := #[.string ⟨#[32]⟩, .string ⟨#[10]⟩, .string ⟨#[9, 13, 10]⟩, .string ⟨#[32, 35, 32, 97, 32, 99, 111, 109, 109, 101, 110, 116, 32, 34, 32, 123, 32, 10]⟩, .string ⟨#[35, 10, 35, 10]⟩, .string ⟨#[32, 32, 9]⟩]
theorem gap_cell {w : World} {b i : Nat} {T : TypeId} (h : w.heap[b]? = some (.cells gapsA T)) (hi : i < 6) : w.cell? ⟨b, i, none⟩ = some (.string (str (gapN i))) := by
  unfold World.cell?
  simp only [h]
  obtain rfl | rfl | rfl | rfl | rfl | rfl : i = 0 ∨ i = 1 ∨ i = 2 ∨ i = 3 ∨ i = 4 ∨ i = 5 := by omega
  all_goals rfl
def gI (zs : List Int) (i : Nat) : Nat := (nextV zs i % 6).toNat
theorem spaced_step (rs : List Raw) (g : Nat → Nat) (k : Nat) (r : Raw) (h : rs[k]? = some r) :
    Value.string (str (spaced rs g k) ++ str (textOf r).1 ++ str (gapN (g (k + 1)))) = .string (str (spaced rs g (k + 1))) := by
  congr 1
  apply bytes_ext
  have e : rs.getD k ⟨0, [], 0⟩ = r := by rw [List.getD_eq_getElem?_getD, h]; rfl
  simp only [str, spaced, e]
  simp
theorem gI_lt (zs : List Int) (i : Nat) : gI zs i < 6 := by
  have h1 := Int.emod_nonneg (nextV zs i) (show (6 : Int) ≠ 0 by decide)
  have h2 := Int.emod_lt_of_pos (nextV zs i) (show (0 : Int) < 6 by decide)
  unfold gI; omega

/-- What stands in memory while the text is made: the numbers (K told), the gaps; what was there is as it was. -/
def SpW (T U : TypeId) (vg : Value) (k : Nat) (w1 w : World) : Prop :=
  Below w1.heap.size w1 w ∧ w.heap[w1.heap.size]? = some (.cells #[vg, .int .i64 (k : Int)] T) ∧ w.heap[w1.heap.size + 1]? = some (.cells gapsA U)
theorem SpW.cell {T U : TypeId} {vg : Value} {k i : Nat} {w1 w : World} (h : SpW T U vg k w1 w) (hi : i < 6) : w.cell? ⟨w1.heap.size + 1, i, none⟩ = some (.string (str (gapN i))) := gap_cell h.2.2 hi
theorem SpW.cells {T U : TypeId} {vg : Value} {k : Nat} {w1 w : World} (h : SpW T U vg k w1 w) :
    w.cell? ⟨w1.heap.size, 0, none⟩ = some vg ∧ w.cell? ⟨w1.heap.size, 1, none⟩ = some (.int .i64 (k : Int)) ∧ w.frozen? ⟨w1.heap.size, 1, none⟩ = false ∧ w1.heap.size + 1 < w.heap.size :=
  ⟨by simp [World.cell?, h.2.1], by simp [World.cell?, h.2.1], by simp [World.frozen?, h.2.1], (Array.getElem?_eq_some_iff.1 h.2.2).1⟩
theorem SpW.below {T U : TypeId} {vg : Value} {k : Nat} {w1 w w' : World} (h : SpW T U vg k w1 w) (hb : Below w.heap.size w w') : SpW T U vg k w1 w' := by
  have hz := h.cells.2.2.2
  exact ⟨h.1.trans (hb.mono (by omega)), (hb.block _ (by omega)).trans h.2.1, (hb.block _ hz).trans h.2.2⟩
theorem sp_start (w1 : World) (vg : Value) {T U : TypeId} : SpW T U vg 0 w1 ((w1.alloc (.cells #[vg, .int .i64 0] T)).alloc (.cells gapsA U)) := by
  refine ⟨((Below.refl _ _).alloc (Nat.le_refl _) _).alloc (by simp) _, ?_, ?_⟩
  · rw [Below.heap_alloc _ _ _ (by simp)]; exact heap_alloc_new w1 _
  · have h := heap_alloc_new (w1.alloc (.cells #[vg, .int .i64 0] T)) (.cells gapsA U)
    rw [show (w1.alloc (.cells #[vg, .int .i64 0] T)).heap.size = w1.heap.size + 1 from by simp] at h
    exact h
theorem sp_next {T U : TypeId} {vg : Value} {k : Nat} {w1 w w' : World} (h : SpW T U vg k w1 w) (hn : ∃ nq, w' = (w.setCell ⟨w1.heap.size, 1, none⟩ (.int .i64 ((k + 1 : Nat) : Int))).drewN nq) : SpW T U vg (k + 1) w1 w' := by
  obtain ⟨nq, rfl⟩ := hn
  refine ⟨below_drewN (h.1.setCell (Nat.le_refl _) _) _, ?_, ?_⟩
  · show (w.setCell _ _).heap[w1.heap.size]? = _
    simp only [World.setCell, Array.getElem?_modify, if_pos, h.2.1]
    rfl
  · show (w.setCell _ _).heap[w1.heap.size + 1]? = _
    rw [Below.heap_setCell _ _ _ _ (by simp)]; exact h.2.2

theorem Toks.get {w : World} {a : Option Addr} {n c : Nat} {d : List Tok} (h : Toks w (.slice a n c) d) {k : Nat} {t : Tok} (ht : d[k]? = some t) : ∃ b off, a = some ⟨b, off, none⟩ ∧ b < w.heap.size ∧
    w.cell? ⟨b, off + k * 5, none⟩ = some (.int .i64 t.raw.kind) ∧ w.cell? ⟨b, off + k * 5 + 1, none⟩ = some (.string (str t.raw.text)) ∧ w.cell? ⟨b, off + k * 5 + 2, none⟩ = some (.int .u64 t.raw.value) ∧ w.cell? ⟨b, off + k * 5 + 3, none⟩ = some (.int .i64 t.line) ∧ w.cell? ⟨b, off + k * 5 + 4, none⟩ = some (.int .i64 t.col) := by
  rcases h.1.2 with ⟨h, _⟩ | ⟨b, off, cap, hv, h0, hl, hm, hb, hc⟩
  · have : d = [] := by simpa using h
    subst this; simp at ht
  · simp only [Value.slice.injEq] at hv
    have g := hc k t.cells.toList
    have hi : (d.map fun t => t.cells.toList)[k]? = some t.cells.toList := by rw [List.getElem?_map, ht]; rfl
    exact ⟨b, off, hv.1, hb, g 0 _ hi rfl, g 1 _ hi rfl, g 2 _ hi rfl, g 3 _ hi rfl, g 4 _ hi rfl⟩

set_option maxRecDepth 100000 in
set_option maxHeartbeats 4000000 in
theorem LexSpacing_any (va vg : Value) (d : List Tok) (zs : List Int) (w : World) (h : Toks w va d) (hg : Ints w vg zs) :
    Calls Try.prog 3 #[va, vg] w fun e w' => e = .returned (.bool true) ∧ Below w.heap.size w w' := by
  rcases Bool.eq_false_or_eq_true (rightB d) with hr | hr
  · have hlen : d.length ≤ 100 := by unfold rightB at hr; simp only [Bool.and_eq_true, decide_eq_true_eq] at hr; exact hr.1
    have hall : ∀ t ∈ d, okTok t = true := by unfold rightB at hr; simp only [Bool.and_eq_true, List.all_eq_true] at hr; exact hr.2
    obtain ⟨ag, cg, rfl⟩ := hg.1.form
    obtain ⟨al, cl, rfl⟩ := h.1.form
    rw [List.length_map] at hg ⊢
    rw [List.length_map] at h ⊢
    obtain ⟨n, hn⟩ : ∃ n, n = d.length := ⟨_, rfl⟩
    have HN := Lib.hid hn
    rw [← hn] at hlen h ⊢
    clear hn
    have H := Lib.hid h
    have HG := Lib.hid hg
    have HALL := Lib.hid hall
    have hrs : ∀ r ∈ d.map (·.raw), (0 ≤ r.value ∧ r.value ≤ 18446744073709551615) ∧ (textOf r).2 = true ∧ r.text.length ≤ 200 := by
      intro r hr
      obtain ⟨t, ht, rfl⟩ := List.mem_map.1 hr
      have h3 := hall t ht
      unfold okTok at h3
      simp only [Bool.and_eq_true, decide_eq_true_eq] at h3
      exact ⟨(h.2 t ht).2, h3⟩
    have hsz : ∀ k, k ≤ n → (str (spaced (d.map (·.raw)) (gI zs) k)).size ≤ 30000 := by
      intro k hk
      rw [str_size]
      have := spaced_len (d.map (·.raw)) (gI zs) (gI_lt zs) (fun r hr => ⟨(hrs r hr).1, (hrs r hr).2.2⟩) k (by rw [List.length_map, ← HN.out]; exact hk)
      omega
    have hpl := spaced_scan (d.map (·.raw)) (gI zs) (gI_lt zs) (by rw [List.length_map, ← HN.out]; exact hlen) hrs
    have HSZ := Lib.hid hsz
    have HPL := Lib.hid hpl
    clear h hg hall hrs hsz hpl
    go_enter Try.func3, Try.ntmps3
    go_wp2_with fail
    refine (right_any _ d _ H.out).mono ?_
    rintro e w1 ⟨rfl, hb1⟩
    have H1 := Lib.hid (H.out.below hb1)
    have HG1 := Lib.hid (HG.out.below hb1)
    have HB1 := Lib.hid hb1
    have hz1 := hb1.size
    clear hb1 H HG
    go_wp2_with fail
    have hin := sp_start w1 (.slice ag zs.length cg) (T := 28) (U := 9)
    clear hr
    refine (Next_any w1.heap.size 0 (.slice ag zs.length cg) zs 6 _ (by simp) (by simp) (by simp) (HG1.out.below (by exact ((Below.refl _ _).alloc (Nat.le_refl _) _).alloc (by simp) _)) (by omega) (by omega) (by omega)).mono ?_
    rintro e w2 ⟨rfl, hw2⟩
    have hst := sp_next hin hw2
    have HG2 := Lib.hid (HG1.out.below hst.1)
    have HST := Lib.hid hst
    have hcell := hst.cell (i := (nextV zs 0 % 6).toNat) (gI_lt zs 0)
    have hq0 := Int.emod_nonneg (nextV zs 0) (show (6 : Int) ≠ 0 by decide)
    have hq1 := Int.emod_lt_of_pos (nextV zs 0) (show (0 : Int) < 6 by decide)
    have HH2 := Lib.hid (H1.out.below hst.1)
    clear hin hw2 hst
    go_wp2_with fail
    go_loopw [7, 8] (fun x i wr => ∃ k : Nat, k ≤ n ∧ i = .int .i64 k ∧ x = .string (str (spaced (d.map (·.raw)) (gI zs) k)) ∧ SpW 28 9 (.slice ag zs.length cg) (k + 1) w1 wr) (fun _ i _ => n - (intOf i).toNat)
    case atStart => exact ⟨0, Nat.zero_le _, rfl, rfl, HST.out⟩
    case round =>
      obtain ⟨k, hk, rfl, rfl, hsp⟩ := hrel
      have HSP := Lib.hid hsp
      clear hsp hcell
      by_cases hlt : k < n
      · obtain ⟨t, ht⟩ : ∃ t, d[k]? = some t := ⟨_, List.getElem?_eq_getElem (by rw [← HN.out]; exact hlt)⟩
        obtain ⟨f0, f1, f2⟩ := H1.out.2 t (List.mem_of_getElem? ht)
        obtain ⟨b, off, rfl, hb, x0, x1, x2, x3, x4⟩ := (H1.out.below HSP.out.1).get ht
        have HT := Lib.hid ht
        have htl := textOf_len t.raw ⟨f1, f2⟩ (by have := HALL.out t (List.mem_of_getElem? ht); unfold okTok at this; simp only [Bool.and_eq_true, decide_eq_true_eq] at this; exact this.2)
        clear ht
        obtain ⟨s, hs⟩ : ∃ s, s = str (spaced (d.map (·.raw)) (gI zs) k) := ⟨_, rfl⟩
        have hsl : s.size ≤ 30000 := by rw [hs]; exact HSZ.out k hk
        rw [← hs]
        have HS := Lib.hid hs
        clear hs
        go_wp2_with fail
        refine (Text_any t.raw t.line t.col _ f0 ⟨f1, f2⟩).mono ?_
        rintro e w3 ⟨rfl, hb3⟩
        have hs3 := HSP.out.below hb3
        have HG3 := Lib.hid (HG1.out.below hs3.1)
        obtain ⟨c0, c1, c2, c3⟩ := hs3.cells
        have HS3 := Lib.hid hs3
        clear hs3 hb3 x0 x1 x2 x3 x4
        obtain ⟨u, hu⟩ : ∃ u, u = str (textOf t.raw).1 := ⟨_, rfl⟩
        have hul : u.size ≤ 300 := by rw [hu, str_size]; omega
        rw [← hu]
        have HU := Lib.hid hu
        clear hu
        go_wp2_with fail
        refine (Next_any w1.heap.size (k + 1) (.slice ag zs.length cg) zs 6 _ c0 c1 c2 HG3.out (by omega) (by omega) (by omega)).mono ?_
        rintro e w4 ⟨rfl, hw4⟩
        have hst := sp_next HS3.out hw4
        have HST4 := Lib.hid hst
        have hcell := hst.cell (i := (nextV zs (k + 1) % 6).toNat) (gI_lt zs (k + 1))
        have hq2 := Int.emod_nonneg (nextV zs (k + 1)) (show (6 : Int) ≠ 0 by decide)
        have hq3 := Int.emod_lt_of_pos (nextV zs (k + 1)) (show (0 : Int) < 6 by decide)
        have hgl := (gap_seg _ (gI_lt zs (k + 1))).2.2
        rw [show (nextV zs (k + 1) % 6).toNat = gI zs (k + 1) from rfl] at hcell
        obtain ⟨v, hv⟩ : ∃ v, v = str (gapN (gI zs (k + 1))) := ⟨_, rfl⟩
        have hvl : v.size ≤ 18 := by rw [hv, str_size]; exact hgl
        rw [← hv] at hcell
        have HV := Lib.hid hv
        rw [show gI zs (k + 1) = (nextV zs (k + 1) % 6).toNat from rfl] at hcell
        clear hw4 hst hv hgl c0 c1 c2
        go_wp2
        go_roundw
        case rel =>
          refine ⟨k + 1, by omega, by go_num, ?_, HST4.out⟩
          rw [HS.out, HU.out, HV.out]
          exact spaced_step _ _ _ _ (by rw [List.getElem?_map, HT.out]; rfl)
        case measure => simp [intOf]; omega
      · have hkn : k = n := by omega
        subst hkn
        obtain ⟨s, hs⟩ : ∃ s, s = str (spaced (d.map (·.raw)) (gI zs) k) := ⟨_, rfl⟩
        have hsl : s.size ≤ 30000 := by rw [hs]; exact HSZ.out k (Nat.le_refl _)
        rw [← hs]
        have HS := Lib.hid hs
        have hss : (s ++ (⟨#[35, 32, 116, 104, 101, 32, 101, 110, 100]⟩ : ByteArray)).size ≤ maxLen := by rw [ByteArray.size_append]; show s.size + 9 ≤ maxLen; unfold maxLen; omega
        have HSS := Lib.hid hss
        have hcat : (s ++ (⟨#[35, 32, 116, 104, 101, 32, 101, 110, 100]⟩ : ByteArray)).data.toList = spaced (d.map (·.raw)) (gI zs) (d.map (·.raw)).length ++ theEnd := by
          rw [List.length_map, ← HN.out, hs]
          simp [str, theEnd]
        have HCAT := Lib.hid hcat
        have HA := Lib.hid (H1.out.below HSP.out.1)
        have hzz := HSP.out.cells.2.2.2
        clear hs hss hcat
        go_wp2_with fail
        refine (ScanP_any _ _ HSS.out).mono ?_
        intro e w5 hp
        rw [HCAT.out] at hp
        obtain ⟨_, dd, hr5, hd5⟩ := HPL.out
        obtain ⟨vb, rfl, htb, hb5⟩ := scan_post hr5 hp
        have HB5 := Lib.hid hb5
        have hz5 := hb5.size
        have HTB := Lib.hid htb
        have HD5 := Lib.hid hd5
        have HA5 := Lib.hid (HA.out.below hb5)
        clear hr5 hd5 htb hb5 hp
        go_wp2_with fail
        refine (same_toks _ _ d dd _ (HA5.out.below ((Below.refl _ _).alloc (Nat.le_refl _) _)) (HTB.out.below ((Below.refl _ _).alloc (Nat.le_refl _) _)) HD5.out (by rw [← HN.out]; exact hlen)).mono ?_
        rintro e w6 ⟨rfl, hb6⟩
        have hz6 : w5.heap.size + 1 ≤ w6.heap.size := by have := hb6.size; simpa using this
        have c1 := ((HSP.out.1.trans (HB5.out.mono (by omega))).alloc (by omega) (.cells #[.int .i64 0, .int .i64 0] 35)).trans (hb6.mono (by simp; omega))
        have C1 := Lib.hid c1
        clear c1 hb6
        go_wp2_with (go_at_call 10; refine (awake_any _).mono ?_; rintro e w7 ⟨rfl, hb7⟩)
        go_ret
        exact ⟨rfl, (HB1.out.trans (C1.out.mono hz1)).trans (Below.mono (B := w6.heap.size) (by assumption) (by omega))⟩
  · have H := Lib.hid h
    clear h hg
    go_enter Try.func3, Try.ntmps3
    go_wp2_with fail
    refine (right_any va d _ H.out).mono ?_
    rintro e w1 ⟨rfl, hb1⟩
    have HB1 := Lib.hid hb1
    have hz1 := hb1.size
    clear hb1 H
    go_wp2_with (go_at_call 10; refine (awake_any _).mono ?_; rintro e w2 ⟨rfl, hb2⟩)
    go_ret
    exact ⟨rfl, HB1.out.trans (Below.mono (B := w1.heap.size) (by assumption) hz1)⟩
end Go.Proofs.Ytmeicjndfblglaa
