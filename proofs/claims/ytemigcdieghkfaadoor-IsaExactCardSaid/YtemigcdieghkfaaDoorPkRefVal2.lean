/- The reference's Validate. -/
import Derived.Test.YtemigcdieghkfaaDoorPkRefG
import Derived.Deep.RegionHeld3
import Derived.Deep.DrawnRows
import Derived.Deep.Cut
import Derived.Deep.DeepCutAuto
import Derived.Deep.RegionWith
set_option linter.unusedVariables false
set_option linter.unusedSimpArgs false
set_option linter.unusedSectionVars false
namespace Go.Proofs.YtemigcdieghkfaaDoor
open Go.RowKit
attribute [local go_sem ↓] Go.wp_at_zero Go.wp_at_succ

theorem Ins.get0 (x : Ins) : x.cells[0]? = some (.int .i64 x.op) := rfl
theorem Ins.get1 (x : Ins) : x.cells[1]? = some (.int .i64 x.a) := rfl
theorem Ins.get2 (x : Ins) : x.cells[2]? = some (.int .i64 x.b) := rfl
theorem Ins.get3 (x : Ins) : x.cells[3]? = some (.int .i64 x.c) := rfl
theorem Ins.get4 (x : Ins) : x.cells[4]? = some (.int .i32 x.imm) := rfl
attribute [local go_sem] Ins.get0 Ins.get1 Ins.get2 Ins.get3 Ins.get4
theorem s9_start (W0 : World) (q : Nat) (x : Ins) (T : TypeId) (h : BlkT W0 q x.cells T) :
    W0.drew.cell? ⟨q, 0, none⟩ = some (.int .i64 x.op) ∧ W0.drew.cell? ⟨q, 1, none⟩ = some (.int .i64 x.a) ∧ W0.drew.cell? ⟨q, 2, none⟩ = some (.int .i64 x.b) ∧ W0.drew.cell? ⟨q, 3, none⟩ = some (.int .i64 x.c) ∧ W0.drew.cell? ⟨q, 4, none⟩ = some (.int .i32 x.imm) ∧ BlkT W0.drew q x.cells T ∧ Below W0.heap.size W0 W0.drew := by
  have h' : BlkT W0.drew q x.cells T := h
  exact ⟨blk_cell h' 0, blk_cell h' 1, blk_cell h' 2, blk_cell h' 3, blk_cell h' 4, h', (Below.refl _ _).drew⟩
theorem s9_same {P : Prop} (h : P) : P := h
theorem s9_next {W0 W w' : World} {q : Nat} {x : Ins} {T : TypeId}
    (h : W.cell? ⟨q, 0, none⟩ = some (.int .i64 x.op) ∧ W.cell? ⟨q, 1, none⟩ = some (.int .i64 x.a) ∧ W.cell? ⟨q, 2, none⟩ = some (.int .i64 x.b) ∧ W.cell? ⟨q, 3, none⟩ = some (.int .i64 x.c) ∧ W.cell? ⟨q, 4, none⟩ = some (.int .i32 x.imm) ∧ BlkT W q x.cells T ∧ Below W0.heap.size W0 W)
    (hb : Below W.heap.size W w') :
    w'.cell? ⟨q, 0, none⟩ = some (.int .i64 x.op) ∧ w'.cell? ⟨q, 1, none⟩ = some (.int .i64 x.a) ∧ w'.cell? ⟨q, 2, none⟩ = some (.int .i64 x.b) ∧ w'.cell? ⟨q, 3, none⟩ = some (.int .i64 x.c) ∧ w'.cell? ⟨q, 4, none⟩ = some (.int .i32 x.imm) ∧ BlkT w' q x.cells T ∧ Below W0.heap.size W0 w' := by
  obtain ⟨_, _, _, _, _, h5, h6⟩ := h
  have h' := blk_below h5 hb
  exact ⟨blk_cell h' 0, blk_cell h' 1, blk_cell h' 2, blk_cell h' 3, blk_cell h' 4, h', h6.trans (hb.mono h6.size)⟩
def bad9 (x : Ins) : Bool := !(regOk x.a (uses x.op 97) && regOk x.b (uses x.op 98) && regOk x.c (uses x.op 99) && (x.imm == 0 || uses x.op 105 || uses x.op 116))

theorem insErr_bad {x : Ins} {n : Int} (ho : ¬ (x.op < 0 ∨ 27 < x.op)) (h : bad9 x = true) : insErr x n = 70 := by
  unfold insErr
  rw [if_neg ho, if_pos (by unfold bad9 at h; rw [Bool.not_eq_true'] at h; exact h)]
theorem insErr_good {x : Ins} {n : Int} (ho : ¬ (x.op < 0 ∨ 27 < x.op)) (h : bad9 x = false) : insErr x n = if uses x.op 116 = true ∧ (x.imm < 0 ∨ n ≤ x.imm) then 71 else 0 := by
  unfold insErr
  rw [if_neg ho, if_neg (by unfold bad9 at h; rw [Bool.not_eq_false'] at h; rw [h]; decide)]
set_option maxRecDepth 100000 in
set_option maxHeartbeats 8000000 in
theorem RValidate_any (va : Value) (p : List Ins) (w : World) (h : Instrs w va p) :
    Calls Tryd.prog 20 #[va] w fun e w' => e = .returned (.int .i64 (progErr p)) ∧ Below w.heap.size w w' := by
  obtain ⟨a, c, rfl, _⟩ := h.form
  have hm := h.1.1
  simp only [List.length_map] at hm
  unfold maxLen at hm
  obtain ⟨n, hn⟩ : ∃ n, n = p.length := ⟨_, rfl⟩
  have HN := Lib.hid hn
  have H := Lib.hid h
  rw [← hn] at hm ⊢
  by_cases hbad : n = 0 ∨ 4096 < n
  · have he : progErr p = 15 := by unfold progErr; rw [if_pos (by rw [← hn]; exact hbad)]
    have HE := Lib.hid he
    clear he hn h
    rcases hbad with h0 | h0
    · subst h0
      go_enter Tryd.func20, Tryd.ntmps20
      go_wp2
      go_ret
      exact ⟨ret_int HE.out.symm, Below.refl _ _⟩
    · have h1 : ((n : Int) == 0) = false := by rw [beq_eq_false_iff_ne]; omega
      go_enter Tryd.func20, Tryd.ntmps20
      go_wp2
      go_ret
      exact ⟨ret_int HE.out.symm, Below.refl _ _⟩
  · have he : progErr p = firstErr p.length p := progErr_ok (by rw [← hn]; exact hbad)
    have HE := Lib.hid he
    have n0 : 1 ≤ n := by omega
    have n1 : n ≤ 4096 := by omega
    have h1 : ((n : Int) == 0) = false := by rw [beq_eq_false_iff_ne]; omega
    clear he hn h hbad
    go_enter Tryd.func20, Tryd.ntmps20
    go_wp2_with fail
    go_loopw [3] (fun i wr => ∃ k : Nat, k ≤ n ∧ i = .int .i64 k ∧ (∀ y ∈ p.take k, insErr y n = 0) ∧ Below w.heap.size w wr) (fun i _ => n - (intOf i).toNat)
    case atStart => exact ⟨0, Nat.zero_le _, rfl, by simp, Below.refl _ _⟩
    case round =>
      obtain ⟨k, hk, rfl, hall, hb⟩ := hrel
      have HALL := Lib.hid hall
      have HB := Lib.hid hb
      have hz := hb.size
      by_cases hlt : k < n
      · obtain ⟨x, hx⟩ : ∃ x, p[k]? = some x := ⟨_, List.getElem?_eq_getElem (by rw [← HN.out]; exact hlt)⟩
        obtain ⟨a', c', hv, hcells⟩ := (H.out.below hb).form
        simp only [Value.slice.injEq] at hv
        obtain ⟨g, off, hg, hgb, hc1, hc2, x0, x1, x2, x3, x4⟩ := hcells k x hx
        obtain ⟨rfl, _, rfl⟩ := hv
        subst hg
        have HX := Lib.hid hx
        obtain ⟨i0, i1⟩ := (H.out.2 x (List.mem_of_getElem? hx)).1
        have HNN := Lib.hid (show (n : Int) = p.length by rw [HN.out])
        clear hall hb hcells hx hc1
        unfold maxLen at hc2
        by_cases ho : x.op < 0 ∨ 27 < x.op
        · have hz0 : insErr x n = 70 := by unfold insErr; rw [if_pos ho]
          have HZ := Lib.hid hz0
          clear hz0
          rcases ho with ho | ho
          all_goals
            go_wp2
            go_ret
            exact ⟨ret_int (by rw [HE.out, ← HNN.out, firstErr_at HALL.out HX.out (by rw [HZ.out]; decide)]; exact HZ.out.symm), HB.out.trans (((Below.refl _ _).alloc (Nat.le_refl _) _).mono hz)⟩
        · have o0 : 0 ≤ x.op := by omega
          have o1 : x.op ≤ 27 := by omega
          have HO := Lib.hid ho
          clear ho
          go_upto_region 9 with (fail)
          generalize hW : wr.alloc _ = W0
          have hblk : BlkT W0 wr.heap.size x.cells 35 := by rw [← hW]; exact blk_new _ _ _
          have hbel : Below w.heap.size w W0 := by rw [← hW]; exact HB.out.alloc hz _
          clear hW x0 x1 x2 x3 x4
          have HBEL := Lib.hid hbel
          clear hbel
          obtain ⟨q, hq⟩ : ∃ q, q = wr.heap.size := ⟨_, rfl⟩
          rw [← hq] at hblk ⊢
          have HQ := Lib.hid hq
          clear hq
          go_cut [72] (fun s72 wx => s72 = .bool (bad9 x) ∧ BlkT wx q x.cells 35 ∧ Below W0.heap.size W0 wx)
          case first =>
            have hC := blk_cell hblk
            rcases Bool.eq_false_or_eq_true (regOk x.a (uses x.op 97)) with ra | ra
            case inr =>
              have hbad : bad9 x = true := by unfold bad9; rw [ra]; rfl
              refine wp_region_held_drew (S := (fun w' => w'.cell? ⟨q, 0, none⟩ = some (.int .i64 x.op) ∧ w'.cell? ⟨q, 1, none⟩ = some (.int .i64 x.a) ∧ w'.cell? ⟨q, 2, none⟩ = some (.int .i64 x.b) ∧ w'.cell? ⟨q, 3, none⟩ = some (.int .i64 x.c) ∧ w'.cell? ⟨q, 4, none⟩ = some (.int .i32 x.imm) ∧ BlkT w' q x.cells 35 ∧ Below W0.heap.size W0 w')) (by kernel_rfl) ?PAhS (fun hHeld => ?PArest)
              case PAhS => first | exact s9_next hHeld hb | exact s9_same hHeld | exact s9_start _ _ _ _ hblk
              refine wpAnyH_take (i := 0) (oi := ⟨some 31, _, _, _, _, _⟩) (v := ?PAv0) rfl (by kernel_rfl) (by kernel_rfl) (by kernel_rfl) (fun _ _ _ h => h) (Or.inl ⟨by rfl, ?PAhy0⟩) hHeld ?PAr0
              case PAhy0 => (intro w hSw; (try dsimp only at hSw); go_simp; (try with_reducible rfl))
              (try simp only [Act.put, List.setIfInBounds_toArray, List.set_cons_zero, List.set_cons_succ])
              refine wpAnyH_take (i := 1) (oi := ⟨some 32, _, _, _, _, _⟩) (v := ?PAv1) rfl (by kernel_rfl) (by kernel_rfl) (by kernel_rfl) (fun _ _ _ h => h) (Or.inl ⟨by rfl, ?PAhy1⟩) hHeld ?PAr1
              case PAhy1 => (intro w hSw; (try dsimp only at hSw); go_simp; (try with_reducible rfl))
              (try simp only [Act.put, List.setIfInBounds_toArray, List.set_cons_zero, List.set_cons_succ])
              refine wpAnyH_take (i := 2) (oi := ⟨some 33, _, _, _, _, _⟩) (v := ?PAv2) rfl (by kernel_rfl) (by kernel_rfl) (by kernel_rfl) (fun _ _ _ h => h) (Or.inl ⟨by rfl, ?PAhy2⟩) hHeld ?PAr2
              case PAhy2 => (intro w hSw; (try dsimp only at hSw); go_simp; (try with_reducible rfl))
              (try simp only [Act.put, List.setIfInBounds_toArray, List.set_cons_zero, List.set_cons_succ])
              refine wpAnyH_take (i := 3) (oi := ⟨some 34, _, _, _, _, _⟩) (v := ?PAv3) rfl (by kernel_rfl) (by kernel_rfl) (by kernel_rfl) (fun _ _ _ h => h) (Or.inl ⟨by rfl, ?PAhy3⟩) hHeld ?PAr3
              case PAhy3 => (intro w hSw; (try dsimp only at hSw); go_simp; (try with_reducible rfl))
              (try simp only [Act.put, List.setIfInBounds_toArray, List.set_cons_zero, List.set_cons_succ])
              refine wpAnyH_ready (rs := [4]) (by kernel_rfl) (by simp) ?PAc4
              refine AllReadyH.cons (o := ⟨some 35, _, _, _, _, _⟩) rfl (fun K hK => ?PAst4) AllReadyH.nil
              go_simp
              (go_at_call 52; refine (uses_letters x.op _ o0 o1).1.mono ?_; rintro e w1 ⟨rfl, hb⟩)
              refine hK.out _ _ ?PAk4 (fun hHeld2 => ?PAm4)
              case PAk4 => first | exact s9_next hHeld hb | exact s9_same hHeld | exact s9_start _ _ _ _ hblk
              clear hK K hHeld
              have hHeld := hHeld2; clear hHeld2
              (try simp only [Act.put, List.setIfInBounds_toArray, List.set_cons_zero, List.set_cons_succ])
              refine wpAnyH_ready (rs := [5]) (by kernel_rfl) (by simp) ?PAc5
              refine AllReadyH.cons (o := ⟨some 36, _, _, _, _, _⟩) rfl (fun K hK => ?PAst5) AllReadyH.nil
              go_simp
              (go_at_call 51; refine (register_any _ _ _).mono ?_; rintro e w1 ⟨rfl, rfl⟩; rw [ra])
              refine hK.out _ _ ?PAk5 (fun hHeld2 => ?PAm5)
              case PAk5 => first | exact s9_next hHeld hb | exact s9_same hHeld | exact s9_start _ _ _ _ hblk
              clear hK K hHeld
              have hHeld := hHeld2; clear hHeld2
              (try simp only [Act.put, List.setIfInBounds_toArray, List.set_cons_zero, List.set_cons_succ])
              refine wpAnyH_take (i := 6) (oi := ⟨some 37, _, _, _, _, _⟩) (v := ?PAv6) rfl (by kernel_rfl) (by kernel_rfl) (by kernel_rfl) (fun _ _ _ h => h) (Or.inl ⟨by rfl, ?PAhy6⟩) hHeld ?PAr6
              case PAhy6 => (intro w hSw; (try dsimp only at hSw); go_simp; (try with_reducible rfl))
              (try simp only [Act.put, List.setIfInBounds_toArray, List.set_cons_zero, List.set_cons_succ])
              refine wpAnyH_take (i := 7) (oi := ⟨some 38, _, _, _, _, _⟩) (v := ?PAv7) rfl (by kernel_rfl) (by kernel_rfl) (by kernel_rfl) (fun _ _ _ h => h) (Or.inl ⟨by rfl, ?PAhy7⟩) hHeld ?PAr7
              case PAhy7 => (intro w hSw; (try dsimp only at hSw); go_simp; (try with_reducible rfl))
              (try simp only [Act.put, List.setIfInBounds_toArray, List.set_cons_zero, List.set_cons_succ])
              refine wpAnyH_take (i := 8) (oi := ⟨some 39, _, _, _, _, _⟩) (v := undef) rfl (by kernel_rfl) (by kernel_rfl) (by kernel_rfl) (fun _ _ _ h => h) (Or.inr ⟨by rfl, rfl⟩) hHeld ?PAr8
              (try simp only [Act.put, List.setIfInBounds_toArray, List.set_cons_zero, List.set_cons_succ])
              refine wpAnyH_take (i := 9) (oi := ⟨some 40, _, _, _, _, _⟩) (v := undef) rfl (by kernel_rfl) (by kernel_rfl) (by kernel_rfl) (fun _ _ _ h => h) (Or.inr ⟨by rfl, rfl⟩) hHeld ?PAr9
              (try simp only [Act.put, List.setIfInBounds_toArray, List.set_cons_zero, List.set_cons_succ])
              refine wpAnyH_take (i := 10) (oi := ⟨some 41, _, _, _, _, _⟩) (v := undef) rfl (by kernel_rfl) (by kernel_rfl) (by kernel_rfl) (fun _ _ _ h => h) (Or.inr ⟨by rfl, rfl⟩) hHeld ?PAr10
              (try simp only [Act.put, List.setIfInBounds_toArray, List.set_cons_zero, List.set_cons_succ])
              refine wpAnyH_take (i := 11) (oi := ⟨some 42, _, _, _, _, _⟩) (v := undef) rfl (by kernel_rfl) (by kernel_rfl) (by kernel_rfl) (fun _ _ _ h => h) (Or.inr ⟨by rfl, rfl⟩) hHeld ?PAr11
              (try simp only [Act.put, List.setIfInBounds_toArray, List.set_cons_zero, List.set_cons_succ])
              refine wpAnyH_take (i := 12) (oi := ⟨some 43, _, _, _, _, _⟩) (v := undef) rfl (by kernel_rfl) (by kernel_rfl) (by kernel_rfl) (fun _ _ _ h => h) (Or.inr ⟨by rfl, rfl⟩) hHeld ?PAr12
              (try simp only [Act.put, List.setIfInBounds_toArray, List.set_cons_zero, List.set_cons_succ])
              refine wpAnyH_take (i := 13) (oi := ⟨some 44, _, _, _, _, _⟩) (v := undef) rfl (by kernel_rfl) (by kernel_rfl) (by kernel_rfl) (fun _ _ _ h => h) (Or.inr ⟨by rfl, rfl⟩) hHeld ?PAr13
              (try simp only [Act.put, List.setIfInBounds_toArray, List.set_cons_zero, List.set_cons_succ])
              refine wpAnyH_take (i := 14) (oi := ⟨some 45, _, _, _, _, _⟩) (v := undef) rfl (by kernel_rfl) (by kernel_rfl) (by kernel_rfl) (fun _ _ _ h => h) (Or.inr ⟨by rfl, rfl⟩) hHeld ?PAr14
              (try simp only [Act.put, List.setIfInBounds_toArray, List.set_cons_zero, List.set_cons_succ])
              refine wpAnyH_take (i := 15) (oi := ⟨some 46, _, _, _, _, _⟩) (v := ?PAv15) rfl (by kernel_rfl) (by kernel_rfl) (by kernel_rfl) (fun _ _ _ h => h) (Or.inl ⟨by rfl, ?PAhy15⟩) hHeld ?PAr15
              case PAhy15 => (intro w hSw; (try dsimp only at hSw); go_simp; (try with_reducible rfl))
              (try simp only [Act.put, List.setIfInBounds_toArray, List.set_cons_zero, List.set_cons_succ])
              refine wpAnyH_take (i := 16) (oi := ⟨some 47, _, _, _, _, _⟩) (v := ?PAv16) rfl (by kernel_rfl) (by kernel_rfl) (by kernel_rfl) (fun _ _ _ h => h) (Or.inl ⟨by rfl, ?PAhy16⟩) hHeld ?PAr16
              case PAhy16 => (intro w hSw; (try dsimp only at hSw); go_simp; (try with_reducible rfl))
              (try simp only [Act.put, List.setIfInBounds_toArray, List.set_cons_zero, List.set_cons_succ])
              refine wpAnyH_take (i := 17) (oi := ⟨some 48, _, _, _, _, _⟩) (v := undef) rfl (by kernel_rfl) (by kernel_rfl) (by kernel_rfl) (fun _ _ _ h => h) (Or.inr ⟨by rfl, rfl⟩) hHeld ?PAr17
              (try simp only [Act.put, List.setIfInBounds_toArray, List.set_cons_zero, List.set_cons_succ])
              refine wpAnyH_take (i := 18) (oi := ⟨some 49, _, _, _, _, _⟩) (v := undef) rfl (by kernel_rfl) (by kernel_rfl) (by kernel_rfl) (fun _ _ _ h => h) (Or.inr ⟨by rfl, rfl⟩) hHeld ?PAr18
              (try simp only [Act.put, List.setIfInBounds_toArray, List.set_cons_zero, List.set_cons_succ])
              refine wpAnyH_take (i := 19) (oi := ⟨some 50, _, _, _, _, _⟩) (v := undef) rfl (by kernel_rfl) (by kernel_rfl) (by kernel_rfl) (fun _ _ _ h => h) (Or.inr ⟨by rfl, rfl⟩) hHeld ?PAr19
              (try simp only [Act.put, List.setIfInBounds_toArray, List.set_cons_zero, List.set_cons_succ])
              refine wpAnyH_take (i := 20) (oi := ⟨some 51, _, _, _, _, _⟩) (v := undef) rfl (by kernel_rfl) (by kernel_rfl) (by kernel_rfl) (fun _ _ _ h => h) (Or.inr ⟨by rfl, rfl⟩) hHeld ?PAr20
              (try simp only [Act.put, List.setIfInBounds_toArray, List.set_cons_zero, List.set_cons_succ])
              refine wpAnyH_take (i := 21) (oi := ⟨some 52, _, _, _, _, _⟩) (v := undef) rfl (by kernel_rfl) (by kernel_rfl) (by kernel_rfl) (fun _ _ _ h => h) (Or.inr ⟨by rfl, rfl⟩) hHeld ?PAr21
              (try simp only [Act.put, List.setIfInBounds_toArray, List.set_cons_zero, List.set_cons_succ])
              refine wpAnyH_take (i := 22) (oi := ⟨some 53, _, _, _, _, _⟩) (v := undef) rfl (by kernel_rfl) (by kernel_rfl) (by kernel_rfl) (fun _ _ _ h => h) (Or.inr ⟨by rfl, rfl⟩) hHeld ?PAr22
              (try simp only [Act.put, List.setIfInBounds_toArray, List.set_cons_zero, List.set_cons_succ])
              refine wpAnyH_take (i := 23) (oi := ⟨some 54, _, _, _, _, _⟩) (v := undef) rfl (by kernel_rfl) (by kernel_rfl) (by kernel_rfl) (fun _ _ _ h => h) (Or.inr ⟨by rfl, rfl⟩) hHeld ?PAr23
              (try simp only [Act.put, List.setIfInBounds_toArray, List.set_cons_zero, List.set_cons_succ])
              refine wpAnyH_take (i := 24) (oi := ⟨some 55, _, _, _, _, _⟩) (v := ?PAv24) rfl (by kernel_rfl) (by kernel_rfl) (by kernel_rfl) (fun _ _ _ h => h) (Or.inl ⟨by rfl, ?PAhy24⟩) hHeld ?PAr24
              case PAhy24 => (intro w hSw; (try dsimp only at hSw); go_simp; (try with_reducible rfl))
              (try simp only [Act.put, List.setIfInBounds_toArray, List.set_cons_zero, List.set_cons_succ])
              refine wpAnyH_take (i := 25) (oi := ⟨some 56, _, _, _, _, _⟩) (v := ?PAv25) rfl (by kernel_rfl) (by kernel_rfl) (by kernel_rfl) (fun _ _ _ h => h) (Or.inl ⟨by rfl, ?PAhy25⟩) hHeld ?PAr25
              case PAhy25 => (intro w hSw; (try dsimp only at hSw); go_simp; (try with_reducible rfl))
              (try simp only [Act.put, List.setIfInBounds_toArray, List.set_cons_zero, List.set_cons_succ])
              refine wpAnyH_take (i := 26) (oi := ⟨some 57, _, _, _, _, _⟩) (v := undef) rfl (by kernel_rfl) (by kernel_rfl) (by kernel_rfl) (fun _ _ _ h => h) (Or.inr ⟨by rfl, rfl⟩) hHeld ?PAr26
              (try simp only [Act.put, List.setIfInBounds_toArray, List.set_cons_zero, List.set_cons_succ])
              refine wpAnyH_take (i := 27) (oi := ⟨some 58, _, _, _, _, _⟩) (v := undef) rfl (by kernel_rfl) (by kernel_rfl) (by kernel_rfl) (fun _ _ _ h => h) (Or.inr ⟨by rfl, rfl⟩) hHeld ?PAr27
              (try simp only [Act.put, List.setIfInBounds_toArray, List.set_cons_zero, List.set_cons_succ])
              refine wpAnyH_take (i := 28) (oi := ⟨some 59, _, _, _, _, _⟩) (v := undef) rfl (by kernel_rfl) (by kernel_rfl) (by kernel_rfl) (fun _ _ _ h => h) (Or.inr ⟨by rfl, rfl⟩) hHeld ?PAr28
              (try simp only [Act.put, List.setIfInBounds_toArray, List.set_cons_zero, List.set_cons_succ])
              refine wpAnyH_take (i := 29) (oi := ⟨some 60, _, _, _, _, _⟩) (v := undef) rfl (by kernel_rfl) (by kernel_rfl) (by kernel_rfl) (fun _ _ _ h => h) (Or.inr ⟨by rfl, rfl⟩) hHeld ?PAr29
              (try simp only [Act.put, List.setIfInBounds_toArray, List.set_cons_zero, List.set_cons_succ])
              refine wpAnyH_take (i := 30) (oi := ⟨some 61, _, _, _, _, _⟩) (v := undef) rfl (by kernel_rfl) (by kernel_rfl) (by kernel_rfl) (fun _ _ _ h => h) (Or.inr ⟨by rfl, rfl⟩) hHeld ?PAr30
              (try simp only [Act.put, List.setIfInBounds_toArray, List.set_cons_zero, List.set_cons_succ])
              refine wpAnyH_take (i := 31) (oi := ⟨some 62, _, _, _, _, _⟩) (v := undef) rfl (by kernel_rfl) (by kernel_rfl) (by kernel_rfl) (fun _ _ _ h => h) (Or.inr ⟨by rfl, rfl⟩) hHeld ?PAr31
              (try simp only [Act.put, List.setIfInBounds_toArray, List.set_cons_zero, List.set_cons_succ])
              refine wpAnyH_take (i := 32) (oi := ⟨some 63, _, _, _, _, _⟩) (v := undef) rfl (by kernel_rfl) (by kernel_rfl) (by kernel_rfl) (fun _ _ _ h => h) (Or.inr ⟨by rfl, rfl⟩) hHeld ?PAr32
              (try simp only [Act.put, List.setIfInBounds_toArray, List.set_cons_zero, List.set_cons_succ])
              refine wpAnyH_take (i := 33) (oi := ⟨some 64, _, _, _, _, _⟩) (v := undef) rfl (by kernel_rfl) (by kernel_rfl) (by kernel_rfl) (fun _ _ _ h => h) (Or.inr ⟨by rfl, rfl⟩) hHeld ?PAr33
              (try simp only [Act.put, List.setIfInBounds_toArray, List.set_cons_zero, List.set_cons_succ])
              refine wpAnyH_take (i := 34) (oi := ⟨some 65, _, _, _, _, _⟩) (v := undef) rfl (by kernel_rfl) (by kernel_rfl) (by kernel_rfl) (fun _ _ _ h => h) (Or.inr ⟨by rfl, rfl⟩) hHeld ?PAr34
              (try simp only [Act.put, List.setIfInBounds_toArray, List.set_cons_zero, List.set_cons_succ])
              refine wpAnyH_take (i := 35) (oi := ⟨some 66, _, _, _, _, _⟩) (v := undef) rfl (by kernel_rfl) (by kernel_rfl) (by kernel_rfl) (fun _ _ _ h => h) (Or.inr ⟨by rfl, rfl⟩) hHeld ?PAr35
              (try simp only [Act.put, List.setIfInBounds_toArray, List.set_cons_zero, List.set_cons_succ])
              refine wpAnyH_take (i := 36) (oi := ⟨some 67, _, _, _, _, _⟩) (v := undef) rfl (by kernel_rfl) (by kernel_rfl) (by kernel_rfl) (fun _ _ _ h => h) (Or.inr ⟨by rfl, rfl⟩) hHeld ?PAr36
              (try simp only [Act.put, List.setIfInBounds_toArray, List.set_cons_zero, List.set_cons_succ])
              refine wpAnyH_take (i := 37) (oi := ⟨some 68, _, _, _, _, _⟩) (v := undef) rfl (by kernel_rfl) (by kernel_rfl) (by kernel_rfl) (fun _ _ _ h => h) (Or.inr ⟨by rfl, rfl⟩) hHeld ?PAr37
              (try simp only [Act.put, List.setIfInBounds_toArray, List.set_cons_zero, List.set_cons_succ])
              refine wpAnyH_take (i := 38) (oi := ⟨some 69, _, _, _, _, _⟩) (v := undef) rfl (by kernel_rfl) (by kernel_rfl) (by kernel_rfl) (fun _ _ _ h => h) (Or.inr ⟨by rfl, rfl⟩) hHeld ?PAr38
              (try simp only [Act.put, List.setIfInBounds_toArray, List.set_cons_zero, List.set_cons_succ])
              refine wpAnyH_take (i := 39) (oi := ⟨some 70, _, _, _, _, _⟩) (v := undef) rfl (by kernel_rfl) (by kernel_rfl) (by kernel_rfl) (fun _ _ _ h => h) (Or.inr ⟨by rfl, rfl⟩) hHeld ?PAr39
              (try simp only [Act.put, List.setIfInBounds_toArray, List.set_cons_zero, List.set_cons_succ])
              refine wpAnyH_take (i := 40) (oi := ⟨some 71, _, _, _, _, _⟩) (v := undef) rfl (by kernel_rfl) (by kernel_rfl) (by kernel_rfl) (fun _ _ _ h => h) (Or.inr ⟨by rfl, rfl⟩) hHeld ?PAr40
              (try simp only [Act.put, List.setIfInBounds_toArray, List.set_cons_zero, List.set_cons_succ])
              refine wpAnyH_take (i := 41) (oi := ⟨some 72, _, _, _, _, _⟩) (v := ?PAv41) rfl (by kernel_rfl) (by kernel_rfl) (by kernel_rfl) (fun _ _ _ h => h) (Or.inl ⟨by rfl, ?PAhy41⟩) hHeld ?PAr41
              case PAhy41 => (intro w hSw; (try dsimp only at hSw); go_simp; (try with_reducible rfl))
              (try simp only [Act.put, List.setIfInBounds_toArray, List.set_cons_zero, List.set_cons_succ])
              refine wpAnyH_done (by kernel_rfl) ?PAdone _
              go_wp2
              go_meet
              exact ⟨by rw [hbad], hHeld.2.2.2.2.2.1, hHeld.2.2.2.2.2.2⟩
            rcases Bool.eq_false_or_eq_true (regOk x.b (uses x.op 98)) with rb | rb
            case inr =>
              have hbad : bad9 x = true := by unfold bad9; rw [ra, rb]; rfl
              refine wp_region_held_drew (S := (fun w' => w'.cell? ⟨q, 0, none⟩ = some (.int .i64 x.op) ∧ w'.cell? ⟨q, 1, none⟩ = some (.int .i64 x.a) ∧ w'.cell? ⟨q, 2, none⟩ = some (.int .i64 x.b) ∧ w'.cell? ⟨q, 3, none⟩ = some (.int .i64 x.c) ∧ w'.cell? ⟨q, 4, none⟩ = some (.int .i32 x.imm) ∧ BlkT w' q x.cells 35 ∧ Below W0.heap.size W0 w')) (by kernel_rfl) ?PBhS (fun hHeld => ?PBrest)
              case PBhS => first | exact s9_next hHeld hb | exact s9_same hHeld | exact s9_start _ _ _ _ hblk
              refine wpAnyH_take (i := 0) (oi := ⟨some 31, _, _, _, _, _⟩) (v := ?PBv0) rfl (by kernel_rfl) (by kernel_rfl) (by kernel_rfl) (fun _ _ _ h => h) (Or.inl ⟨by rfl, ?PBhy0⟩) hHeld ?PBr0
              case PBhy0 => (intro w hSw; (try dsimp only at hSw); go_simp; (try with_reducible rfl))
              (try simp only [Act.put, List.setIfInBounds_toArray, List.set_cons_zero, List.set_cons_succ])
              refine wpAnyH_take (i := 1) (oi := ⟨some 32, _, _, _, _, _⟩) (v := ?PBv1) rfl (by kernel_rfl) (by kernel_rfl) (by kernel_rfl) (fun _ _ _ h => h) (Or.inl ⟨by rfl, ?PBhy1⟩) hHeld ?PBr1
              case PBhy1 => (intro w hSw; (try dsimp only at hSw); go_simp; (try with_reducible rfl))
              (try simp only [Act.put, List.setIfInBounds_toArray, List.set_cons_zero, List.set_cons_succ])
              refine wpAnyH_take (i := 2) (oi := ⟨some 33, _, _, _, _, _⟩) (v := ?PBv2) rfl (by kernel_rfl) (by kernel_rfl) (by kernel_rfl) (fun _ _ _ h => h) (Or.inl ⟨by rfl, ?PBhy2⟩) hHeld ?PBr2
              case PBhy2 => (intro w hSw; (try dsimp only at hSw); go_simp; (try with_reducible rfl))
              (try simp only [Act.put, List.setIfInBounds_toArray, List.set_cons_zero, List.set_cons_succ])
              refine wpAnyH_take (i := 3) (oi := ⟨some 34, _, _, _, _, _⟩) (v := ?PBv3) rfl (by kernel_rfl) (by kernel_rfl) (by kernel_rfl) (fun _ _ _ h => h) (Or.inl ⟨by rfl, ?PBhy3⟩) hHeld ?PBr3
              case PBhy3 => (intro w hSw; (try dsimp only at hSw); go_simp; (try with_reducible rfl))
              (try simp only [Act.put, List.setIfInBounds_toArray, List.set_cons_zero, List.set_cons_succ])
              refine wpAnyH_ready (rs := [4]) (by kernel_rfl) (by simp) ?PBc4
              refine AllReadyH.cons (o := ⟨some 35, _, _, _, _, _⟩) rfl (fun K hK => ?PBst4) AllReadyH.nil
              go_simp
              (go_at_call 52; refine (uses_letters x.op _ o0 o1).1.mono ?_; rintro e w1 ⟨rfl, hb⟩)
              refine hK.out _ _ ?PBk4 (fun hHeld2 => ?PBm4)
              case PBk4 => first | exact s9_next hHeld hb | exact s9_same hHeld | exact s9_start _ _ _ _ hblk
              clear hK K hHeld
              have hHeld := hHeld2; clear hHeld2
              (try simp only [Act.put, List.setIfInBounds_toArray, List.set_cons_zero, List.set_cons_succ])
              refine wpAnyH_ready (rs := [5]) (by kernel_rfl) (by simp) ?PBc5
              refine AllReadyH.cons (o := ⟨some 36, _, _, _, _, _⟩) rfl (fun K hK => ?PBst5) AllReadyH.nil
              go_simp
              (go_at_call 51; refine (register_any _ _ _).mono ?_; rintro e w1 ⟨rfl, rfl⟩; rw [ra])
              refine hK.out _ _ ?PBk5 (fun hHeld2 => ?PBm5)
              case PBk5 => first | exact s9_next hHeld hb | exact s9_same hHeld | exact s9_start _ _ _ _ hblk
              clear hK K hHeld
              have hHeld := hHeld2; clear hHeld2
              (try simp only [Act.put, List.setIfInBounds_toArray, List.set_cons_zero, List.set_cons_succ])
              refine wpAnyH_take (i := 6) (oi := ⟨some 37, _, _, _, _, _⟩) (v := ?PBv6) rfl (by kernel_rfl) (by kernel_rfl) (by kernel_rfl) (fun _ _ _ h => h) (Or.inl ⟨by rfl, ?PBhy6⟩) hHeld ?PBr6
              case PBhy6 => (intro w hSw; (try dsimp only at hSw); go_simp; (try with_reducible rfl))
              (try simp only [Act.put, List.setIfInBounds_toArray, List.set_cons_zero, List.set_cons_succ])
              refine wpAnyH_take (i := 7) (oi := ⟨some 38, _, _, _, _, _⟩) (v := ?PBv7) rfl (by kernel_rfl) (by kernel_rfl) (by kernel_rfl) (fun _ _ _ h => h) (Or.inl ⟨by rfl, ?PBhy7⟩) hHeld ?PBr7
              case PBhy7 => (intro w hSw; (try dsimp only at hSw); go_simp; (try with_reducible rfl))
              (try simp only [Act.put, List.setIfInBounds_toArray, List.set_cons_zero, List.set_cons_succ])
              refine wpAnyH_take (i := 8) (oi := ⟨some 39, _, _, _, _, _⟩) (v := ?PBv8) rfl (by kernel_rfl) (by kernel_rfl) (by kernel_rfl) (fun _ _ _ h => h) (Or.inl ⟨by rfl, ?PBhy8⟩) hHeld ?PBr8
              case PBhy8 => (intro w hSw; (try dsimp only at hSw); go_simp; (try with_reducible rfl))
              (try simp only [Act.put, List.setIfInBounds_toArray, List.set_cons_zero, List.set_cons_succ])
              refine wpAnyH_take (i := 9) (oi := ⟨some 40, _, _, _, _, _⟩) (v := ?PBv9) rfl (by kernel_rfl) (by kernel_rfl) (by kernel_rfl) (fun _ _ _ h => h) (Or.inl ⟨by rfl, ?PBhy9⟩) hHeld ?PBr9
              case PBhy9 => (intro w hSw; (try dsimp only at hSw); go_simp; (try with_reducible rfl))
              (try simp only [Act.put, List.setIfInBounds_toArray, List.set_cons_zero, List.set_cons_succ])
              refine wpAnyH_take (i := 10) (oi := ⟨some 41, _, _, _, _, _⟩) (v := ?PBv10) rfl (by kernel_rfl) (by kernel_rfl) (by kernel_rfl) (fun _ _ _ h => h) (Or.inl ⟨by rfl, ?PBhy10⟩) hHeld ?PBr10
              case PBhy10 => (intro w hSw; (try dsimp only at hSw); go_simp; (try with_reducible rfl))
              (try simp only [Act.put, List.setIfInBounds_toArray, List.set_cons_zero, List.set_cons_succ])
              refine wpAnyH_take (i := 11) (oi := ⟨some 42, _, _, _, _, _⟩) (v := ?PBv11) rfl (by kernel_rfl) (by kernel_rfl) (by kernel_rfl) (fun _ _ _ h => h) (Or.inl ⟨by rfl, ?PBhy11⟩) hHeld ?PBr11
              case PBhy11 => (intro w hSw; (try dsimp only at hSw); go_simp; (try with_reducible rfl))
              (try simp only [Act.put, List.setIfInBounds_toArray, List.set_cons_zero, List.set_cons_succ])
              refine wpAnyH_ready (rs := [12]) (by kernel_rfl) (by simp) ?PBc12
              refine AllReadyH.cons (o := ⟨some 43, _, _, _, _, _⟩) rfl (fun K hK => ?PBst12) AllReadyH.nil
              go_simp
              (go_at_call 52; refine (uses_letters x.op _ o0 o1).2.1.mono ?_; rintro e w1 ⟨rfl, hb⟩)
              refine hK.out _ _ ?PBk12 (fun hHeld2 => ?PBm12)
              case PBk12 => first | exact s9_next hHeld hb | exact s9_same hHeld | exact s9_start _ _ _ _ hblk
              clear hK K hHeld
              have hHeld := hHeld2; clear hHeld2
              (try simp only [Act.put, List.setIfInBounds_toArray, List.set_cons_zero, List.set_cons_succ])
              refine wpAnyH_ready (rs := [13]) (by kernel_rfl) (by simp) ?PBc13
              refine AllReadyH.cons (o := ⟨some 44, _, _, _, _, _⟩) rfl (fun K hK => ?PBst13) AllReadyH.nil
              go_simp
              (go_at_call 51; refine (register_any _ _ _).mono ?_; rintro e w1 ⟨rfl, rfl⟩; rw [rb])
              refine hK.out _ _ ?PBk13 (fun hHeld2 => ?PBm13)
              case PBk13 => first | exact s9_next hHeld hb | exact s9_same hHeld | exact s9_start _ _ _ _ hblk
              clear hK K hHeld
              have hHeld := hHeld2; clear hHeld2
              (try simp only [Act.put, List.setIfInBounds_toArray, List.set_cons_zero, List.set_cons_succ])
              refine wpAnyH_take (i := 14) (oi := ⟨some 45, _, _, _, _, _⟩) (v := ?PBv14) rfl (by kernel_rfl) (by kernel_rfl) (by kernel_rfl) (fun _ _ _ h => h) (Or.inl ⟨by rfl, ?PBhy14⟩) hHeld ?PBr14
              case PBhy14 => (intro w hSw; (try dsimp only at hSw); go_simp; (try with_reducible rfl))
              (try simp only [Act.put, List.setIfInBounds_toArray, List.set_cons_zero, List.set_cons_succ])
              refine wpAnyH_take (i := 15) (oi := ⟨some 46, _, _, _, _, _⟩) (v := ?PBv15) rfl (by kernel_rfl) (by kernel_rfl) (by kernel_rfl) (fun _ _ _ h => h) (Or.inl ⟨by rfl, ?PBhy15⟩) hHeld ?PBr15
              case PBhy15 => (intro w hSw; (try dsimp only at hSw); go_simp; (try with_reducible rfl))
              (try simp only [Act.put, List.setIfInBounds_toArray, List.set_cons_zero, List.set_cons_succ])
              refine wpAnyH_take (i := 16) (oi := ⟨some 47, _, _, _, _, _⟩) (v := ?PBv16) rfl (by kernel_rfl) (by kernel_rfl) (by kernel_rfl) (fun _ _ _ h => h) (Or.inl ⟨by rfl, ?PBhy16⟩) hHeld ?PBr16
              case PBhy16 => (intro w hSw; (try dsimp only at hSw); go_simp; (try with_reducible rfl))
              (try simp only [Act.put, List.setIfInBounds_toArray, List.set_cons_zero, List.set_cons_succ])
              refine wpAnyH_take (i := 17) (oi := ⟨some 48, _, _, _, _, _⟩) (v := undef) rfl (by kernel_rfl) (by kernel_rfl) (by kernel_rfl) (fun _ _ _ h => h) (Or.inr ⟨by rfl, rfl⟩) hHeld ?PBr17
              (try simp only [Act.put, List.setIfInBounds_toArray, List.set_cons_zero, List.set_cons_succ])
              refine wpAnyH_take (i := 18) (oi := ⟨some 49, _, _, _, _, _⟩) (v := undef) rfl (by kernel_rfl) (by kernel_rfl) (by kernel_rfl) (fun _ _ _ h => h) (Or.inr ⟨by rfl, rfl⟩) hHeld ?PBr18
              (try simp only [Act.put, List.setIfInBounds_toArray, List.set_cons_zero, List.set_cons_succ])
              refine wpAnyH_take (i := 19) (oi := ⟨some 50, _, _, _, _, _⟩) (v := undef) rfl (by kernel_rfl) (by kernel_rfl) (by kernel_rfl) (fun _ _ _ h => h) (Or.inr ⟨by rfl, rfl⟩) hHeld ?PBr19
              (try simp only [Act.put, List.setIfInBounds_toArray, List.set_cons_zero, List.set_cons_succ])
              refine wpAnyH_take (i := 20) (oi := ⟨some 51, _, _, _, _, _⟩) (v := undef) rfl (by kernel_rfl) (by kernel_rfl) (by kernel_rfl) (fun _ _ _ h => h) (Or.inr ⟨by rfl, rfl⟩) hHeld ?PBr20
              (try simp only [Act.put, List.setIfInBounds_toArray, List.set_cons_zero, List.set_cons_succ])
              refine wpAnyH_take (i := 21) (oi := ⟨some 52, _, _, _, _, _⟩) (v := undef) rfl (by kernel_rfl) (by kernel_rfl) (by kernel_rfl) (fun _ _ _ h => h) (Or.inr ⟨by rfl, rfl⟩) hHeld ?PBr21
              (try simp only [Act.put, List.setIfInBounds_toArray, List.set_cons_zero, List.set_cons_succ])
              refine wpAnyH_take (i := 22) (oi := ⟨some 53, _, _, _, _, _⟩) (v := undef) rfl (by kernel_rfl) (by kernel_rfl) (by kernel_rfl) (fun _ _ _ h => h) (Or.inr ⟨by rfl, rfl⟩) hHeld ?PBr22
              (try simp only [Act.put, List.setIfInBounds_toArray, List.set_cons_zero, List.set_cons_succ])
              refine wpAnyH_take (i := 23) (oi := ⟨some 54, _, _, _, _, _⟩) (v := undef) rfl (by kernel_rfl) (by kernel_rfl) (by kernel_rfl) (fun _ _ _ h => h) (Or.inr ⟨by rfl, rfl⟩) hHeld ?PBr23
              (try simp only [Act.put, List.setIfInBounds_toArray, List.set_cons_zero, List.set_cons_succ])
              refine wpAnyH_take (i := 24) (oi := ⟨some 55, _, _, _, _, _⟩) (v := ?PBv24) rfl (by kernel_rfl) (by kernel_rfl) (by kernel_rfl) (fun _ _ _ h => h) (Or.inl ⟨by rfl, ?PBhy24⟩) hHeld ?PBr24
              case PBhy24 => (intro w hSw; (try dsimp only at hSw); go_simp; (try with_reducible rfl))
              (try simp only [Act.put, List.setIfInBounds_toArray, List.set_cons_zero, List.set_cons_succ])
              refine wpAnyH_take (i := 25) (oi := ⟨some 56, _, _, _, _, _⟩) (v := ?PBv25) rfl (by kernel_rfl) (by kernel_rfl) (by kernel_rfl) (fun _ _ _ h => h) (Or.inl ⟨by rfl, ?PBhy25⟩) hHeld ?PBr25
              case PBhy25 => (intro w hSw; (try dsimp only at hSw); go_simp; (try with_reducible rfl))
              (try simp only [Act.put, List.setIfInBounds_toArray, List.set_cons_zero, List.set_cons_succ])
              refine wpAnyH_take (i := 26) (oi := ⟨some 57, _, _, _, _, _⟩) (v := undef) rfl (by kernel_rfl) (by kernel_rfl) (by kernel_rfl) (fun _ _ _ h => h) (Or.inr ⟨by rfl, rfl⟩) hHeld ?PBr26
              (try simp only [Act.put, List.setIfInBounds_toArray, List.set_cons_zero, List.set_cons_succ])
              refine wpAnyH_take (i := 27) (oi := ⟨some 58, _, _, _, _, _⟩) (v := undef) rfl (by kernel_rfl) (by kernel_rfl) (by kernel_rfl) (fun _ _ _ h => h) (Or.inr ⟨by rfl, rfl⟩) hHeld ?PBr27
              (try simp only [Act.put, List.setIfInBounds_toArray, List.set_cons_zero, List.set_cons_succ])
              refine wpAnyH_take (i := 28) (oi := ⟨some 59, _, _, _, _, _⟩) (v := undef) rfl (by kernel_rfl) (by kernel_rfl) (by kernel_rfl) (fun _ _ _ h => h) (Or.inr ⟨by rfl, rfl⟩) hHeld ?PBr28
              (try simp only [Act.put, List.setIfInBounds_toArray, List.set_cons_zero, List.set_cons_succ])
              refine wpAnyH_take (i := 29) (oi := ⟨some 60, _, _, _, _, _⟩) (v := undef) rfl (by kernel_rfl) (by kernel_rfl) (by kernel_rfl) (fun _ _ _ h => h) (Or.inr ⟨by rfl, rfl⟩) hHeld ?PBr29
              (try simp only [Act.put, List.setIfInBounds_toArray, List.set_cons_zero, List.set_cons_succ])
              refine wpAnyH_take (i := 30) (oi := ⟨some 61, _, _, _, _, _⟩) (v := undef) rfl (by kernel_rfl) (by kernel_rfl) (by kernel_rfl) (fun _ _ _ h => h) (Or.inr ⟨by rfl, rfl⟩) hHeld ?PBr30
              (try simp only [Act.put, List.setIfInBounds_toArray, List.set_cons_zero, List.set_cons_succ])
              refine wpAnyH_take (i := 31) (oi := ⟨some 62, _, _, _, _, _⟩) (v := undef) rfl (by kernel_rfl) (by kernel_rfl) (by kernel_rfl) (fun _ _ _ h => h) (Or.inr ⟨by rfl, rfl⟩) hHeld ?PBr31
              (try simp only [Act.put, List.setIfInBounds_toArray, List.set_cons_zero, List.set_cons_succ])
              refine wpAnyH_take (i := 32) (oi := ⟨some 63, _, _, _, _, _⟩) (v := undef) rfl (by kernel_rfl) (by kernel_rfl) (by kernel_rfl) (fun _ _ _ h => h) (Or.inr ⟨by rfl, rfl⟩) hHeld ?PBr32
              (try simp only [Act.put, List.setIfInBounds_toArray, List.set_cons_zero, List.set_cons_succ])
              refine wpAnyH_take (i := 33) (oi := ⟨some 64, _, _, _, _, _⟩) (v := undef) rfl (by kernel_rfl) (by kernel_rfl) (by kernel_rfl) (fun _ _ _ h => h) (Or.inr ⟨by rfl, rfl⟩) hHeld ?PBr33
              (try simp only [Act.put, List.setIfInBounds_toArray, List.set_cons_zero, List.set_cons_succ])
              refine wpAnyH_take (i := 34) (oi := ⟨some 65, _, _, _, _, _⟩) (v := undef) rfl (by kernel_rfl) (by kernel_rfl) (by kernel_rfl) (fun _ _ _ h => h) (Or.inr ⟨by rfl, rfl⟩) hHeld ?PBr34
              (try simp only [Act.put, List.setIfInBounds_toArray, List.set_cons_zero, List.set_cons_succ])
              refine wpAnyH_take (i := 35) (oi := ⟨some 66, _, _, _, _, _⟩) (v := undef) rfl (by kernel_rfl) (by kernel_rfl) (by kernel_rfl) (fun _ _ _ h => h) (Or.inr ⟨by rfl, rfl⟩) hHeld ?PBr35
              (try simp only [Act.put, List.setIfInBounds_toArray, List.set_cons_zero, List.set_cons_succ])
              refine wpAnyH_take (i := 36) (oi := ⟨some 67, _, _, _, _, _⟩) (v := undef) rfl (by kernel_rfl) (by kernel_rfl) (by kernel_rfl) (fun _ _ _ h => h) (Or.inr ⟨by rfl, rfl⟩) hHeld ?PBr36
              (try simp only [Act.put, List.setIfInBounds_toArray, List.set_cons_zero, List.set_cons_succ])
              refine wpAnyH_take (i := 37) (oi := ⟨some 68, _, _, _, _, _⟩) (v := undef) rfl (by kernel_rfl) (by kernel_rfl) (by kernel_rfl) (fun _ _ _ h => h) (Or.inr ⟨by rfl, rfl⟩) hHeld ?PBr37
              (try simp only [Act.put, List.setIfInBounds_toArray, List.set_cons_zero, List.set_cons_succ])
              refine wpAnyH_take (i := 38) (oi := ⟨some 69, _, _, _, _, _⟩) (v := undef) rfl (by kernel_rfl) (by kernel_rfl) (by kernel_rfl) (fun _ _ _ h => h) (Or.inr ⟨by rfl, rfl⟩) hHeld ?PBr38
              (try simp only [Act.put, List.setIfInBounds_toArray, List.set_cons_zero, List.set_cons_succ])
              refine wpAnyH_take (i := 39) (oi := ⟨some 70, _, _, _, _, _⟩) (v := undef) rfl (by kernel_rfl) (by kernel_rfl) (by kernel_rfl) (fun _ _ _ h => h) (Or.inr ⟨by rfl, rfl⟩) hHeld ?PBr39
              (try simp only [Act.put, List.setIfInBounds_toArray, List.set_cons_zero, List.set_cons_succ])
              refine wpAnyH_take (i := 40) (oi := ⟨some 71, _, _, _, _, _⟩) (v := undef) rfl (by kernel_rfl) (by kernel_rfl) (by kernel_rfl) (fun _ _ _ h => h) (Or.inr ⟨by rfl, rfl⟩) hHeld ?PBr40
              (try simp only [Act.put, List.setIfInBounds_toArray, List.set_cons_zero, List.set_cons_succ])
              refine wpAnyH_take (i := 41) (oi := ⟨some 72, _, _, _, _, _⟩) (v := ?PBv41) rfl (by kernel_rfl) (by kernel_rfl) (by kernel_rfl) (fun _ _ _ h => h) (Or.inl ⟨by rfl, ?PBhy41⟩) hHeld ?PBr41
              case PBhy41 => (intro w hSw; (try dsimp only at hSw); go_simp; (try with_reducible rfl))
              (try simp only [Act.put, List.setIfInBounds_toArray, List.set_cons_zero, List.set_cons_succ])
              refine wpAnyH_done (by kernel_rfl) ?PBdone _
              go_wp2
              go_meet
              exact ⟨by rw [hbad], hHeld.2.2.2.2.2.1, hHeld.2.2.2.2.2.2⟩
            rcases Bool.eq_false_or_eq_true (regOk x.c (uses x.op 99)) with rc | rc
            case inr =>
              have hbad : bad9 x = true := by unfold bad9; rw [ra, rb, rc]; rfl
              refine wp_region_held_drew (S := (fun w' => w'.cell? ⟨q, 0, none⟩ = some (.int .i64 x.op) ∧ w'.cell? ⟨q, 1, none⟩ = some (.int .i64 x.a) ∧ w'.cell? ⟨q, 2, none⟩ = some (.int .i64 x.b) ∧ w'.cell? ⟨q, 3, none⟩ = some (.int .i64 x.c) ∧ w'.cell? ⟨q, 4, none⟩ = some (.int .i32 x.imm) ∧ BlkT w' q x.cells 35 ∧ Below W0.heap.size W0 w')) (by kernel_rfl) ?PChS (fun hHeld => ?PCrest)
              case PChS => first | exact s9_next hHeld hb | exact s9_same hHeld | exact s9_start _ _ _ _ hblk
              refine wpAnyH_take (i := 0) (oi := ⟨some 31, _, _, _, _, _⟩) (v := ?PCv0) rfl (by kernel_rfl) (by kernel_rfl) (by kernel_rfl) (fun _ _ _ h => h) (Or.inl ⟨by rfl, ?PChy0⟩) hHeld ?PCr0
              case PChy0 => (intro w hSw; (try dsimp only at hSw); go_simp; (try with_reducible rfl))
              (try simp only [Act.put, List.setIfInBounds_toArray, List.set_cons_zero, List.set_cons_succ])
              refine wpAnyH_take (i := 1) (oi := ⟨some 32, _, _, _, _, _⟩) (v := ?PCv1) rfl (by kernel_rfl) (by kernel_rfl) (by kernel_rfl) (fun _ _ _ h => h) (Or.inl ⟨by rfl, ?PChy1⟩) hHeld ?PCr1
              case PChy1 => (intro w hSw; (try dsimp only at hSw); go_simp; (try with_reducible rfl))
              (try simp only [Act.put, List.setIfInBounds_toArray, List.set_cons_zero, List.set_cons_succ])
              refine wpAnyH_take (i := 2) (oi := ⟨some 33, _, _, _, _, _⟩) (v := ?PCv2) rfl (by kernel_rfl) (by kernel_rfl) (by kernel_rfl) (fun _ _ _ h => h) (Or.inl ⟨by rfl, ?PChy2⟩) hHeld ?PCr2
              case PChy2 => (intro w hSw; (try dsimp only at hSw); go_simp; (try with_reducible rfl))
              (try simp only [Act.put, List.setIfInBounds_toArray, List.set_cons_zero, List.set_cons_succ])
              refine wpAnyH_take (i := 3) (oi := ⟨some 34, _, _, _, _, _⟩) (v := ?PCv3) rfl (by kernel_rfl) (by kernel_rfl) (by kernel_rfl) (fun _ _ _ h => h) (Or.inl ⟨by rfl, ?PChy3⟩) hHeld ?PCr3
              case PChy3 => (intro w hSw; (try dsimp only at hSw); go_simp; (try with_reducible rfl))
              (try simp only [Act.put, List.setIfInBounds_toArray, List.set_cons_zero, List.set_cons_succ])
              refine wpAnyH_ready (rs := [4]) (by kernel_rfl) (by simp) ?PCc4
              refine AllReadyH.cons (o := ⟨some 35, _, _, _, _, _⟩) rfl (fun K hK => ?PCst4) AllReadyH.nil
              go_simp
              (go_at_call 52; refine (uses_letters x.op _ o0 o1).1.mono ?_; rintro e w1 ⟨rfl, hb⟩)
              refine hK.out _ _ ?PCk4 (fun hHeld2 => ?PCm4)
              case PCk4 => first | exact s9_next hHeld hb | exact s9_same hHeld | exact s9_start _ _ _ _ hblk
              clear hK K hHeld
              have hHeld := hHeld2; clear hHeld2
              (try simp only [Act.put, List.setIfInBounds_toArray, List.set_cons_zero, List.set_cons_succ])
              refine wpAnyH_ready (rs := [5]) (by kernel_rfl) (by simp) ?PCc5
              refine AllReadyH.cons (o := ⟨some 36, _, _, _, _, _⟩) rfl (fun K hK => ?PCst5) AllReadyH.nil
              go_simp
              (go_at_call 51; refine (register_any _ _ _).mono ?_; rintro e w1 ⟨rfl, rfl⟩; rw [ra])
              refine hK.out _ _ ?PCk5 (fun hHeld2 => ?PCm5)
              case PCk5 => first | exact s9_next hHeld hb | exact s9_same hHeld | exact s9_start _ _ _ _ hblk
              clear hK K hHeld
              have hHeld := hHeld2; clear hHeld2
              (try simp only [Act.put, List.setIfInBounds_toArray, List.set_cons_zero, List.set_cons_succ])
              refine wpAnyH_take (i := 6) (oi := ⟨some 37, _, _, _, _, _⟩) (v := ?PCv6) rfl (by kernel_rfl) (by kernel_rfl) (by kernel_rfl) (fun _ _ _ h => h) (Or.inl ⟨by rfl, ?PChy6⟩) hHeld ?PCr6
              case PChy6 => (intro w hSw; (try dsimp only at hSw); go_simp; (try with_reducible rfl))
              (try simp only [Act.put, List.setIfInBounds_toArray, List.set_cons_zero, List.set_cons_succ])
              refine wpAnyH_take (i := 7) (oi := ⟨some 38, _, _, _, _, _⟩) (v := ?PCv7) rfl (by kernel_rfl) (by kernel_rfl) (by kernel_rfl) (fun _ _ _ h => h) (Or.inl ⟨by rfl, ?PChy7⟩) hHeld ?PCr7
              case PChy7 => (intro w hSw; (try dsimp only at hSw); go_simp; (try with_reducible rfl))
              (try simp only [Act.put, List.setIfInBounds_toArray, List.set_cons_zero, List.set_cons_succ])
              refine wpAnyH_take (i := 8) (oi := ⟨some 39, _, _, _, _, _⟩) (v := ?PCv8) rfl (by kernel_rfl) (by kernel_rfl) (by kernel_rfl) (fun _ _ _ h => h) (Or.inl ⟨by rfl, ?PChy8⟩) hHeld ?PCr8
              case PChy8 => (intro w hSw; (try dsimp only at hSw); go_simp; (try with_reducible rfl))
              (try simp only [Act.put, List.setIfInBounds_toArray, List.set_cons_zero, List.set_cons_succ])
              refine wpAnyH_take (i := 9) (oi := ⟨some 40, _, _, _, _, _⟩) (v := ?PCv9) rfl (by kernel_rfl) (by kernel_rfl) (by kernel_rfl) (fun _ _ _ h => h) (Or.inl ⟨by rfl, ?PChy9⟩) hHeld ?PCr9
              case PChy9 => (intro w hSw; (try dsimp only at hSw); go_simp; (try with_reducible rfl))
              (try simp only [Act.put, List.setIfInBounds_toArray, List.set_cons_zero, List.set_cons_succ])
              refine wpAnyH_take (i := 10) (oi := ⟨some 41, _, _, _, _, _⟩) (v := ?PCv10) rfl (by kernel_rfl) (by kernel_rfl) (by kernel_rfl) (fun _ _ _ h => h) (Or.inl ⟨by rfl, ?PChy10⟩) hHeld ?PCr10
              case PChy10 => (intro w hSw; (try dsimp only at hSw); go_simp; (try with_reducible rfl))
              (try simp only [Act.put, List.setIfInBounds_toArray, List.set_cons_zero, List.set_cons_succ])
              refine wpAnyH_take (i := 11) (oi := ⟨some 42, _, _, _, _, _⟩) (v := ?PCv11) rfl (by kernel_rfl) (by kernel_rfl) (by kernel_rfl) (fun _ _ _ h => h) (Or.inl ⟨by rfl, ?PChy11⟩) hHeld ?PCr11
              case PChy11 => (intro w hSw; (try dsimp only at hSw); go_simp; (try with_reducible rfl))
              (try simp only [Act.put, List.setIfInBounds_toArray, List.set_cons_zero, List.set_cons_succ])
              refine wpAnyH_ready (rs := [12]) (by kernel_rfl) (by simp) ?PCc12
              refine AllReadyH.cons (o := ⟨some 43, _, _, _, _, _⟩) rfl (fun K hK => ?PCst12) AllReadyH.nil
              go_simp
              (go_at_call 52; refine (uses_letters x.op _ o0 o1).2.1.mono ?_; rintro e w1 ⟨rfl, hb⟩)
              refine hK.out _ _ ?PCk12 (fun hHeld2 => ?PCm12)
              case PCk12 => first | exact s9_next hHeld hb | exact s9_same hHeld | exact s9_start _ _ _ _ hblk
              clear hK K hHeld
              have hHeld := hHeld2; clear hHeld2
              (try simp only [Act.put, List.setIfInBounds_toArray, List.set_cons_zero, List.set_cons_succ])
              refine wpAnyH_ready (rs := [13]) (by kernel_rfl) (by simp) ?PCc13
              refine AllReadyH.cons (o := ⟨some 44, _, _, _, _, _⟩) rfl (fun K hK => ?PCst13) AllReadyH.nil
              go_simp
              (go_at_call 51; refine (register_any _ _ _).mono ?_; rintro e w1 ⟨rfl, rfl⟩; rw [rb])
              refine hK.out _ _ ?PCk13 (fun hHeld2 => ?PCm13)
              case PCk13 => first | exact s9_next hHeld hb | exact s9_same hHeld | exact s9_start _ _ _ _ hblk
              clear hK K hHeld
              have hHeld := hHeld2; clear hHeld2
              (try simp only [Act.put, List.setIfInBounds_toArray, List.set_cons_zero, List.set_cons_succ])
              refine wpAnyH_take (i := 14) (oi := ⟨some 45, _, _, _, _, _⟩) (v := ?PCv14) rfl (by kernel_rfl) (by kernel_rfl) (by kernel_rfl) (fun _ _ _ h => h) (Or.inl ⟨by rfl, ?PChy14⟩) hHeld ?PCr14
              case PChy14 => (intro w hSw; (try dsimp only at hSw); go_simp; (try with_reducible rfl))
              (try simp only [Act.put, List.setIfInBounds_toArray, List.set_cons_zero, List.set_cons_succ])
              refine wpAnyH_take (i := 15) (oi := ⟨some 46, _, _, _, _, _⟩) (v := ?PCv15) rfl (by kernel_rfl) (by kernel_rfl) (by kernel_rfl) (fun _ _ _ h => h) (Or.inl ⟨by rfl, ?PChy15⟩) hHeld ?PCr15
              case PChy15 => (intro w hSw; (try dsimp only at hSw); go_simp; (try with_reducible rfl))
              (try simp only [Act.put, List.setIfInBounds_toArray, List.set_cons_zero, List.set_cons_succ])
              refine wpAnyH_take (i := 16) (oi := ⟨some 47, _, _, _, _, _⟩) (v := ?PCv16) rfl (by kernel_rfl) (by kernel_rfl) (by kernel_rfl) (fun _ _ _ h => h) (Or.inl ⟨by rfl, ?PChy16⟩) hHeld ?PCr16
              case PChy16 => (intro w hSw; (try dsimp only at hSw); go_simp; (try with_reducible rfl))
              (try simp only [Act.put, List.setIfInBounds_toArray, List.set_cons_zero, List.set_cons_succ])
              refine wpAnyH_take (i := 17) (oi := ⟨some 48, _, _, _, _, _⟩) (v := ?PCv17) rfl (by kernel_rfl) (by kernel_rfl) (by kernel_rfl) (fun _ _ _ h => h) (Or.inl ⟨by rfl, ?PChy17⟩) hHeld ?PCr17
              case PChy17 => (intro w hSw; (try dsimp only at hSw); go_simp; (try with_reducible rfl))
              (try simp only [Act.put, List.setIfInBounds_toArray, List.set_cons_zero, List.set_cons_succ])
              refine wpAnyH_take (i := 18) (oi := ⟨some 49, _, _, _, _, _⟩) (v := ?PCv18) rfl (by kernel_rfl) (by kernel_rfl) (by kernel_rfl) (fun _ _ _ h => h) (Or.inl ⟨by rfl, ?PChy18⟩) hHeld ?PCr18
              case PChy18 => (intro w hSw; (try dsimp only at hSw); go_simp; (try with_reducible rfl))
              (try simp only [Act.put, List.setIfInBounds_toArray, List.set_cons_zero, List.set_cons_succ])
              refine wpAnyH_take (i := 19) (oi := ⟨some 50, _, _, _, _, _⟩) (v := ?PCv19) rfl (by kernel_rfl) (by kernel_rfl) (by kernel_rfl) (fun _ _ _ h => h) (Or.inl ⟨by rfl, ?PChy19⟩) hHeld ?PCr19
              case PChy19 => (intro w hSw; (try dsimp only at hSw); go_simp; (try with_reducible rfl))
              (try simp only [Act.put, List.setIfInBounds_toArray, List.set_cons_zero, List.set_cons_succ])
              refine wpAnyH_take (i := 20) (oi := ⟨some 51, _, _, _, _, _⟩) (v := ?PCv20) rfl (by kernel_rfl) (by kernel_rfl) (by kernel_rfl) (fun _ _ _ h => h) (Or.inl ⟨by rfl, ?PChy20⟩) hHeld ?PCr20
              case PChy20 => (intro w hSw; (try dsimp only at hSw); go_simp; (try with_reducible rfl))
              (try simp only [Act.put, List.setIfInBounds_toArray, List.set_cons_zero, List.set_cons_succ])
              refine wpAnyH_ready (rs := [21]) (by kernel_rfl) (by simp) ?PCc21
              refine AllReadyH.cons (o := ⟨some 52, _, _, _, _, _⟩) rfl (fun K hK => ?PCst21) AllReadyH.nil
              go_simp
              (go_at_call 52; refine (uses_letters x.op _ o0 o1).2.2.1.mono ?_; rintro e w1 ⟨rfl, hb⟩)
              refine hK.out _ _ ?PCk21 (fun hHeld2 => ?PCm21)
              case PCk21 => first | exact s9_next hHeld hb | exact s9_same hHeld | exact s9_start _ _ _ _ hblk
              clear hK K hHeld
              have hHeld := hHeld2; clear hHeld2
              (try simp only [Act.put, List.setIfInBounds_toArray, List.set_cons_zero, List.set_cons_succ])
              refine wpAnyH_ready (rs := [22]) (by kernel_rfl) (by simp) ?PCc22
              refine AllReadyH.cons (o := ⟨some 53, _, _, _, _, _⟩) rfl (fun K hK => ?PCst22) AllReadyH.nil
              go_simp
              (go_at_call 51; refine (register_any _ _ _).mono ?_; rintro e w1 ⟨rfl, rfl⟩; rw [rc])
              refine hK.out _ _ ?PCk22 (fun hHeld2 => ?PCm22)
              case PCk22 => first | exact s9_next hHeld hb | exact s9_same hHeld | exact s9_start _ _ _ _ hblk
              clear hK K hHeld
              have hHeld := hHeld2; clear hHeld2
              (try simp only [Act.put, List.setIfInBounds_toArray, List.set_cons_zero, List.set_cons_succ])
              refine wpAnyH_take (i := 23) (oi := ⟨some 54, _, _, _, _, _⟩) (v := ?PCv23) rfl (by kernel_rfl) (by kernel_rfl) (by kernel_rfl) (fun _ _ _ h => h) (Or.inl ⟨by rfl, ?PChy23⟩) hHeld ?PCr23
              case PChy23 => (intro w hSw; (try dsimp only at hSw); go_simp; (try with_reducible rfl))
              (try simp only [Act.put, List.setIfInBounds_toArray, List.set_cons_zero, List.set_cons_succ])
              refine wpAnyH_take (i := 24) (oi := ⟨some 55, _, _, _, _, _⟩) (v := ?PCv24) rfl (by kernel_rfl) (by kernel_rfl) (by kernel_rfl) (fun _ _ _ h => h) (Or.inl ⟨by rfl, ?PChy24⟩) hHeld ?PCr24
              case PChy24 => (intro w hSw; (try dsimp only at hSw); go_simp; (try with_reducible rfl))
              (try simp only [Act.put, List.setIfInBounds_toArray, List.set_cons_zero, List.set_cons_succ])
              refine wpAnyH_take (i := 25) (oi := ⟨some 56, _, _, _, _, _⟩) (v := ?PCv25) rfl (by kernel_rfl) (by kernel_rfl) (by kernel_rfl) (fun _ _ _ h => h) (Or.inl ⟨by rfl, ?PChy25⟩) hHeld ?PCr25
              case PChy25 => (intro w hSw; (try dsimp only at hSw); go_simp; (try with_reducible rfl))
              (try simp only [Act.put, List.setIfInBounds_toArray, List.set_cons_zero, List.set_cons_succ])
              refine wpAnyH_take (i := 26) (oi := ⟨some 57, _, _, _, _, _⟩) (v := undef) rfl (by kernel_rfl) (by kernel_rfl) (by kernel_rfl) (fun _ _ _ h => h) (Or.inr ⟨by rfl, rfl⟩) hHeld ?PCr26
              (try simp only [Act.put, List.setIfInBounds_toArray, List.set_cons_zero, List.set_cons_succ])
              refine wpAnyH_take (i := 27) (oi := ⟨some 58, _, _, _, _, _⟩) (v := undef) rfl (by kernel_rfl) (by kernel_rfl) (by kernel_rfl) (fun _ _ _ h => h) (Or.inr ⟨by rfl, rfl⟩) hHeld ?PCr27
              (try simp only [Act.put, List.setIfInBounds_toArray, List.set_cons_zero, List.set_cons_succ])
              refine wpAnyH_take (i := 28) (oi := ⟨some 59, _, _, _, _, _⟩) (v := undef) rfl (by kernel_rfl) (by kernel_rfl) (by kernel_rfl) (fun _ _ _ h => h) (Or.inr ⟨by rfl, rfl⟩) hHeld ?PCr28
              (try simp only [Act.put, List.setIfInBounds_toArray, List.set_cons_zero, List.set_cons_succ])
              refine wpAnyH_take (i := 29) (oi := ⟨some 60, _, _, _, _, _⟩) (v := undef) rfl (by kernel_rfl) (by kernel_rfl) (by kernel_rfl) (fun _ _ _ h => h) (Or.inr ⟨by rfl, rfl⟩) hHeld ?PCr29
              (try simp only [Act.put, List.setIfInBounds_toArray, List.set_cons_zero, List.set_cons_succ])
              refine wpAnyH_take (i := 30) (oi := ⟨some 61, _, _, _, _, _⟩) (v := undef) rfl (by kernel_rfl) (by kernel_rfl) (by kernel_rfl) (fun _ _ _ h => h) (Or.inr ⟨by rfl, rfl⟩) hHeld ?PCr30
              (try simp only [Act.put, List.setIfInBounds_toArray, List.set_cons_zero, List.set_cons_succ])
              refine wpAnyH_take (i := 31) (oi := ⟨some 62, _, _, _, _, _⟩) (v := undef) rfl (by kernel_rfl) (by kernel_rfl) (by kernel_rfl) (fun _ _ _ h => h) (Or.inr ⟨by rfl, rfl⟩) hHeld ?PCr31
              (try simp only [Act.put, List.setIfInBounds_toArray, List.set_cons_zero, List.set_cons_succ])
              refine wpAnyH_take (i := 32) (oi := ⟨some 63, _, _, _, _, _⟩) (v := undef) rfl (by kernel_rfl) (by kernel_rfl) (by kernel_rfl) (fun _ _ _ h => h) (Or.inr ⟨by rfl, rfl⟩) hHeld ?PCr32
              (try simp only [Act.put, List.setIfInBounds_toArray, List.set_cons_zero, List.set_cons_succ])
              refine wpAnyH_take (i := 33) (oi := ⟨some 64, _, _, _, _, _⟩) (v := undef) rfl (by kernel_rfl) (by kernel_rfl) (by kernel_rfl) (fun _ _ _ h => h) (Or.inr ⟨by rfl, rfl⟩) hHeld ?PCr33
              (try simp only [Act.put, List.setIfInBounds_toArray, List.set_cons_zero, List.set_cons_succ])
              refine wpAnyH_take (i := 34) (oi := ⟨some 65, _, _, _, _, _⟩) (v := undef) rfl (by kernel_rfl) (by kernel_rfl) (by kernel_rfl) (fun _ _ _ h => h) (Or.inr ⟨by rfl, rfl⟩) hHeld ?PCr34
              (try simp only [Act.put, List.setIfInBounds_toArray, List.set_cons_zero, List.set_cons_succ])
              refine wpAnyH_take (i := 35) (oi := ⟨some 66, _, _, _, _, _⟩) (v := undef) rfl (by kernel_rfl) (by kernel_rfl) (by kernel_rfl) (fun _ _ _ h => h) (Or.inr ⟨by rfl, rfl⟩) hHeld ?PCr35
              (try simp only [Act.put, List.setIfInBounds_toArray, List.set_cons_zero, List.set_cons_succ])
              refine wpAnyH_take (i := 36) (oi := ⟨some 67, _, _, _, _, _⟩) (v := undef) rfl (by kernel_rfl) (by kernel_rfl) (by kernel_rfl) (fun _ _ _ h => h) (Or.inr ⟨by rfl, rfl⟩) hHeld ?PCr36
              (try simp only [Act.put, List.setIfInBounds_toArray, List.set_cons_zero, List.set_cons_succ])
              refine wpAnyH_take (i := 37) (oi := ⟨some 68, _, _, _, _, _⟩) (v := undef) rfl (by kernel_rfl) (by kernel_rfl) (by kernel_rfl) (fun _ _ _ h => h) (Or.inr ⟨by rfl, rfl⟩) hHeld ?PCr37
              (try simp only [Act.put, List.setIfInBounds_toArray, List.set_cons_zero, List.set_cons_succ])
              refine wpAnyH_take (i := 38) (oi := ⟨some 69, _, _, _, _, _⟩) (v := undef) rfl (by kernel_rfl) (by kernel_rfl) (by kernel_rfl) (fun _ _ _ h => h) (Or.inr ⟨by rfl, rfl⟩) hHeld ?PCr38
              (try simp only [Act.put, List.setIfInBounds_toArray, List.set_cons_zero, List.set_cons_succ])
              refine wpAnyH_take (i := 39) (oi := ⟨some 70, _, _, _, _, _⟩) (v := undef) rfl (by kernel_rfl) (by kernel_rfl) (by kernel_rfl) (fun _ _ _ h => h) (Or.inr ⟨by rfl, rfl⟩) hHeld ?PCr39
              (try simp only [Act.put, List.setIfInBounds_toArray, List.set_cons_zero, List.set_cons_succ])
              refine wpAnyH_take (i := 40) (oi := ⟨some 71, _, _, _, _, _⟩) (v := undef) rfl (by kernel_rfl) (by kernel_rfl) (by kernel_rfl) (fun _ _ _ h => h) (Or.inr ⟨by rfl, rfl⟩) hHeld ?PCr40
              (try simp only [Act.put, List.setIfInBounds_toArray, List.set_cons_zero, List.set_cons_succ])
              refine wpAnyH_take (i := 41) (oi := ⟨some 72, _, _, _, _, _⟩) (v := ?PCv41) rfl (by kernel_rfl) (by kernel_rfl) (by kernel_rfl) (fun _ _ _ h => h) (Or.inl ⟨by rfl, ?PChy41⟩) hHeld ?PCr41
              case PChy41 => (intro w hSw; (try dsimp only at hSw); go_simp; (try with_reducible rfl))
              (try simp only [Act.put, List.setIfInBounds_toArray, List.set_cons_zero, List.set_cons_succ])
              refine wpAnyH_done (by kernel_rfl) ?PCdone _
              go_wp2
              go_meet
              exact ⟨by rw [hbad], hHeld.2.2.2.2.2.1, hHeld.2.2.2.2.2.2⟩
            by_cases hz : x.imm = 0
            case pos =>
              have hbad : bad9 x = false := by unfold bad9; rw [ra, rb, rc, hz]; rfl
              have hz2 : (x.imm != 0) = false := by rw [bne_eq_false_iff_eq]; exact hz
              clear hz
              refine wp_region_held_drew (S := (fun w' => w'.cell? ⟨q, 0, none⟩ = some (.int .i64 x.op) ∧ w'.cell? ⟨q, 1, none⟩ = some (.int .i64 x.a) ∧ w'.cell? ⟨q, 2, none⟩ = some (.int .i64 x.b) ∧ w'.cell? ⟨q, 3, none⟩ = some (.int .i64 x.c) ∧ w'.cell? ⟨q, 4, none⟩ = some (.int .i32 x.imm) ∧ BlkT w' q x.cells 35 ∧ Below W0.heap.size W0 w')) (by kernel_rfl) ?PDhS (fun hHeld => ?PDrest)
              case PDhS => first | exact s9_next hHeld hb | exact s9_same hHeld | exact s9_start _ _ _ _ hblk
              refine wpAnyH_take (i := 0) (oi := ⟨some 31, _, _, _, _, _⟩) (v := ?PDv0) rfl (by kernel_rfl) (by kernel_rfl) (by kernel_rfl) (fun _ _ _ h => h) (Or.inl ⟨by rfl, ?PDhy0⟩) hHeld ?PDr0
              case PDhy0 => (intro w hSw; (try dsimp only at hSw); go_simp; (try with_reducible rfl))
              (try simp only [Act.put, List.setIfInBounds_toArray, List.set_cons_zero, List.set_cons_succ])
              refine wpAnyH_take (i := 1) (oi := ⟨some 32, _, _, _, _, _⟩) (v := ?PDv1) rfl (by kernel_rfl) (by kernel_rfl) (by kernel_rfl) (fun _ _ _ h => h) (Or.inl ⟨by rfl, ?PDhy1⟩) hHeld ?PDr1
              case PDhy1 => (intro w hSw; (try dsimp only at hSw); go_simp; (try with_reducible rfl))
              (try simp only [Act.put, List.setIfInBounds_toArray, List.set_cons_zero, List.set_cons_succ])
              refine wpAnyH_take (i := 2) (oi := ⟨some 33, _, _, _, _, _⟩) (v := ?PDv2) rfl (by kernel_rfl) (by kernel_rfl) (by kernel_rfl) (fun _ _ _ h => h) (Or.inl ⟨by rfl, ?PDhy2⟩) hHeld ?PDr2
              case PDhy2 => (intro w hSw; (try dsimp only at hSw); go_simp; (try with_reducible rfl))
              (try simp only [Act.put, List.setIfInBounds_toArray, List.set_cons_zero, List.set_cons_succ])
              refine wpAnyH_take (i := 3) (oi := ⟨some 34, _, _, _, _, _⟩) (v := ?PDv3) rfl (by kernel_rfl) (by kernel_rfl) (by kernel_rfl) (fun _ _ _ h => h) (Or.inl ⟨by rfl, ?PDhy3⟩) hHeld ?PDr3
              case PDhy3 => (intro w hSw; (try dsimp only at hSw); go_simp; (try with_reducible rfl))
              (try simp only [Act.put, List.setIfInBounds_toArray, List.set_cons_zero, List.set_cons_succ])
              refine wpAnyH_ready (rs := [4]) (by kernel_rfl) (by simp) ?PDc4
              refine AllReadyH.cons (o := ⟨some 35, _, _, _, _, _⟩) rfl (fun K hK => ?PDst4) AllReadyH.nil
              go_simp
              (go_at_call 52; refine (uses_letters x.op _ o0 o1).1.mono ?_; rintro e w1 ⟨rfl, hb⟩)
              refine hK.out _ _ ?PDk4 (fun hHeld2 => ?PDm4)
              case PDk4 => first | exact s9_next hHeld hb | exact s9_same hHeld | exact s9_start _ _ _ _ hblk
              clear hK K hHeld
              have hHeld := hHeld2; clear hHeld2
              (try simp only [Act.put, List.setIfInBounds_toArray, List.set_cons_zero, List.set_cons_succ])
              refine wpAnyH_ready (rs := [5]) (by kernel_rfl) (by simp) ?PDc5
              refine AllReadyH.cons (o := ⟨some 36, _, _, _, _, _⟩) rfl (fun K hK => ?PDst5) AllReadyH.nil
              go_simp
              (go_at_call 51; refine (register_any _ _ _).mono ?_; rintro e w1 ⟨rfl, rfl⟩; rw [ra])
              refine hK.out _ _ ?PDk5 (fun hHeld2 => ?PDm5)
              case PDk5 => first | exact s9_next hHeld hb | exact s9_same hHeld | exact s9_start _ _ _ _ hblk
              clear hK K hHeld
              have hHeld := hHeld2; clear hHeld2
              (try simp only [Act.put, List.setIfInBounds_toArray, List.set_cons_zero, List.set_cons_succ])
              refine wpAnyH_take (i := 6) (oi := ⟨some 37, _, _, _, _, _⟩) (v := ?PDv6) rfl (by kernel_rfl) (by kernel_rfl) (by kernel_rfl) (fun _ _ _ h => h) (Or.inl ⟨by rfl, ?PDhy6⟩) hHeld ?PDr6
              case PDhy6 => (intro w hSw; (try dsimp only at hSw); go_simp; (try with_reducible rfl))
              (try simp only [Act.put, List.setIfInBounds_toArray, List.set_cons_zero, List.set_cons_succ])
              refine wpAnyH_take (i := 7) (oi := ⟨some 38, _, _, _, _, _⟩) (v := ?PDv7) rfl (by kernel_rfl) (by kernel_rfl) (by kernel_rfl) (fun _ _ _ h => h) (Or.inl ⟨by rfl, ?PDhy7⟩) hHeld ?PDr7
              case PDhy7 => (intro w hSw; (try dsimp only at hSw); go_simp; (try with_reducible rfl))
              (try simp only [Act.put, List.setIfInBounds_toArray, List.set_cons_zero, List.set_cons_succ])
              refine wpAnyH_take (i := 8) (oi := ⟨some 39, _, _, _, _, _⟩) (v := ?PDv8) rfl (by kernel_rfl) (by kernel_rfl) (by kernel_rfl) (fun _ _ _ h => h) (Or.inl ⟨by rfl, ?PDhy8⟩) hHeld ?PDr8
              case PDhy8 => (intro w hSw; (try dsimp only at hSw); go_simp; (try with_reducible rfl))
              (try simp only [Act.put, List.setIfInBounds_toArray, List.set_cons_zero, List.set_cons_succ])
              refine wpAnyH_take (i := 9) (oi := ⟨some 40, _, _, _, _, _⟩) (v := ?PDv9) rfl (by kernel_rfl) (by kernel_rfl) (by kernel_rfl) (fun _ _ _ h => h) (Or.inl ⟨by rfl, ?PDhy9⟩) hHeld ?PDr9
              case PDhy9 => (intro w hSw; (try dsimp only at hSw); go_simp; (try with_reducible rfl))
              (try simp only [Act.put, List.setIfInBounds_toArray, List.set_cons_zero, List.set_cons_succ])
              refine wpAnyH_take (i := 10) (oi := ⟨some 41, _, _, _, _, _⟩) (v := ?PDv10) rfl (by kernel_rfl) (by kernel_rfl) (by kernel_rfl) (fun _ _ _ h => h) (Or.inl ⟨by rfl, ?PDhy10⟩) hHeld ?PDr10
              case PDhy10 => (intro w hSw; (try dsimp only at hSw); go_simp; (try with_reducible rfl))
              (try simp only [Act.put, List.setIfInBounds_toArray, List.set_cons_zero, List.set_cons_succ])
              refine wpAnyH_take (i := 11) (oi := ⟨some 42, _, _, _, _, _⟩) (v := ?PDv11) rfl (by kernel_rfl) (by kernel_rfl) (by kernel_rfl) (fun _ _ _ h => h) (Or.inl ⟨by rfl, ?PDhy11⟩) hHeld ?PDr11
              case PDhy11 => (intro w hSw; (try dsimp only at hSw); go_simp; (try with_reducible rfl))
              (try simp only [Act.put, List.setIfInBounds_toArray, List.set_cons_zero, List.set_cons_succ])
              refine wpAnyH_ready (rs := [12]) (by kernel_rfl) (by simp) ?PDc12
              refine AllReadyH.cons (o := ⟨some 43, _, _, _, _, _⟩) rfl (fun K hK => ?PDst12) AllReadyH.nil
              go_simp
              (go_at_call 52; refine (uses_letters x.op _ o0 o1).2.1.mono ?_; rintro e w1 ⟨rfl, hb⟩)
              refine hK.out _ _ ?PDk12 (fun hHeld2 => ?PDm12)
              case PDk12 => first | exact s9_next hHeld hb | exact s9_same hHeld | exact s9_start _ _ _ _ hblk
              clear hK K hHeld
              have hHeld := hHeld2; clear hHeld2
              (try simp only [Act.put, List.setIfInBounds_toArray, List.set_cons_zero, List.set_cons_succ])
              refine wpAnyH_ready (rs := [13]) (by kernel_rfl) (by simp) ?PDc13
              refine AllReadyH.cons (o := ⟨some 44, _, _, _, _, _⟩) rfl (fun K hK => ?PDst13) AllReadyH.nil
              go_simp
              (go_at_call 51; refine (register_any _ _ _).mono ?_; rintro e w1 ⟨rfl, rfl⟩; rw [rb])
              refine hK.out _ _ ?PDk13 (fun hHeld2 => ?PDm13)
              case PDk13 => first | exact s9_next hHeld hb | exact s9_same hHeld | exact s9_start _ _ _ _ hblk
              clear hK K hHeld
              have hHeld := hHeld2; clear hHeld2
              (try simp only [Act.put, List.setIfInBounds_toArray, List.set_cons_zero, List.set_cons_succ])
              refine wpAnyH_take (i := 14) (oi := ⟨some 45, _, _, _, _, _⟩) (v := ?PDv14) rfl (by kernel_rfl) (by kernel_rfl) (by kernel_rfl) (fun _ _ _ h => h) (Or.inl ⟨by rfl, ?PDhy14⟩) hHeld ?PDr14
              case PDhy14 => (intro w hSw; (try dsimp only at hSw); go_simp; (try with_reducible rfl))
              (try simp only [Act.put, List.setIfInBounds_toArray, List.set_cons_zero, List.set_cons_succ])
              refine wpAnyH_take (i := 15) (oi := ⟨some 46, _, _, _, _, _⟩) (v := ?PDv15) rfl (by kernel_rfl) (by kernel_rfl) (by kernel_rfl) (fun _ _ _ h => h) (Or.inl ⟨by rfl, ?PDhy15⟩) hHeld ?PDr15
              case PDhy15 => (intro w hSw; (try dsimp only at hSw); go_simp; (try with_reducible rfl))
              (try simp only [Act.put, List.setIfInBounds_toArray, List.set_cons_zero, List.set_cons_succ])
              refine wpAnyH_take (i := 16) (oi := ⟨some 47, _, _, _, _, _⟩) (v := ?PDv16) rfl (by kernel_rfl) (by kernel_rfl) (by kernel_rfl) (fun _ _ _ h => h) (Or.inl ⟨by rfl, ?PDhy16⟩) hHeld ?PDr16
              case PDhy16 => (intro w hSw; (try dsimp only at hSw); go_simp; (try with_reducible rfl))
              (try simp only [Act.put, List.setIfInBounds_toArray, List.set_cons_zero, List.set_cons_succ])
              refine wpAnyH_take (i := 17) (oi := ⟨some 48, _, _, _, _, _⟩) (v := ?PDv17) rfl (by kernel_rfl) (by kernel_rfl) (by kernel_rfl) (fun _ _ _ h => h) (Or.inl ⟨by rfl, ?PDhy17⟩) hHeld ?PDr17
              case PDhy17 => (intro w hSw; (try dsimp only at hSw); go_simp; (try with_reducible rfl))
              (try simp only [Act.put, List.setIfInBounds_toArray, List.set_cons_zero, List.set_cons_succ])
              refine wpAnyH_take (i := 18) (oi := ⟨some 49, _, _, _, _, _⟩) (v := ?PDv18) rfl (by kernel_rfl) (by kernel_rfl) (by kernel_rfl) (fun _ _ _ h => h) (Or.inl ⟨by rfl, ?PDhy18⟩) hHeld ?PDr18
              case PDhy18 => (intro w hSw; (try dsimp only at hSw); go_simp; (try with_reducible rfl))
              (try simp only [Act.put, List.setIfInBounds_toArray, List.set_cons_zero, List.set_cons_succ])
              refine wpAnyH_take (i := 19) (oi := ⟨some 50, _, _, _, _, _⟩) (v := ?PDv19) rfl (by kernel_rfl) (by kernel_rfl) (by kernel_rfl) (fun _ _ _ h => h) (Or.inl ⟨by rfl, ?PDhy19⟩) hHeld ?PDr19
              case PDhy19 => (intro w hSw; (try dsimp only at hSw); go_simp; (try with_reducible rfl))
              (try simp only [Act.put, List.setIfInBounds_toArray, List.set_cons_zero, List.set_cons_succ])
              refine wpAnyH_take (i := 20) (oi := ⟨some 51, _, _, _, _, _⟩) (v := ?PDv20) rfl (by kernel_rfl) (by kernel_rfl) (by kernel_rfl) (fun _ _ _ h => h) (Or.inl ⟨by rfl, ?PDhy20⟩) hHeld ?PDr20
              case PDhy20 => (intro w hSw; (try dsimp only at hSw); go_simp; (try with_reducible rfl))
              (try simp only [Act.put, List.setIfInBounds_toArray, List.set_cons_zero, List.set_cons_succ])
              refine wpAnyH_ready (rs := [21]) (by kernel_rfl) (by simp) ?PDc21
              refine AllReadyH.cons (o := ⟨some 52, _, _, _, _, _⟩) rfl (fun K hK => ?PDst21) AllReadyH.nil
              go_simp
              (go_at_call 52; refine (uses_letters x.op _ o0 o1).2.2.1.mono ?_; rintro e w1 ⟨rfl, hb⟩)
              refine hK.out _ _ ?PDk21 (fun hHeld2 => ?PDm21)
              case PDk21 => first | exact s9_next hHeld hb | exact s9_same hHeld | exact s9_start _ _ _ _ hblk
              clear hK K hHeld
              have hHeld := hHeld2; clear hHeld2
              (try simp only [Act.put, List.setIfInBounds_toArray, List.set_cons_zero, List.set_cons_succ])
              refine wpAnyH_ready (rs := [22]) (by kernel_rfl) (by simp) ?PDc22
              refine AllReadyH.cons (o := ⟨some 53, _, _, _, _, _⟩) rfl (fun K hK => ?PDst22) AllReadyH.nil
              go_simp
              (go_at_call 51; refine (register_any _ _ _).mono ?_; rintro e w1 ⟨rfl, rfl⟩; rw [rc])
              refine hK.out _ _ ?PDk22 (fun hHeld2 => ?PDm22)
              case PDk22 => first | exact s9_next hHeld hb | exact s9_same hHeld | exact s9_start _ _ _ _ hblk
              clear hK K hHeld
              have hHeld := hHeld2; clear hHeld2
              (try simp only [Act.put, List.setIfInBounds_toArray, List.set_cons_zero, List.set_cons_succ])
              refine wpAnyH_take (i := 23) (oi := ⟨some 54, _, _, _, _, _⟩) (v := ?PDv23) rfl (by kernel_rfl) (by kernel_rfl) (by kernel_rfl) (fun _ _ _ h => h) (Or.inl ⟨by rfl, ?PDhy23⟩) hHeld ?PDr23
              case PDhy23 => (intro w hSw; (try dsimp only at hSw); go_simp; (try with_reducible rfl))
              (try simp only [Act.put, List.setIfInBounds_toArray, List.set_cons_zero, List.set_cons_succ])
              refine wpAnyH_take (i := 24) (oi := ⟨some 55, _, _, _, _, _⟩) (v := ?PDv24) rfl (by kernel_rfl) (by kernel_rfl) (by kernel_rfl) (fun _ _ _ h => h) (Or.inl ⟨by rfl, ?PDhy24⟩) hHeld ?PDr24
              case PDhy24 => (intro w hSw; (try dsimp only at hSw); go_simp; (try with_reducible rfl))
              (try simp only [Act.put, List.setIfInBounds_toArray, List.set_cons_zero, List.set_cons_succ])
              refine wpAnyH_take (i := 25) (oi := ⟨some 56, _, _, _, _, _⟩) (v := ?PDv25) rfl (by kernel_rfl) (by kernel_rfl) (by kernel_rfl) (fun _ _ _ h => h) (Or.inl ⟨by rfl, ?PDhy25⟩) hHeld ?PDr25
              case PDhy25 => (intro w hSw; (try dsimp only at hSw); go_simp; (try with_reducible rfl))
              (try simp only [Act.put, List.setIfInBounds_toArray, List.set_cons_zero, List.set_cons_succ])
              refine wpAnyH_take (i := 26) (oi := ⟨some 57, _, _, _, _, _⟩) (v := ?PDv26) rfl (by kernel_rfl) (by kernel_rfl) (by kernel_rfl) (fun _ _ _ h => h) (Or.inl ⟨by rfl, ?PDhy26⟩) hHeld ?PDr26
              case PDhy26 => (intro w hSw; (try dsimp only at hSw); go_simp; (try with_reducible rfl))
              (try simp only [Act.put, List.setIfInBounds_toArray, List.set_cons_zero, List.set_cons_succ])
              refine wpAnyH_take (i := 27) (oi := ⟨some 58, _, _, _, _, _⟩) (v := ?PDv27) rfl (by kernel_rfl) (by kernel_rfl) (by kernel_rfl) (fun _ _ _ h => h) (Or.inl ⟨by rfl, ?PDhy27⟩) hHeld ?PDr27
              case PDhy27 => (intro w hSw; (try dsimp only at hSw); go_simp; (try with_reducible rfl))
              (try simp only [Act.put, List.setIfInBounds_toArray, List.set_cons_zero, List.set_cons_succ])
              refine wpAnyH_take (i := 28) (oi := ⟨some 59, _, _, _, _, _⟩) (v := ?PDv28) rfl (by kernel_rfl) (by kernel_rfl) (by kernel_rfl) (fun _ _ _ h => h) (Or.inl ⟨by rfl, ?PDhy28⟩) hHeld ?PDr28
              case PDhy28 => (intro w hSw; (try dsimp only at hSw); go_simp; (try with_reducible rfl))
              (try simp only [Act.put, List.setIfInBounds_toArray, List.set_cons_zero, List.set_cons_succ])
              refine wpAnyH_take (i := 29) (oi := ⟨some 60, _, _, _, _, _⟩) (v := ?PDv29) rfl (by kernel_rfl) (by kernel_rfl) (by kernel_rfl) (fun _ _ _ h => h) (Or.inl ⟨by rfl, ?PDhy29⟩) hHeld ?PDr29
              case PDhy29 => (intro w hSw; (try dsimp only at hSw); go_simp; (try with_reducible rfl))
              (try simp only [Act.put, List.setIfInBounds_toArray, List.set_cons_zero, List.set_cons_succ])
              refine wpAnyH_take (i := 30) (oi := ⟨some 61, _, _, _, _, _⟩) (v := undef) rfl (by kernel_rfl) (by kernel_rfl) (by kernel_rfl) (fun _ _ _ h => h) (Or.inr ⟨by rfl, rfl⟩) hHeld ?PDr30
              (try simp only [Act.put, List.setIfInBounds_toArray, List.set_cons_zero, List.set_cons_succ])
              refine wpAnyH_take (i := 31) (oi := ⟨some 62, _, _, _, _, _⟩) (v := undef) rfl (by kernel_rfl) (by kernel_rfl) (by kernel_rfl) (fun _ _ _ h => h) (Or.inr ⟨by rfl, rfl⟩) hHeld ?PDr31
              (try simp only [Act.put, List.setIfInBounds_toArray, List.set_cons_zero, List.set_cons_succ])
              refine wpAnyH_take (i := 32) (oi := ⟨some 63, _, _, _, _, _⟩) (v := undef) rfl (by kernel_rfl) (by kernel_rfl) (by kernel_rfl) (fun _ _ _ h => h) (Or.inr ⟨by rfl, rfl⟩) hHeld ?PDr32
              (try simp only [Act.put, List.setIfInBounds_toArray, List.set_cons_zero, List.set_cons_succ])
              refine wpAnyH_take (i := 33) (oi := ⟨some 64, _, _, _, _, _⟩) (v := undef) rfl (by kernel_rfl) (by kernel_rfl) (by kernel_rfl) (fun _ _ _ h => h) (Or.inr ⟨by rfl, rfl⟩) hHeld ?PDr33
              (try simp only [Act.put, List.setIfInBounds_toArray, List.set_cons_zero, List.set_cons_succ])
              refine wpAnyH_take (i := 34) (oi := ⟨some 65, _, _, _, _, _⟩) (v := ?PDv34) rfl (by kernel_rfl) (by kernel_rfl) (by kernel_rfl) (fun _ _ _ h => h) (Or.inl ⟨by rfl, ?PDhy34⟩) hHeld ?PDr34
              case PDhy34 => (intro w hSw; (try dsimp only at hSw); go_simp; (try with_reducible rfl))
              (try simp only [Act.put, List.setIfInBounds_toArray, List.set_cons_zero, List.set_cons_succ])
              refine wpAnyH_take (i := 35) (oi := ⟨some 66, _, _, _, _, _⟩) (v := ?PDv35) rfl (by kernel_rfl) (by kernel_rfl) (by kernel_rfl) (fun _ _ _ h => h) (Or.inl ⟨by rfl, ?PDhy35⟩) hHeld ?PDr35
              case PDhy35 => (intro w hSw; (try dsimp only at hSw); go_simp; (try with_reducible rfl))
              (try simp only [Act.put, List.setIfInBounds_toArray, List.set_cons_zero, List.set_cons_succ])
              refine wpAnyH_take (i := 36) (oi := ⟨some 67, _, _, _, _, _⟩) (v := undef) rfl (by kernel_rfl) (by kernel_rfl) (by kernel_rfl) (fun _ _ _ h => h) (Or.inr ⟨by rfl, rfl⟩) hHeld ?PDr36
              (try simp only [Act.put, List.setIfInBounds_toArray, List.set_cons_zero, List.set_cons_succ])
              refine wpAnyH_take (i := 37) (oi := ⟨some 68, _, _, _, _, _⟩) (v := undef) rfl (by kernel_rfl) (by kernel_rfl) (by kernel_rfl) (fun _ _ _ h => h) (Or.inr ⟨by rfl, rfl⟩) hHeld ?PDr37
              (try simp only [Act.put, List.setIfInBounds_toArray, List.set_cons_zero, List.set_cons_succ])
              refine wpAnyH_take (i := 38) (oi := ⟨some 69, _, _, _, _, _⟩) (v := undef) rfl (by kernel_rfl) (by kernel_rfl) (by kernel_rfl) (fun _ _ _ h => h) (Or.inr ⟨by rfl, rfl⟩) hHeld ?PDr38
              (try simp only [Act.put, List.setIfInBounds_toArray, List.set_cons_zero, List.set_cons_succ])
              refine wpAnyH_take (i := 39) (oi := ⟨some 70, _, _, _, _, _⟩) (v := undef) rfl (by kernel_rfl) (by kernel_rfl) (by kernel_rfl) (fun _ _ _ h => h) (Or.inr ⟨by rfl, rfl⟩) hHeld ?PDr39
              (try simp only [Act.put, List.setIfInBounds_toArray, List.set_cons_zero, List.set_cons_succ])
              refine wpAnyH_take (i := 40) (oi := ⟨some 71, _, _, _, _, _⟩) (v := ?PDv40) rfl (by kernel_rfl) (by kernel_rfl) (by kernel_rfl) (fun _ _ _ h => h) (Or.inl ⟨by rfl, ?PDhy40⟩) hHeld ?PDr40
              case PDhy40 => (intro w hSw; (try dsimp only at hSw); go_simp; (try with_reducible rfl))
              (try simp only [Act.put, List.setIfInBounds_toArray, List.set_cons_zero, List.set_cons_succ])
              refine wpAnyH_take (i := 41) (oi := ⟨some 72, _, _, _, _, _⟩) (v := ?PDv41) rfl (by kernel_rfl) (by kernel_rfl) (by kernel_rfl) (fun _ _ _ h => h) (Or.inl ⟨by rfl, ?PDhy41⟩) hHeld ?PDr41
              case PDhy41 => (intro w hSw; (try dsimp only at hSw); go_simp; (try with_reducible rfl))
              (try simp only [Act.put, List.setIfInBounds_toArray, List.set_cons_zero, List.set_cons_succ])
              refine wpAnyH_done (by kernel_rfl) ?PDdone _
              go_wp2
              go_meet
              exact ⟨by rw [hbad], hHeld.2.2.2.2.2.1, hHeld.2.2.2.2.2.2⟩
            have hz2 : (x.imm != 0) = true := by rw [bne_iff_ne]; exact hz
            have hz3 : (x.imm == 0) = false := by rw [beq_eq_false_iff_ne]; exact hz
            clear hz
            rcases Bool.eq_false_or_eq_true (uses x.op 105) with ui | ui
            case inl =>
              have hbad : bad9 x = false := by unfold bad9; rw [ra, rb, rc, ui]; simp
              refine wp_region_held_drew (S := (fun w' => w'.cell? ⟨q, 0, none⟩ = some (.int .i64 x.op) ∧ w'.cell? ⟨q, 1, none⟩ = some (.int .i64 x.a) ∧ w'.cell? ⟨q, 2, none⟩ = some (.int .i64 x.b) ∧ w'.cell? ⟨q, 3, none⟩ = some (.int .i64 x.c) ∧ w'.cell? ⟨q, 4, none⟩ = some (.int .i32 x.imm) ∧ BlkT w' q x.cells 35 ∧ Below W0.heap.size W0 w')) (by kernel_rfl) ?PEhS (fun hHeld => ?PErest)
              case PEhS => first | exact s9_next hHeld hb | exact s9_same hHeld | exact s9_start _ _ _ _ hblk
              refine wpAnyH_take (i := 0) (oi := ⟨some 31, _, _, _, _, _⟩) (v := ?PEv0) rfl (by kernel_rfl) (by kernel_rfl) (by kernel_rfl) (fun _ _ _ h => h) (Or.inl ⟨by rfl, ?PEhy0⟩) hHeld ?PEr0
              case PEhy0 => (intro w hSw; (try dsimp only at hSw); go_simp; (try with_reducible rfl))
              (try simp only [Act.put, List.setIfInBounds_toArray, List.set_cons_zero, List.set_cons_succ])
              refine wpAnyH_take (i := 1) (oi := ⟨some 32, _, _, _, _, _⟩) (v := ?PEv1) rfl (by kernel_rfl) (by kernel_rfl) (by kernel_rfl) (fun _ _ _ h => h) (Or.inl ⟨by rfl, ?PEhy1⟩) hHeld ?PEr1
              case PEhy1 => (intro w hSw; (try dsimp only at hSw); go_simp; (try with_reducible rfl))
              (try simp only [Act.put, List.setIfInBounds_toArray, List.set_cons_zero, List.set_cons_succ])
              refine wpAnyH_take (i := 2) (oi := ⟨some 33, _, _, _, _, _⟩) (v := ?PEv2) rfl (by kernel_rfl) (by kernel_rfl) (by kernel_rfl) (fun _ _ _ h => h) (Or.inl ⟨by rfl, ?PEhy2⟩) hHeld ?PEr2
              case PEhy2 => (intro w hSw; (try dsimp only at hSw); go_simp; (try with_reducible rfl))
              (try simp only [Act.put, List.setIfInBounds_toArray, List.set_cons_zero, List.set_cons_succ])
              refine wpAnyH_take (i := 3) (oi := ⟨some 34, _, _, _, _, _⟩) (v := ?PEv3) rfl (by kernel_rfl) (by kernel_rfl) (by kernel_rfl) (fun _ _ _ h => h) (Or.inl ⟨by rfl, ?PEhy3⟩) hHeld ?PEr3
              case PEhy3 => (intro w hSw; (try dsimp only at hSw); go_simp; (try with_reducible rfl))
              (try simp only [Act.put, List.setIfInBounds_toArray, List.set_cons_zero, List.set_cons_succ])
              refine wpAnyH_ready (rs := [4]) (by kernel_rfl) (by simp) ?PEc4
              refine AllReadyH.cons (o := ⟨some 35, _, _, _, _, _⟩) rfl (fun K hK => ?PEst4) AllReadyH.nil
              go_simp
              (go_at_call 52; refine (uses_letters x.op _ o0 o1).1.mono ?_; rintro e w1 ⟨rfl, hb⟩)
              refine hK.out _ _ ?PEk4 (fun hHeld2 => ?PEm4)
              case PEk4 => first | exact s9_next hHeld hb | exact s9_same hHeld | exact s9_start _ _ _ _ hblk
              clear hK K hHeld
              have hHeld := hHeld2; clear hHeld2
              (try simp only [Act.put, List.setIfInBounds_toArray, List.set_cons_zero, List.set_cons_succ])
              refine wpAnyH_ready (rs := [5]) (by kernel_rfl) (by simp) ?PEc5
              refine AllReadyH.cons (o := ⟨some 36, _, _, _, _, _⟩) rfl (fun K hK => ?PEst5) AllReadyH.nil
              go_simp
              (go_at_call 51; refine (register_any _ _ _).mono ?_; rintro e w1 ⟨rfl, rfl⟩; rw [ra])
              refine hK.out _ _ ?PEk5 (fun hHeld2 => ?PEm5)
              case PEk5 => first | exact s9_next hHeld hb | exact s9_same hHeld | exact s9_start _ _ _ _ hblk
              clear hK K hHeld
              have hHeld := hHeld2; clear hHeld2
              (try simp only [Act.put, List.setIfInBounds_toArray, List.set_cons_zero, List.set_cons_succ])
              refine wpAnyH_take (i := 6) (oi := ⟨some 37, _, _, _, _, _⟩) (v := ?PEv6) rfl (by kernel_rfl) (by kernel_rfl) (by kernel_rfl) (fun _ _ _ h => h) (Or.inl ⟨by rfl, ?PEhy6⟩) hHeld ?PEr6
              case PEhy6 => (intro w hSw; (try dsimp only at hSw); go_simp; (try with_reducible rfl))
              (try simp only [Act.put, List.setIfInBounds_toArray, List.set_cons_zero, List.set_cons_succ])
              refine wpAnyH_take (i := 7) (oi := ⟨some 38, _, _, _, _, _⟩) (v := ?PEv7) rfl (by kernel_rfl) (by kernel_rfl) (by kernel_rfl) (fun _ _ _ h => h) (Or.inl ⟨by rfl, ?PEhy7⟩) hHeld ?PEr7
              case PEhy7 => (intro w hSw; (try dsimp only at hSw); go_simp; (try with_reducible rfl))
              (try simp only [Act.put, List.setIfInBounds_toArray, List.set_cons_zero, List.set_cons_succ])
              refine wpAnyH_take (i := 8) (oi := ⟨some 39, _, _, _, _, _⟩) (v := ?PEv8) rfl (by kernel_rfl) (by kernel_rfl) (by kernel_rfl) (fun _ _ _ h => h) (Or.inl ⟨by rfl, ?PEhy8⟩) hHeld ?PEr8
              case PEhy8 => (intro w hSw; (try dsimp only at hSw); go_simp; (try with_reducible rfl))
              (try simp only [Act.put, List.setIfInBounds_toArray, List.set_cons_zero, List.set_cons_succ])
              refine wpAnyH_take (i := 9) (oi := ⟨some 40, _, _, _, _, _⟩) (v := ?PEv9) rfl (by kernel_rfl) (by kernel_rfl) (by kernel_rfl) (fun _ _ _ h => h) (Or.inl ⟨by rfl, ?PEhy9⟩) hHeld ?PEr9
              case PEhy9 => (intro w hSw; (try dsimp only at hSw); go_simp; (try with_reducible rfl))
              (try simp only [Act.put, List.setIfInBounds_toArray, List.set_cons_zero, List.set_cons_succ])
              refine wpAnyH_take (i := 10) (oi := ⟨some 41, _, _, _, _, _⟩) (v := ?PEv10) rfl (by kernel_rfl) (by kernel_rfl) (by kernel_rfl) (fun _ _ _ h => h) (Or.inl ⟨by rfl, ?PEhy10⟩) hHeld ?PEr10
              case PEhy10 => (intro w hSw; (try dsimp only at hSw); go_simp; (try with_reducible rfl))
              (try simp only [Act.put, List.setIfInBounds_toArray, List.set_cons_zero, List.set_cons_succ])
              refine wpAnyH_take (i := 11) (oi := ⟨some 42, _, _, _, _, _⟩) (v := ?PEv11) rfl (by kernel_rfl) (by kernel_rfl) (by kernel_rfl) (fun _ _ _ h => h) (Or.inl ⟨by rfl, ?PEhy11⟩) hHeld ?PEr11
              case PEhy11 => (intro w hSw; (try dsimp only at hSw); go_simp; (try with_reducible rfl))
              (try simp only [Act.put, List.setIfInBounds_toArray, List.set_cons_zero, List.set_cons_succ])
              refine wpAnyH_ready (rs := [12]) (by kernel_rfl) (by simp) ?PEc12
              refine AllReadyH.cons (o := ⟨some 43, _, _, _, _, _⟩) rfl (fun K hK => ?PEst12) AllReadyH.nil
              go_simp
              (go_at_call 52; refine (uses_letters x.op _ o0 o1).2.1.mono ?_; rintro e w1 ⟨rfl, hb⟩)
              refine hK.out _ _ ?PEk12 (fun hHeld2 => ?PEm12)
              case PEk12 => first | exact s9_next hHeld hb | exact s9_same hHeld | exact s9_start _ _ _ _ hblk
              clear hK K hHeld
              have hHeld := hHeld2; clear hHeld2
              (try simp only [Act.put, List.setIfInBounds_toArray, List.set_cons_zero, List.set_cons_succ])
              refine wpAnyH_ready (rs := [13]) (by kernel_rfl) (by simp) ?PEc13
              refine AllReadyH.cons (o := ⟨some 44, _, _, _, _, _⟩) rfl (fun K hK => ?PEst13) AllReadyH.nil
              go_simp
              (go_at_call 51; refine (register_any _ _ _).mono ?_; rintro e w1 ⟨rfl, rfl⟩; rw [rb])
              refine hK.out _ _ ?PEk13 (fun hHeld2 => ?PEm13)
              case PEk13 => first | exact s9_next hHeld hb | exact s9_same hHeld | exact s9_start _ _ _ _ hblk
              clear hK K hHeld
              have hHeld := hHeld2; clear hHeld2
              (try simp only [Act.put, List.setIfInBounds_toArray, List.set_cons_zero, List.set_cons_succ])
              refine wpAnyH_take (i := 14) (oi := ⟨some 45, _, _, _, _, _⟩) (v := ?PEv14) rfl (by kernel_rfl) (by kernel_rfl) (by kernel_rfl) (fun _ _ _ h => h) (Or.inl ⟨by rfl, ?PEhy14⟩) hHeld ?PEr14
              case PEhy14 => (intro w hSw; (try dsimp only at hSw); go_simp; (try with_reducible rfl))
              (try simp only [Act.put, List.setIfInBounds_toArray, List.set_cons_zero, List.set_cons_succ])
              refine wpAnyH_take (i := 15) (oi := ⟨some 46, _, _, _, _, _⟩) (v := ?PEv15) rfl (by kernel_rfl) (by kernel_rfl) (by kernel_rfl) (fun _ _ _ h => h) (Or.inl ⟨by rfl, ?PEhy15⟩) hHeld ?PEr15
              case PEhy15 => (intro w hSw; (try dsimp only at hSw); go_simp; (try with_reducible rfl))
              (try simp only [Act.put, List.setIfInBounds_toArray, List.set_cons_zero, List.set_cons_succ])
              refine wpAnyH_take (i := 16) (oi := ⟨some 47, _, _, _, _, _⟩) (v := ?PEv16) rfl (by kernel_rfl) (by kernel_rfl) (by kernel_rfl) (fun _ _ _ h => h) (Or.inl ⟨by rfl, ?PEhy16⟩) hHeld ?PEr16
              case PEhy16 => (intro w hSw; (try dsimp only at hSw); go_simp; (try with_reducible rfl))
              (try simp only [Act.put, List.setIfInBounds_toArray, List.set_cons_zero, List.set_cons_succ])
              refine wpAnyH_take (i := 17) (oi := ⟨some 48, _, _, _, _, _⟩) (v := ?PEv17) rfl (by kernel_rfl) (by kernel_rfl) (by kernel_rfl) (fun _ _ _ h => h) (Or.inl ⟨by rfl, ?PEhy17⟩) hHeld ?PEr17
              case PEhy17 => (intro w hSw; (try dsimp only at hSw); go_simp; (try with_reducible rfl))
              (try simp only [Act.put, List.setIfInBounds_toArray, List.set_cons_zero, List.set_cons_succ])
              refine wpAnyH_take (i := 18) (oi := ⟨some 49, _, _, _, _, _⟩) (v := ?PEv18) rfl (by kernel_rfl) (by kernel_rfl) (by kernel_rfl) (fun _ _ _ h => h) (Or.inl ⟨by rfl, ?PEhy18⟩) hHeld ?PEr18
              case PEhy18 => (intro w hSw; (try dsimp only at hSw); go_simp; (try with_reducible rfl))
              (try simp only [Act.put, List.setIfInBounds_toArray, List.set_cons_zero, List.set_cons_succ])
              refine wpAnyH_take (i := 19) (oi := ⟨some 50, _, _, _, _, _⟩) (v := ?PEv19) rfl (by kernel_rfl) (by kernel_rfl) (by kernel_rfl) (fun _ _ _ h => h) (Or.inl ⟨by rfl, ?PEhy19⟩) hHeld ?PEr19
              case PEhy19 => (intro w hSw; (try dsimp only at hSw); go_simp; (try with_reducible rfl))
              (try simp only [Act.put, List.setIfInBounds_toArray, List.set_cons_zero, List.set_cons_succ])
              refine wpAnyH_take (i := 20) (oi := ⟨some 51, _, _, _, _, _⟩) (v := ?PEv20) rfl (by kernel_rfl) (by kernel_rfl) (by kernel_rfl) (fun _ _ _ h => h) (Or.inl ⟨by rfl, ?PEhy20⟩) hHeld ?PEr20
              case PEhy20 => (intro w hSw; (try dsimp only at hSw); go_simp; (try with_reducible rfl))
              (try simp only [Act.put, List.setIfInBounds_toArray, List.set_cons_zero, List.set_cons_succ])
              refine wpAnyH_ready (rs := [21]) (by kernel_rfl) (by simp) ?PEc21
              refine AllReadyH.cons (o := ⟨some 52, _, _, _, _, _⟩) rfl (fun K hK => ?PEst21) AllReadyH.nil
              go_simp
              (go_at_call 52; refine (uses_letters x.op _ o0 o1).2.2.1.mono ?_; rintro e w1 ⟨rfl, hb⟩)
              refine hK.out _ _ ?PEk21 (fun hHeld2 => ?PEm21)
              case PEk21 => first | exact s9_next hHeld hb | exact s9_same hHeld | exact s9_start _ _ _ _ hblk
              clear hK K hHeld
              have hHeld := hHeld2; clear hHeld2
              (try simp only [Act.put, List.setIfInBounds_toArray, List.set_cons_zero, List.set_cons_succ])
              refine wpAnyH_ready (rs := [22]) (by kernel_rfl) (by simp) ?PEc22
              refine AllReadyH.cons (o := ⟨some 53, _, _, _, _, _⟩) rfl (fun K hK => ?PEst22) AllReadyH.nil
              go_simp
              (go_at_call 51; refine (register_any _ _ _).mono ?_; rintro e w1 ⟨rfl, rfl⟩; rw [rc])
              refine hK.out _ _ ?PEk22 (fun hHeld2 => ?PEm22)
              case PEk22 => first | exact s9_next hHeld hb | exact s9_same hHeld | exact s9_start _ _ _ _ hblk
              clear hK K hHeld
              have hHeld := hHeld2; clear hHeld2
              (try simp only [Act.put, List.setIfInBounds_toArray, List.set_cons_zero, List.set_cons_succ])
              refine wpAnyH_take (i := 23) (oi := ⟨some 54, _, _, _, _, _⟩) (v := ?PEv23) rfl (by kernel_rfl) (by kernel_rfl) (by kernel_rfl) (fun _ _ _ h => h) (Or.inl ⟨by rfl, ?PEhy23⟩) hHeld ?PEr23
              case PEhy23 => (intro w hSw; (try dsimp only at hSw); go_simp; (try with_reducible rfl))
              (try simp only [Act.put, List.setIfInBounds_toArray, List.set_cons_zero, List.set_cons_succ])
              refine wpAnyH_take (i := 24) (oi := ⟨some 55, _, _, _, _, _⟩) (v := ?PEv24) rfl (by kernel_rfl) (by kernel_rfl) (by kernel_rfl) (fun _ _ _ h => h) (Or.inl ⟨by rfl, ?PEhy24⟩) hHeld ?PEr24
              case PEhy24 => (intro w hSw; (try dsimp only at hSw); go_simp; (try with_reducible rfl))
              (try simp only [Act.put, List.setIfInBounds_toArray, List.set_cons_zero, List.set_cons_succ])
              refine wpAnyH_take (i := 25) (oi := ⟨some 56, _, _, _, _, _⟩) (v := ?PEv25) rfl (by kernel_rfl) (by kernel_rfl) (by kernel_rfl) (fun _ _ _ h => h) (Or.inl ⟨by rfl, ?PEhy25⟩) hHeld ?PEr25
              case PEhy25 => (intro w hSw; (try dsimp only at hSw); go_simp; (try with_reducible rfl))
              (try simp only [Act.put, List.setIfInBounds_toArray, List.set_cons_zero, List.set_cons_succ])
              refine wpAnyH_take (i := 26) (oi := ⟨some 57, _, _, _, _, _⟩) (v := ?PEv26) rfl (by kernel_rfl) (by kernel_rfl) (by kernel_rfl) (fun _ _ _ h => h) (Or.inl ⟨by rfl, ?PEhy26⟩) hHeld ?PEr26
              case PEhy26 => (intro w hSw; (try dsimp only at hSw); go_simp; (try with_reducible rfl))
              (try simp only [Act.put, List.setIfInBounds_toArray, List.set_cons_zero, List.set_cons_succ])
              refine wpAnyH_take (i := 27) (oi := ⟨some 58, _, _, _, _, _⟩) (v := ?PEv27) rfl (by kernel_rfl) (by kernel_rfl) (by kernel_rfl) (fun _ _ _ h => h) (Or.inl ⟨by rfl, ?PEhy27⟩) hHeld ?PEr27
              case PEhy27 => (intro w hSw; (try dsimp only at hSw); go_simp; (try with_reducible rfl))
              (try simp only [Act.put, List.setIfInBounds_toArray, List.set_cons_zero, List.set_cons_succ])
              refine wpAnyH_take (i := 28) (oi := ⟨some 59, _, _, _, _, _⟩) (v := ?PEv28) rfl (by kernel_rfl) (by kernel_rfl) (by kernel_rfl) (fun _ _ _ h => h) (Or.inl ⟨by rfl, ?PEhy28⟩) hHeld ?PEr28
              case PEhy28 => (intro w hSw; (try dsimp only at hSw); go_simp; (try with_reducible rfl))
              (try simp only [Act.put, List.setIfInBounds_toArray, List.set_cons_zero, List.set_cons_succ])
              refine wpAnyH_take (i := 29) (oi := ⟨some 60, _, _, _, _, _⟩) (v := ?PEv29) rfl (by kernel_rfl) (by kernel_rfl) (by kernel_rfl) (fun _ _ _ h => h) (Or.inl ⟨by rfl, ?PEhy29⟩) hHeld ?PEr29
              case PEhy29 => (intro w hSw; (try dsimp only at hSw); go_simp; (try with_reducible rfl))
              (try simp only [Act.put, List.setIfInBounds_toArray, List.set_cons_zero, List.set_cons_succ])
              refine wpAnyH_take (i := 30) (oi := ⟨some 61, _, _, _, _, _⟩) (v := ?PEv30) rfl (by kernel_rfl) (by kernel_rfl) (by kernel_rfl) (fun _ _ _ h => h) (Or.inl ⟨by rfl, ?PEhy30⟩) hHeld ?PEr30
              case PEhy30 => (intro w hSw; (try dsimp only at hSw); go_simp; (try with_reducible rfl))
              (try simp only [Act.put, List.setIfInBounds_toArray, List.set_cons_zero, List.set_cons_succ])
              refine wpAnyH_take (i := 31) (oi := ⟨some 62, _, _, _, _, _⟩) (v := ?PEv31) rfl (by kernel_rfl) (by kernel_rfl) (by kernel_rfl) (fun _ _ _ h => h) (Or.inl ⟨by rfl, ?PEhy31⟩) hHeld ?PEr31
              case PEhy31 => (intro w hSw; (try dsimp only at hSw); go_simp; (try with_reducible rfl))
              (try simp only [Act.put, List.setIfInBounds_toArray, List.set_cons_zero, List.set_cons_succ])
              refine wpAnyH_ready (rs := [32]) (by kernel_rfl) (by simp) ?PEc32
              refine AllReadyH.cons (o := ⟨some 63, _, _, _, _, _⟩) rfl (fun K hK => ?PEst32) AllReadyH.nil
              go_simp
              (go_at_call 52; refine (uses_letters x.op _ o0 o1).2.2.2.1.mono ?_; rintro e w1 ⟨rfl, hb⟩; rw [ui])
              refine hK.out _ _ ?PEk32 (fun hHeld2 => ?PEm32)
              case PEk32 => first | exact s9_next hHeld hb | exact s9_same hHeld | exact s9_start _ _ _ _ hblk
              clear hK K hHeld
              have hHeld := hHeld2; clear hHeld2
              (try simp only [Act.put, List.setIfInBounds_toArray, List.set_cons_zero, List.set_cons_succ])
              refine wpAnyH_take (i := 33) (oi := ⟨some 64, _, _, _, _, _⟩) (v := ?PEv33) rfl (by kernel_rfl) (by kernel_rfl) (by kernel_rfl) (fun _ _ _ h => h) (Or.inl ⟨by rfl, ?PEhy33⟩) hHeld ?PEr33
              case PEhy33 => (intro w hSw; (try dsimp only at hSw); go_simp; (try with_reducible rfl))
              (try simp only [Act.put, List.setIfInBounds_toArray, List.set_cons_zero, List.set_cons_succ])
              refine wpAnyH_take (i := 34) (oi := ⟨some 65, _, _, _, _, _⟩) (v := ?PEv34) rfl (by kernel_rfl) (by kernel_rfl) (by kernel_rfl) (fun _ _ _ h => h) (Or.inl ⟨by rfl, ?PEhy34⟩) hHeld ?PEr34
              case PEhy34 => (intro w hSw; (try dsimp only at hSw); go_simp; (try with_reducible rfl))
              (try simp only [Act.put, List.setIfInBounds_toArray, List.set_cons_zero, List.set_cons_succ])
              refine wpAnyH_take (i := 35) (oi := ⟨some 66, _, _, _, _, _⟩) (v := ?PEv35) rfl (by kernel_rfl) (by kernel_rfl) (by kernel_rfl) (fun _ _ _ h => h) (Or.inl ⟨by rfl, ?PEhy35⟩) hHeld ?PEr35
              case PEhy35 => (intro w hSw; (try dsimp only at hSw); go_simp; (try with_reducible rfl))
              (try simp only [Act.put, List.setIfInBounds_toArray, List.set_cons_zero, List.set_cons_succ])
              refine wpAnyH_take (i := 36) (oi := ⟨some 67, _, _, _, _, _⟩) (v := undef) rfl (by kernel_rfl) (by kernel_rfl) (by kernel_rfl) (fun _ _ _ h => h) (Or.inr ⟨by rfl, rfl⟩) hHeld ?PEr36
              (try simp only [Act.put, List.setIfInBounds_toArray, List.set_cons_zero, List.set_cons_succ])
              refine wpAnyH_take (i := 37) (oi := ⟨some 68, _, _, _, _, _⟩) (v := undef) rfl (by kernel_rfl) (by kernel_rfl) (by kernel_rfl) (fun _ _ _ h => h) (Or.inr ⟨by rfl, rfl⟩) hHeld ?PEr37
              (try simp only [Act.put, List.setIfInBounds_toArray, List.set_cons_zero, List.set_cons_succ])
              refine wpAnyH_take (i := 38) (oi := ⟨some 69, _, _, _, _, _⟩) (v := undef) rfl (by kernel_rfl) (by kernel_rfl) (by kernel_rfl) (fun _ _ _ h => h) (Or.inr ⟨by rfl, rfl⟩) hHeld ?PEr38
              (try simp only [Act.put, List.setIfInBounds_toArray, List.set_cons_zero, List.set_cons_succ])
              refine wpAnyH_take (i := 39) (oi := ⟨some 70, _, _, _, _, _⟩) (v := undef) rfl (by kernel_rfl) (by kernel_rfl) (by kernel_rfl) (fun _ _ _ h => h) (Or.inr ⟨by rfl, rfl⟩) hHeld ?PEr39
              (try simp only [Act.put, List.setIfInBounds_toArray, List.set_cons_zero, List.set_cons_succ])
              refine wpAnyH_take (i := 40) (oi := ⟨some 71, _, _, _, _, _⟩) (v := ?PEv40) rfl (by kernel_rfl) (by kernel_rfl) (by kernel_rfl) (fun _ _ _ h => h) (Or.inl ⟨by rfl, ?PEhy40⟩) hHeld ?PEr40
              case PEhy40 => (intro w hSw; (try dsimp only at hSw); go_simp; (try with_reducible rfl))
              (try simp only [Act.put, List.setIfInBounds_toArray, List.set_cons_zero, List.set_cons_succ])
              refine wpAnyH_take (i := 41) (oi := ⟨some 72, _, _, _, _, _⟩) (v := ?PEv41) rfl (by kernel_rfl) (by kernel_rfl) (by kernel_rfl) (fun _ _ _ h => h) (Or.inl ⟨by rfl, ?PEhy41⟩) hHeld ?PEr41
              case PEhy41 => (intro w hSw; (try dsimp only at hSw); go_simp; (try with_reducible rfl))
              (try simp only [Act.put, List.setIfInBounds_toArray, List.set_cons_zero, List.set_cons_succ])
              refine wpAnyH_done (by kernel_rfl) ?PEdone _
              go_wp2
              go_meet
              exact ⟨by rw [hbad], hHeld.2.2.2.2.2.1, hHeld.2.2.2.2.2.2⟩
            rcases Bool.eq_false_or_eq_true (uses x.op 116) with ut | ut
            case inl =>
              have hbad : bad9 x = false := by unfold bad9; rw [ra, rb, rc, ut]; simp
              refine wp_region_held_drew (S := (fun w' => w'.cell? ⟨q, 0, none⟩ = some (.int .i64 x.op) ∧ w'.cell? ⟨q, 1, none⟩ = some (.int .i64 x.a) ∧ w'.cell? ⟨q, 2, none⟩ = some (.int .i64 x.b) ∧ w'.cell? ⟨q, 3, none⟩ = some (.int .i64 x.c) ∧ w'.cell? ⟨q, 4, none⟩ = some (.int .i32 x.imm) ∧ BlkT w' q x.cells 35 ∧ Below W0.heap.size W0 w')) (by kernel_rfl) ?PFhS (fun hHeld => ?PFrest)
              case PFhS => first | exact s9_next hHeld hb | exact s9_same hHeld | exact s9_start _ _ _ _ hblk
              refine wpAnyH_take (i := 0) (oi := ⟨some 31, _, _, _, _, _⟩) (v := ?PFv0) rfl (by kernel_rfl) (by kernel_rfl) (by kernel_rfl) (fun _ _ _ h => h) (Or.inl ⟨by rfl, ?PFhy0⟩) hHeld ?PFr0
              case PFhy0 => (intro w hSw; (try dsimp only at hSw); go_simp; (try with_reducible rfl))
              (try simp only [Act.put, List.setIfInBounds_toArray, List.set_cons_zero, List.set_cons_succ])
              refine wpAnyH_take (i := 1) (oi := ⟨some 32, _, _, _, _, _⟩) (v := ?PFv1) rfl (by kernel_rfl) (by kernel_rfl) (by kernel_rfl) (fun _ _ _ h => h) (Or.inl ⟨by rfl, ?PFhy1⟩) hHeld ?PFr1
              case PFhy1 => (intro w hSw; (try dsimp only at hSw); go_simp; (try with_reducible rfl))
              (try simp only [Act.put, List.setIfInBounds_toArray, List.set_cons_zero, List.set_cons_succ])
              refine wpAnyH_take (i := 2) (oi := ⟨some 33, _, _, _, _, _⟩) (v := ?PFv2) rfl (by kernel_rfl) (by kernel_rfl) (by kernel_rfl) (fun _ _ _ h => h) (Or.inl ⟨by rfl, ?PFhy2⟩) hHeld ?PFr2
              case PFhy2 => (intro w hSw; (try dsimp only at hSw); go_simp; (try with_reducible rfl))
              (try simp only [Act.put, List.setIfInBounds_toArray, List.set_cons_zero, List.set_cons_succ])
              refine wpAnyH_take (i := 3) (oi := ⟨some 34, _, _, _, _, _⟩) (v := ?PFv3) rfl (by kernel_rfl) (by kernel_rfl) (by kernel_rfl) (fun _ _ _ h => h) (Or.inl ⟨by rfl, ?PFhy3⟩) hHeld ?PFr3
              case PFhy3 => (intro w hSw; (try dsimp only at hSw); go_simp; (try with_reducible rfl))
              (try simp only [Act.put, List.setIfInBounds_toArray, List.set_cons_zero, List.set_cons_succ])
              refine wpAnyH_ready (rs := [4]) (by kernel_rfl) (by simp) ?PFc4
              refine AllReadyH.cons (o := ⟨some 35, _, _, _, _, _⟩) rfl (fun K hK => ?PFst4) AllReadyH.nil
              go_simp
              (go_at_call 52; refine (uses_letters x.op _ o0 o1).1.mono ?_; rintro e w1 ⟨rfl, hb⟩)
              refine hK.out _ _ ?PFk4 (fun hHeld2 => ?PFm4)
              case PFk4 => first | exact s9_next hHeld hb | exact s9_same hHeld | exact s9_start _ _ _ _ hblk
              clear hK K hHeld
              have hHeld := hHeld2; clear hHeld2
              (try simp only [Act.put, List.setIfInBounds_toArray, List.set_cons_zero, List.set_cons_succ])
              refine wpAnyH_ready (rs := [5]) (by kernel_rfl) (by simp) ?PFc5
              refine AllReadyH.cons (o := ⟨some 36, _, _, _, _, _⟩) rfl (fun K hK => ?PFst5) AllReadyH.nil
              go_simp
              (go_at_call 51; refine (register_any _ _ _).mono ?_; rintro e w1 ⟨rfl, rfl⟩; rw [ra])
              refine hK.out _ _ ?PFk5 (fun hHeld2 => ?PFm5)
              case PFk5 => first | exact s9_next hHeld hb | exact s9_same hHeld | exact s9_start _ _ _ _ hblk
              clear hK K hHeld
              have hHeld := hHeld2; clear hHeld2
              (try simp only [Act.put, List.setIfInBounds_toArray, List.set_cons_zero, List.set_cons_succ])
              refine wpAnyH_take (i := 6) (oi := ⟨some 37, _, _, _, _, _⟩) (v := ?PFv6) rfl (by kernel_rfl) (by kernel_rfl) (by kernel_rfl) (fun _ _ _ h => h) (Or.inl ⟨by rfl, ?PFhy6⟩) hHeld ?PFr6
              case PFhy6 => (intro w hSw; (try dsimp only at hSw); go_simp; (try with_reducible rfl))
              (try simp only [Act.put, List.setIfInBounds_toArray, List.set_cons_zero, List.set_cons_succ])
              refine wpAnyH_take (i := 7) (oi := ⟨some 38, _, _, _, _, _⟩) (v := ?PFv7) rfl (by kernel_rfl) (by kernel_rfl) (by kernel_rfl) (fun _ _ _ h => h) (Or.inl ⟨by rfl, ?PFhy7⟩) hHeld ?PFr7
              case PFhy7 => (intro w hSw; (try dsimp only at hSw); go_simp; (try with_reducible rfl))
              (try simp only [Act.put, List.setIfInBounds_toArray, List.set_cons_zero, List.set_cons_succ])
              refine wpAnyH_take (i := 8) (oi := ⟨some 39, _, _, _, _, _⟩) (v := ?PFv8) rfl (by kernel_rfl) (by kernel_rfl) (by kernel_rfl) (fun _ _ _ h => h) (Or.inl ⟨by rfl, ?PFhy8⟩) hHeld ?PFr8
              case PFhy8 => (intro w hSw; (try dsimp only at hSw); go_simp; (try with_reducible rfl))
              (try simp only [Act.put, List.setIfInBounds_toArray, List.set_cons_zero, List.set_cons_succ])
              refine wpAnyH_take (i := 9) (oi := ⟨some 40, _, _, _, _, _⟩) (v := ?PFv9) rfl (by kernel_rfl) (by kernel_rfl) (by kernel_rfl) (fun _ _ _ h => h) (Or.inl ⟨by rfl, ?PFhy9⟩) hHeld ?PFr9
              case PFhy9 => (intro w hSw; (try dsimp only at hSw); go_simp; (try with_reducible rfl))
              (try simp only [Act.put, List.setIfInBounds_toArray, List.set_cons_zero, List.set_cons_succ])
              refine wpAnyH_take (i := 10) (oi := ⟨some 41, _, _, _, _, _⟩) (v := ?PFv10) rfl (by kernel_rfl) (by kernel_rfl) (by kernel_rfl) (fun _ _ _ h => h) (Or.inl ⟨by rfl, ?PFhy10⟩) hHeld ?PFr10
              case PFhy10 => (intro w hSw; (try dsimp only at hSw); go_simp; (try with_reducible rfl))
              (try simp only [Act.put, List.setIfInBounds_toArray, List.set_cons_zero, List.set_cons_succ])
              refine wpAnyH_take (i := 11) (oi := ⟨some 42, _, _, _, _, _⟩) (v := ?PFv11) rfl (by kernel_rfl) (by kernel_rfl) (by kernel_rfl) (fun _ _ _ h => h) (Or.inl ⟨by rfl, ?PFhy11⟩) hHeld ?PFr11
              case PFhy11 => (intro w hSw; (try dsimp only at hSw); go_simp; (try with_reducible rfl))
              (try simp only [Act.put, List.setIfInBounds_toArray, List.set_cons_zero, List.set_cons_succ])
              refine wpAnyH_ready (rs := [12]) (by kernel_rfl) (by simp) ?PFc12
              refine AllReadyH.cons (o := ⟨some 43, _, _, _, _, _⟩) rfl (fun K hK => ?PFst12) AllReadyH.nil
              go_simp
              (go_at_call 52; refine (uses_letters x.op _ o0 o1).2.1.mono ?_; rintro e w1 ⟨rfl, hb⟩)
              refine hK.out _ _ ?PFk12 (fun hHeld2 => ?PFm12)
              case PFk12 => first | exact s9_next hHeld hb | exact s9_same hHeld | exact s9_start _ _ _ _ hblk
              clear hK K hHeld
              have hHeld := hHeld2; clear hHeld2
              (try simp only [Act.put, List.setIfInBounds_toArray, List.set_cons_zero, List.set_cons_succ])
              refine wpAnyH_ready (rs := [13]) (by kernel_rfl) (by simp) ?PFc13
              refine AllReadyH.cons (o := ⟨some 44, _, _, _, _, _⟩) rfl (fun K hK => ?PFst13) AllReadyH.nil
              go_simp
              (go_at_call 51; refine (register_any _ _ _).mono ?_; rintro e w1 ⟨rfl, rfl⟩; rw [rb])
              refine hK.out _ _ ?PFk13 (fun hHeld2 => ?PFm13)
              case PFk13 => first | exact s9_next hHeld hb | exact s9_same hHeld | exact s9_start _ _ _ _ hblk
              clear hK K hHeld
              have hHeld := hHeld2; clear hHeld2
              (try simp only [Act.put, List.setIfInBounds_toArray, List.set_cons_zero, List.set_cons_succ])
              refine wpAnyH_take (i := 14) (oi := ⟨some 45, _, _, _, _, _⟩) (v := ?PFv14) rfl (by kernel_rfl) (by kernel_rfl) (by kernel_rfl) (fun _ _ _ h => h) (Or.inl ⟨by rfl, ?PFhy14⟩) hHeld ?PFr14
              case PFhy14 => (intro w hSw; (try dsimp only at hSw); go_simp; (try with_reducible rfl))
              (try simp only [Act.put, List.setIfInBounds_toArray, List.set_cons_zero, List.set_cons_succ])
              refine wpAnyH_take (i := 15) (oi := ⟨some 46, _, _, _, _, _⟩) (v := ?PFv15) rfl (by kernel_rfl) (by kernel_rfl) (by kernel_rfl) (fun _ _ _ h => h) (Or.inl ⟨by rfl, ?PFhy15⟩) hHeld ?PFr15
              case PFhy15 => (intro w hSw; (try dsimp only at hSw); go_simp; (try with_reducible rfl))
              (try simp only [Act.put, List.setIfInBounds_toArray, List.set_cons_zero, List.set_cons_succ])
              refine wpAnyH_take (i := 16) (oi := ⟨some 47, _, _, _, _, _⟩) (v := ?PFv16) rfl (by kernel_rfl) (by kernel_rfl) (by kernel_rfl) (fun _ _ _ h => h) (Or.inl ⟨by rfl, ?PFhy16⟩) hHeld ?PFr16
              case PFhy16 => (intro w hSw; (try dsimp only at hSw); go_simp; (try with_reducible rfl))
              (try simp only [Act.put, List.setIfInBounds_toArray, List.set_cons_zero, List.set_cons_succ])
              refine wpAnyH_take (i := 17) (oi := ⟨some 48, _, _, _, _, _⟩) (v := ?PFv17) rfl (by kernel_rfl) (by kernel_rfl) (by kernel_rfl) (fun _ _ _ h => h) (Or.inl ⟨by rfl, ?PFhy17⟩) hHeld ?PFr17
              case PFhy17 => (intro w hSw; (try dsimp only at hSw); go_simp; (try with_reducible rfl))
              (try simp only [Act.put, List.setIfInBounds_toArray, List.set_cons_zero, List.set_cons_succ])
              refine wpAnyH_take (i := 18) (oi := ⟨some 49, _, _, _, _, _⟩) (v := ?PFv18) rfl (by kernel_rfl) (by kernel_rfl) (by kernel_rfl) (fun _ _ _ h => h) (Or.inl ⟨by rfl, ?PFhy18⟩) hHeld ?PFr18
              case PFhy18 => (intro w hSw; (try dsimp only at hSw); go_simp; (try with_reducible rfl))
              (try simp only [Act.put, List.setIfInBounds_toArray, List.set_cons_zero, List.set_cons_succ])
              refine wpAnyH_take (i := 19) (oi := ⟨some 50, _, _, _, _, _⟩) (v := ?PFv19) rfl (by kernel_rfl) (by kernel_rfl) (by kernel_rfl) (fun _ _ _ h => h) (Or.inl ⟨by rfl, ?PFhy19⟩) hHeld ?PFr19
              case PFhy19 => (intro w hSw; (try dsimp only at hSw); go_simp; (try with_reducible rfl))
              (try simp only [Act.put, List.setIfInBounds_toArray, List.set_cons_zero, List.set_cons_succ])
              refine wpAnyH_take (i := 20) (oi := ⟨some 51, _, _, _, _, _⟩) (v := ?PFv20) rfl (by kernel_rfl) (by kernel_rfl) (by kernel_rfl) (fun _ _ _ h => h) (Or.inl ⟨by rfl, ?PFhy20⟩) hHeld ?PFr20
              case PFhy20 => (intro w hSw; (try dsimp only at hSw); go_simp; (try with_reducible rfl))
              (try simp only [Act.put, List.setIfInBounds_toArray, List.set_cons_zero, List.set_cons_succ])
              refine wpAnyH_ready (rs := [21]) (by kernel_rfl) (by simp) ?PFc21
              refine AllReadyH.cons (o := ⟨some 52, _, _, _, _, _⟩) rfl (fun K hK => ?PFst21) AllReadyH.nil
              go_simp
              (go_at_call 52; refine (uses_letters x.op _ o0 o1).2.2.1.mono ?_; rintro e w1 ⟨rfl, hb⟩)
              refine hK.out _ _ ?PFk21 (fun hHeld2 => ?PFm21)
              case PFk21 => first | exact s9_next hHeld hb | exact s9_same hHeld | exact s9_start _ _ _ _ hblk
              clear hK K hHeld
              have hHeld := hHeld2; clear hHeld2
              (try simp only [Act.put, List.setIfInBounds_toArray, List.set_cons_zero, List.set_cons_succ])
              refine wpAnyH_ready (rs := [22]) (by kernel_rfl) (by simp) ?PFc22
              refine AllReadyH.cons (o := ⟨some 53, _, _, _, _, _⟩) rfl (fun K hK => ?PFst22) AllReadyH.nil
              go_simp
              (go_at_call 51; refine (register_any _ _ _).mono ?_; rintro e w1 ⟨rfl, rfl⟩; rw [rc])
              refine hK.out _ _ ?PFk22 (fun hHeld2 => ?PFm22)
              case PFk22 => first | exact s9_next hHeld hb | exact s9_same hHeld | exact s9_start _ _ _ _ hblk
              clear hK K hHeld
              have hHeld := hHeld2; clear hHeld2
              (try simp only [Act.put, List.setIfInBounds_toArray, List.set_cons_zero, List.set_cons_succ])
              refine wpAnyH_take (i := 23) (oi := ⟨some 54, _, _, _, _, _⟩) (v := ?PFv23) rfl (by kernel_rfl) (by kernel_rfl) (by kernel_rfl) (fun _ _ _ h => h) (Or.inl ⟨by rfl, ?PFhy23⟩) hHeld ?PFr23
              case PFhy23 => (intro w hSw; (try dsimp only at hSw); go_simp; (try with_reducible rfl))
              (try simp only [Act.put, List.setIfInBounds_toArray, List.set_cons_zero, List.set_cons_succ])
              refine wpAnyH_take (i := 24) (oi := ⟨some 55, _, _, _, _, _⟩) (v := ?PFv24) rfl (by kernel_rfl) (by kernel_rfl) (by kernel_rfl) (fun _ _ _ h => h) (Or.inl ⟨by rfl, ?PFhy24⟩) hHeld ?PFr24
              case PFhy24 => (intro w hSw; (try dsimp only at hSw); go_simp; (try with_reducible rfl))
              (try simp only [Act.put, List.setIfInBounds_toArray, List.set_cons_zero, List.set_cons_succ])
              refine wpAnyH_take (i := 25) (oi := ⟨some 56, _, _, _, _, _⟩) (v := ?PFv25) rfl (by kernel_rfl) (by kernel_rfl) (by kernel_rfl) (fun _ _ _ h => h) (Or.inl ⟨by rfl, ?PFhy25⟩) hHeld ?PFr25
              case PFhy25 => (intro w hSw; (try dsimp only at hSw); go_simp; (try with_reducible rfl))
              (try simp only [Act.put, List.setIfInBounds_toArray, List.set_cons_zero, List.set_cons_succ])
              refine wpAnyH_take (i := 26) (oi := ⟨some 57, _, _, _, _, _⟩) (v := ?PFv26) rfl (by kernel_rfl) (by kernel_rfl) (by kernel_rfl) (fun _ _ _ h => h) (Or.inl ⟨by rfl, ?PFhy26⟩) hHeld ?PFr26
              case PFhy26 => (intro w hSw; (try dsimp only at hSw); go_simp; (try with_reducible rfl))
              (try simp only [Act.put, List.setIfInBounds_toArray, List.set_cons_zero, List.set_cons_succ])
              refine wpAnyH_take (i := 27) (oi := ⟨some 58, _, _, _, _, _⟩) (v := ?PFv27) rfl (by kernel_rfl) (by kernel_rfl) (by kernel_rfl) (fun _ _ _ h => h) (Or.inl ⟨by rfl, ?PFhy27⟩) hHeld ?PFr27
              case PFhy27 => (intro w hSw; (try dsimp only at hSw); go_simp; (try with_reducible rfl))
              (try simp only [Act.put, List.setIfInBounds_toArray, List.set_cons_zero, List.set_cons_succ])
              refine wpAnyH_take (i := 28) (oi := ⟨some 59, _, _, _, _, _⟩) (v := ?PFv28) rfl (by kernel_rfl) (by kernel_rfl) (by kernel_rfl) (fun _ _ _ h => h) (Or.inl ⟨by rfl, ?PFhy28⟩) hHeld ?PFr28
              case PFhy28 => (intro w hSw; (try dsimp only at hSw); go_simp; (try with_reducible rfl))
              (try simp only [Act.put, List.setIfInBounds_toArray, List.set_cons_zero, List.set_cons_succ])
              refine wpAnyH_take (i := 29) (oi := ⟨some 60, _, _, _, _, _⟩) (v := ?PFv29) rfl (by kernel_rfl) (by kernel_rfl) (by kernel_rfl) (fun _ _ _ h => h) (Or.inl ⟨by rfl, ?PFhy29⟩) hHeld ?PFr29
              case PFhy29 => (intro w hSw; (try dsimp only at hSw); go_simp; (try with_reducible rfl))
              (try simp only [Act.put, List.setIfInBounds_toArray, List.set_cons_zero, List.set_cons_succ])
              refine wpAnyH_take (i := 30) (oi := ⟨some 61, _, _, _, _, _⟩) (v := ?PFv30) rfl (by kernel_rfl) (by kernel_rfl) (by kernel_rfl) (fun _ _ _ h => h) (Or.inl ⟨by rfl, ?PFhy30⟩) hHeld ?PFr30
              case PFhy30 => (intro w hSw; (try dsimp only at hSw); go_simp; (try with_reducible rfl))
              (try simp only [Act.put, List.setIfInBounds_toArray, List.set_cons_zero, List.set_cons_succ])
              refine wpAnyH_take (i := 31) (oi := ⟨some 62, _, _, _, _, _⟩) (v := ?PFv31) rfl (by kernel_rfl) (by kernel_rfl) (by kernel_rfl) (fun _ _ _ h => h) (Or.inl ⟨by rfl, ?PFhy31⟩) hHeld ?PFr31
              case PFhy31 => (intro w hSw; (try dsimp only at hSw); go_simp; (try with_reducible rfl))
              (try simp only [Act.put, List.setIfInBounds_toArray, List.set_cons_zero, List.set_cons_succ])
              refine wpAnyH_ready (rs := [32]) (by kernel_rfl) (by simp) ?PFc32
              refine AllReadyH.cons (o := ⟨some 63, _, _, _, _, _⟩) rfl (fun K hK => ?PFst32) AllReadyH.nil
              go_simp
              (go_at_call 52; refine (uses_letters x.op _ o0 o1).2.2.2.1.mono ?_; rintro e w1 ⟨rfl, hb⟩; rw [ui])
              refine hK.out _ _ ?PFk32 (fun hHeld2 => ?PFm32)
              case PFk32 => first | exact s9_next hHeld hb | exact s9_same hHeld | exact s9_start _ _ _ _ hblk
              clear hK K hHeld
              have hHeld := hHeld2; clear hHeld2
              (try simp only [Act.put, List.setIfInBounds_toArray, List.set_cons_zero, List.set_cons_succ])
              refine wpAnyH_take (i := 33) (oi := ⟨some 64, _, _, _, _, _⟩) (v := ?PFv33) rfl (by kernel_rfl) (by kernel_rfl) (by kernel_rfl) (fun _ _ _ h => h) (Or.inl ⟨by rfl, ?PFhy33⟩) hHeld ?PFr33
              case PFhy33 => (intro w hSw; (try dsimp only at hSw); go_simp; (try with_reducible rfl))
              (try simp only [Act.put, List.setIfInBounds_toArray, List.set_cons_zero, List.set_cons_succ])
              refine wpAnyH_take (i := 34) (oi := ⟨some 65, _, _, _, _, _⟩) (v := ?PFv34) rfl (by kernel_rfl) (by kernel_rfl) (by kernel_rfl) (fun _ _ _ h => h) (Or.inl ⟨by rfl, ?PFhy34⟩) hHeld ?PFr34
              case PFhy34 => (intro w hSw; (try dsimp only at hSw); go_simp; (try with_reducible rfl))
              (try simp only [Act.put, List.setIfInBounds_toArray, List.set_cons_zero, List.set_cons_succ])
              refine wpAnyH_take (i := 35) (oi := ⟨some 66, _, _, _, _, _⟩) (v := ?PFv35) rfl (by kernel_rfl) (by kernel_rfl) (by kernel_rfl) (fun _ _ _ h => h) (Or.inl ⟨by rfl, ?PFhy35⟩) hHeld ?PFr35
              case PFhy35 => (intro w hSw; (try dsimp only at hSw); go_simp; (try with_reducible rfl))
              (try simp only [Act.put, List.setIfInBounds_toArray, List.set_cons_zero, List.set_cons_succ])
              refine wpAnyH_take (i := 36) (oi := ⟨some 67, _, _, _, _, _⟩) (v := ?PFv36) rfl (by kernel_rfl) (by kernel_rfl) (by kernel_rfl) (fun _ _ _ h => h) (Or.inl ⟨by rfl, ?PFhy36⟩) hHeld ?PFr36
              case PFhy36 => (intro w hSw; (try dsimp only at hSw); go_simp; (try with_reducible rfl))
              (try simp only [Act.put, List.setIfInBounds_toArray, List.set_cons_zero, List.set_cons_succ])
              refine wpAnyH_take (i := 37) (oi := ⟨some 68, _, _, _, _, _⟩) (v := ?PFv37) rfl (by kernel_rfl) (by kernel_rfl) (by kernel_rfl) (fun _ _ _ h => h) (Or.inl ⟨by rfl, ?PFhy37⟩) hHeld ?PFr37
              case PFhy37 => (intro w hSw; (try dsimp only at hSw); go_simp; (try with_reducible rfl))
              (try simp only [Act.put, List.setIfInBounds_toArray, List.set_cons_zero, List.set_cons_succ])
              refine wpAnyH_ready (rs := [38]) (by kernel_rfl) (by simp) ?PFc38
              refine AllReadyH.cons (o := ⟨some 69, _, _, _, _, _⟩) rfl (fun K hK => ?PFst38) AllReadyH.nil
              go_simp
              (go_at_call 52; refine (uses_letters x.op _ o0 o1).2.2.2.2.mono ?_; rintro e w1 ⟨rfl, hb⟩; rw [ut])
              refine hK.out _ _ ?PFk38 (fun hHeld2 => ?PFm38)
              case PFk38 => first | exact s9_next hHeld hb | exact s9_same hHeld | exact s9_start _ _ _ _ hblk
              clear hK K hHeld
              have hHeld := hHeld2; clear hHeld2
              (try simp only [Act.put, List.setIfInBounds_toArray, List.set_cons_zero, List.set_cons_succ])
              refine wpAnyH_take (i := 39) (oi := ⟨some 70, _, _, _, _, _⟩) (v := ?PFv39) rfl (by kernel_rfl) (by kernel_rfl) (by kernel_rfl) (fun _ _ _ h => h) (Or.inl ⟨by rfl, ?PFhy39⟩) hHeld ?PFr39
              case PFhy39 => (intro w hSw; (try dsimp only at hSw); go_simp; (try with_reducible rfl))
              (try simp only [Act.put, List.setIfInBounds_toArray, List.set_cons_zero, List.set_cons_succ])
              refine wpAnyH_take (i := 40) (oi := ⟨some 71, _, _, _, _, _⟩) (v := ?PFv40) rfl (by kernel_rfl) (by kernel_rfl) (by kernel_rfl) (fun _ _ _ h => h) (Or.inl ⟨by rfl, ?PFhy40⟩) hHeld ?PFr40
              case PFhy40 => (intro w hSw; (try dsimp only at hSw); go_simp; (try with_reducible rfl))
              (try simp only [Act.put, List.setIfInBounds_toArray, List.set_cons_zero, List.set_cons_succ])
              refine wpAnyH_take (i := 41) (oi := ⟨some 72, _, _, _, _, _⟩) (v := ?PFv41) rfl (by kernel_rfl) (by kernel_rfl) (by kernel_rfl) (fun _ _ _ h => h) (Or.inl ⟨by rfl, ?PFhy41⟩) hHeld ?PFr41
              case PFhy41 => (intro w hSw; (try dsimp only at hSw); go_simp; (try with_reducible rfl))
              (try simp only [Act.put, List.setIfInBounds_toArray, List.set_cons_zero, List.set_cons_succ])
              refine wpAnyH_done (by kernel_rfl) ?PFdone _
              go_wp2
              go_meet
              exact ⟨by rw [hbad], hHeld.2.2.2.2.2.1, hHeld.2.2.2.2.2.2⟩
            case inr =>
              have hbad : bad9 x = true := by unfold bad9; rw [ra, rb, rc, ui, ut, hz3]; rfl
              refine wp_region_held_drew (S := (fun w' => w'.cell? ⟨q, 0, none⟩ = some (.int .i64 x.op) ∧ w'.cell? ⟨q, 1, none⟩ = some (.int .i64 x.a) ∧ w'.cell? ⟨q, 2, none⟩ = some (.int .i64 x.b) ∧ w'.cell? ⟨q, 3, none⟩ = some (.int .i64 x.c) ∧ w'.cell? ⟨q, 4, none⟩ = some (.int .i32 x.imm) ∧ BlkT w' q x.cells 35 ∧ Below W0.heap.size W0 w')) (by kernel_rfl) ?PGhS (fun hHeld => ?PGrest)
              case PGhS => first | exact s9_next hHeld hb | exact s9_same hHeld | exact s9_start _ _ _ _ hblk
              refine wpAnyH_take (i := 0) (oi := ⟨some 31, _, _, _, _, _⟩) (v := ?PGv0) rfl (by kernel_rfl) (by kernel_rfl) (by kernel_rfl) (fun _ _ _ h => h) (Or.inl ⟨by rfl, ?PGhy0⟩) hHeld ?PGr0
              case PGhy0 => (intro w hSw; (try dsimp only at hSw); go_simp; (try with_reducible rfl))
              (try simp only [Act.put, List.setIfInBounds_toArray, List.set_cons_zero, List.set_cons_succ])
              refine wpAnyH_take (i := 1) (oi := ⟨some 32, _, _, _, _, _⟩) (v := ?PGv1) rfl (by kernel_rfl) (by kernel_rfl) (by kernel_rfl) (fun _ _ _ h => h) (Or.inl ⟨by rfl, ?PGhy1⟩) hHeld ?PGr1
              case PGhy1 => (intro w hSw; (try dsimp only at hSw); go_simp; (try with_reducible rfl))
              (try simp only [Act.put, List.setIfInBounds_toArray, List.set_cons_zero, List.set_cons_succ])
              refine wpAnyH_take (i := 2) (oi := ⟨some 33, _, _, _, _, _⟩) (v := ?PGv2) rfl (by kernel_rfl) (by kernel_rfl) (by kernel_rfl) (fun _ _ _ h => h) (Or.inl ⟨by rfl, ?PGhy2⟩) hHeld ?PGr2
              case PGhy2 => (intro w hSw; (try dsimp only at hSw); go_simp; (try with_reducible rfl))
              (try simp only [Act.put, List.setIfInBounds_toArray, List.set_cons_zero, List.set_cons_succ])
              refine wpAnyH_take (i := 3) (oi := ⟨some 34, _, _, _, _, _⟩) (v := ?PGv3) rfl (by kernel_rfl) (by kernel_rfl) (by kernel_rfl) (fun _ _ _ h => h) (Or.inl ⟨by rfl, ?PGhy3⟩) hHeld ?PGr3
              case PGhy3 => (intro w hSw; (try dsimp only at hSw); go_simp; (try with_reducible rfl))
              (try simp only [Act.put, List.setIfInBounds_toArray, List.set_cons_zero, List.set_cons_succ])
              refine wpAnyH_ready (rs := [4]) (by kernel_rfl) (by simp) ?PGc4
              refine AllReadyH.cons (o := ⟨some 35, _, _, _, _, _⟩) rfl (fun K hK => ?PGst4) AllReadyH.nil
              go_simp
              (go_at_call 52; refine (uses_letters x.op _ o0 o1).1.mono ?_; rintro e w1 ⟨rfl, hb⟩)
              refine hK.out _ _ ?PGk4 (fun hHeld2 => ?PGm4)
              case PGk4 => first | exact s9_next hHeld hb | exact s9_same hHeld | exact s9_start _ _ _ _ hblk
              clear hK K hHeld
              have hHeld := hHeld2; clear hHeld2
              (try simp only [Act.put, List.setIfInBounds_toArray, List.set_cons_zero, List.set_cons_succ])
              refine wpAnyH_ready (rs := [5]) (by kernel_rfl) (by simp) ?PGc5
              refine AllReadyH.cons (o := ⟨some 36, _, _, _, _, _⟩) rfl (fun K hK => ?PGst5) AllReadyH.nil
              go_simp
              (go_at_call 51; refine (register_any _ _ _).mono ?_; rintro e w1 ⟨rfl, rfl⟩; rw [ra])
              refine hK.out _ _ ?PGk5 (fun hHeld2 => ?PGm5)
              case PGk5 => first | exact s9_next hHeld hb | exact s9_same hHeld | exact s9_start _ _ _ _ hblk
              clear hK K hHeld
              have hHeld := hHeld2; clear hHeld2
              (try simp only [Act.put, List.setIfInBounds_toArray, List.set_cons_zero, List.set_cons_succ])
              refine wpAnyH_take (i := 6) (oi := ⟨some 37, _, _, _, _, _⟩) (v := ?PGv6) rfl (by kernel_rfl) (by kernel_rfl) (by kernel_rfl) (fun _ _ _ h => h) (Or.inl ⟨by rfl, ?PGhy6⟩) hHeld ?PGr6
              case PGhy6 => (intro w hSw; (try dsimp only at hSw); go_simp; (try with_reducible rfl))
              (try simp only [Act.put, List.setIfInBounds_toArray, List.set_cons_zero, List.set_cons_succ])
              refine wpAnyH_take (i := 7) (oi := ⟨some 38, _, _, _, _, _⟩) (v := ?PGv7) rfl (by kernel_rfl) (by kernel_rfl) (by kernel_rfl) (fun _ _ _ h => h) (Or.inl ⟨by rfl, ?PGhy7⟩) hHeld ?PGr7
              case PGhy7 => (intro w hSw; (try dsimp only at hSw); go_simp; (try with_reducible rfl))
              (try simp only [Act.put, List.setIfInBounds_toArray, List.set_cons_zero, List.set_cons_succ])
              refine wpAnyH_take (i := 8) (oi := ⟨some 39, _, _, _, _, _⟩) (v := ?PGv8) rfl (by kernel_rfl) (by kernel_rfl) (by kernel_rfl) (fun _ _ _ h => h) (Or.inl ⟨by rfl, ?PGhy8⟩) hHeld ?PGr8
              case PGhy8 => (intro w hSw; (try dsimp only at hSw); go_simp; (try with_reducible rfl))
              (try simp only [Act.put, List.setIfInBounds_toArray, List.set_cons_zero, List.set_cons_succ])
              refine wpAnyH_take (i := 9) (oi := ⟨some 40, _, _, _, _, _⟩) (v := ?PGv9) rfl (by kernel_rfl) (by kernel_rfl) (by kernel_rfl) (fun _ _ _ h => h) (Or.inl ⟨by rfl, ?PGhy9⟩) hHeld ?PGr9
              case PGhy9 => (intro w hSw; (try dsimp only at hSw); go_simp; (try with_reducible rfl))
              (try simp only [Act.put, List.setIfInBounds_toArray, List.set_cons_zero, List.set_cons_succ])
              refine wpAnyH_take (i := 10) (oi := ⟨some 41, _, _, _, _, _⟩) (v := ?PGv10) rfl (by kernel_rfl) (by kernel_rfl) (by kernel_rfl) (fun _ _ _ h => h) (Or.inl ⟨by rfl, ?PGhy10⟩) hHeld ?PGr10
              case PGhy10 => (intro w hSw; (try dsimp only at hSw); go_simp; (try with_reducible rfl))
              (try simp only [Act.put, List.setIfInBounds_toArray, List.set_cons_zero, List.set_cons_succ])
              refine wpAnyH_take (i := 11) (oi := ⟨some 42, _, _, _, _, _⟩) (v := ?PGv11) rfl (by kernel_rfl) (by kernel_rfl) (by kernel_rfl) (fun _ _ _ h => h) (Or.inl ⟨by rfl, ?PGhy11⟩) hHeld ?PGr11
              case PGhy11 => (intro w hSw; (try dsimp only at hSw); go_simp; (try with_reducible rfl))
              (try simp only [Act.put, List.setIfInBounds_toArray, List.set_cons_zero, List.set_cons_succ])
              refine wpAnyH_ready (rs := [12]) (by kernel_rfl) (by simp) ?PGc12
              refine AllReadyH.cons (o := ⟨some 43, _, _, _, _, _⟩) rfl (fun K hK => ?PGst12) AllReadyH.nil
              go_simp
              (go_at_call 52; refine (uses_letters x.op _ o0 o1).2.1.mono ?_; rintro e w1 ⟨rfl, hb⟩)
              refine hK.out _ _ ?PGk12 (fun hHeld2 => ?PGm12)
              case PGk12 => first | exact s9_next hHeld hb | exact s9_same hHeld | exact s9_start _ _ _ _ hblk
              clear hK K hHeld
              have hHeld := hHeld2; clear hHeld2
              (try simp only [Act.put, List.setIfInBounds_toArray, List.set_cons_zero, List.set_cons_succ])
              refine wpAnyH_ready (rs := [13]) (by kernel_rfl) (by simp) ?PGc13
              refine AllReadyH.cons (o := ⟨some 44, _, _, _, _, _⟩) rfl (fun K hK => ?PGst13) AllReadyH.nil
              go_simp
              (go_at_call 51; refine (register_any _ _ _).mono ?_; rintro e w1 ⟨rfl, rfl⟩; rw [rb])
              refine hK.out _ _ ?PGk13 (fun hHeld2 => ?PGm13)
              case PGk13 => first | exact s9_next hHeld hb | exact s9_same hHeld | exact s9_start _ _ _ _ hblk
              clear hK K hHeld
              have hHeld := hHeld2; clear hHeld2
              (try simp only [Act.put, List.setIfInBounds_toArray, List.set_cons_zero, List.set_cons_succ])
              refine wpAnyH_take (i := 14) (oi := ⟨some 45, _, _, _, _, _⟩) (v := ?PGv14) rfl (by kernel_rfl) (by kernel_rfl) (by kernel_rfl) (fun _ _ _ h => h) (Or.inl ⟨by rfl, ?PGhy14⟩) hHeld ?PGr14
              case PGhy14 => (intro w hSw; (try dsimp only at hSw); go_simp; (try with_reducible rfl))
              (try simp only [Act.put, List.setIfInBounds_toArray, List.set_cons_zero, List.set_cons_succ])
              refine wpAnyH_take (i := 15) (oi := ⟨some 46, _, _, _, _, _⟩) (v := ?PGv15) rfl (by kernel_rfl) (by kernel_rfl) (by kernel_rfl) (fun _ _ _ h => h) (Or.inl ⟨by rfl, ?PGhy15⟩) hHeld ?PGr15
              case PGhy15 => (intro w hSw; (try dsimp only at hSw); go_simp; (try with_reducible rfl))
              (try simp only [Act.put, List.setIfInBounds_toArray, List.set_cons_zero, List.set_cons_succ])
              refine wpAnyH_take (i := 16) (oi := ⟨some 47, _, _, _, _, _⟩) (v := ?PGv16) rfl (by kernel_rfl) (by kernel_rfl) (by kernel_rfl) (fun _ _ _ h => h) (Or.inl ⟨by rfl, ?PGhy16⟩) hHeld ?PGr16
              case PGhy16 => (intro w hSw; (try dsimp only at hSw); go_simp; (try with_reducible rfl))
              (try simp only [Act.put, List.setIfInBounds_toArray, List.set_cons_zero, List.set_cons_succ])
              refine wpAnyH_take (i := 17) (oi := ⟨some 48, _, _, _, _, _⟩) (v := ?PGv17) rfl (by kernel_rfl) (by kernel_rfl) (by kernel_rfl) (fun _ _ _ h => h) (Or.inl ⟨by rfl, ?PGhy17⟩) hHeld ?PGr17
              case PGhy17 => (intro w hSw; (try dsimp only at hSw); go_simp; (try with_reducible rfl))
              (try simp only [Act.put, List.setIfInBounds_toArray, List.set_cons_zero, List.set_cons_succ])
              refine wpAnyH_take (i := 18) (oi := ⟨some 49, _, _, _, _, _⟩) (v := ?PGv18) rfl (by kernel_rfl) (by kernel_rfl) (by kernel_rfl) (fun _ _ _ h => h) (Or.inl ⟨by rfl, ?PGhy18⟩) hHeld ?PGr18
              case PGhy18 => (intro w hSw; (try dsimp only at hSw); go_simp; (try with_reducible rfl))
              (try simp only [Act.put, List.setIfInBounds_toArray, List.set_cons_zero, List.set_cons_succ])
              refine wpAnyH_take (i := 19) (oi := ⟨some 50, _, _, _, _, _⟩) (v := ?PGv19) rfl (by kernel_rfl) (by kernel_rfl) (by kernel_rfl) (fun _ _ _ h => h) (Or.inl ⟨by rfl, ?PGhy19⟩) hHeld ?PGr19
              case PGhy19 => (intro w hSw; (try dsimp only at hSw); go_simp; (try with_reducible rfl))
              (try simp only [Act.put, List.setIfInBounds_toArray, List.set_cons_zero, List.set_cons_succ])
              refine wpAnyH_take (i := 20) (oi := ⟨some 51, _, _, _, _, _⟩) (v := ?PGv20) rfl (by kernel_rfl) (by kernel_rfl) (by kernel_rfl) (fun _ _ _ h => h) (Or.inl ⟨by rfl, ?PGhy20⟩) hHeld ?PGr20
              case PGhy20 => (intro w hSw; (try dsimp only at hSw); go_simp; (try with_reducible rfl))
              (try simp only [Act.put, List.setIfInBounds_toArray, List.set_cons_zero, List.set_cons_succ])
              refine wpAnyH_ready (rs := [21]) (by kernel_rfl) (by simp) ?PGc21
              refine AllReadyH.cons (o := ⟨some 52, _, _, _, _, _⟩) rfl (fun K hK => ?PGst21) AllReadyH.nil
              go_simp
              (go_at_call 52; refine (uses_letters x.op _ o0 o1).2.2.1.mono ?_; rintro e w1 ⟨rfl, hb⟩)
              refine hK.out _ _ ?PGk21 (fun hHeld2 => ?PGm21)
              case PGk21 => first | exact s9_next hHeld hb | exact s9_same hHeld | exact s9_start _ _ _ _ hblk
              clear hK K hHeld
              have hHeld := hHeld2; clear hHeld2
              (try simp only [Act.put, List.setIfInBounds_toArray, List.set_cons_zero, List.set_cons_succ])
              refine wpAnyH_ready (rs := [22]) (by kernel_rfl) (by simp) ?PGc22
              refine AllReadyH.cons (o := ⟨some 53, _, _, _, _, _⟩) rfl (fun K hK => ?PGst22) AllReadyH.nil
              go_simp
              (go_at_call 51; refine (register_any _ _ _).mono ?_; rintro e w1 ⟨rfl, rfl⟩; rw [rc])
              refine hK.out _ _ ?PGk22 (fun hHeld2 => ?PGm22)
              case PGk22 => first | exact s9_next hHeld hb | exact s9_same hHeld | exact s9_start _ _ _ _ hblk
              clear hK K hHeld
              have hHeld := hHeld2; clear hHeld2
              (try simp only [Act.put, List.setIfInBounds_toArray, List.set_cons_zero, List.set_cons_succ])
              refine wpAnyH_take (i := 23) (oi := ⟨some 54, _, _, _, _, _⟩) (v := ?PGv23) rfl (by kernel_rfl) (by kernel_rfl) (by kernel_rfl) (fun _ _ _ h => h) (Or.inl ⟨by rfl, ?PGhy23⟩) hHeld ?PGr23
              case PGhy23 => (intro w hSw; (try dsimp only at hSw); go_simp; (try with_reducible rfl))
              (try simp only [Act.put, List.setIfInBounds_toArray, List.set_cons_zero, List.set_cons_succ])
              refine wpAnyH_take (i := 24) (oi := ⟨some 55, _, _, _, _, _⟩) (v := ?PGv24) rfl (by kernel_rfl) (by kernel_rfl) (by kernel_rfl) (fun _ _ _ h => h) (Or.inl ⟨by rfl, ?PGhy24⟩) hHeld ?PGr24
              case PGhy24 => (intro w hSw; (try dsimp only at hSw); go_simp; (try with_reducible rfl))
              (try simp only [Act.put, List.setIfInBounds_toArray, List.set_cons_zero, List.set_cons_succ])
              refine wpAnyH_take (i := 25) (oi := ⟨some 56, _, _, _, _, _⟩) (v := ?PGv25) rfl (by kernel_rfl) (by kernel_rfl) (by kernel_rfl) (fun _ _ _ h => h) (Or.inl ⟨by rfl, ?PGhy25⟩) hHeld ?PGr25
              case PGhy25 => (intro w hSw; (try dsimp only at hSw); go_simp; (try with_reducible rfl))
              (try simp only [Act.put, List.setIfInBounds_toArray, List.set_cons_zero, List.set_cons_succ])
              refine wpAnyH_take (i := 26) (oi := ⟨some 57, _, _, _, _, _⟩) (v := ?PGv26) rfl (by kernel_rfl) (by kernel_rfl) (by kernel_rfl) (fun _ _ _ h => h) (Or.inl ⟨by rfl, ?PGhy26⟩) hHeld ?PGr26
              case PGhy26 => (intro w hSw; (try dsimp only at hSw); go_simp; (try with_reducible rfl))
              (try simp only [Act.put, List.setIfInBounds_toArray, List.set_cons_zero, List.set_cons_succ])
              refine wpAnyH_take (i := 27) (oi := ⟨some 58, _, _, _, _, _⟩) (v := ?PGv27) rfl (by kernel_rfl) (by kernel_rfl) (by kernel_rfl) (fun _ _ _ h => h) (Or.inl ⟨by rfl, ?PGhy27⟩) hHeld ?PGr27
              case PGhy27 => (intro w hSw; (try dsimp only at hSw); go_simp; (try with_reducible rfl))
              (try simp only [Act.put, List.setIfInBounds_toArray, List.set_cons_zero, List.set_cons_succ])
              refine wpAnyH_take (i := 28) (oi := ⟨some 59, _, _, _, _, _⟩) (v := ?PGv28) rfl (by kernel_rfl) (by kernel_rfl) (by kernel_rfl) (fun _ _ _ h => h) (Or.inl ⟨by rfl, ?PGhy28⟩) hHeld ?PGr28
              case PGhy28 => (intro w hSw; (try dsimp only at hSw); go_simp; (try with_reducible rfl))
              (try simp only [Act.put, List.setIfInBounds_toArray, List.set_cons_zero, List.set_cons_succ])
              refine wpAnyH_take (i := 29) (oi := ⟨some 60, _, _, _, _, _⟩) (v := ?PGv29) rfl (by kernel_rfl) (by kernel_rfl) (by kernel_rfl) (fun _ _ _ h => h) (Or.inl ⟨by rfl, ?PGhy29⟩) hHeld ?PGr29
              case PGhy29 => (intro w hSw; (try dsimp only at hSw); go_simp; (try with_reducible rfl))
              (try simp only [Act.put, List.setIfInBounds_toArray, List.set_cons_zero, List.set_cons_succ])
              refine wpAnyH_take (i := 30) (oi := ⟨some 61, _, _, _, _, _⟩) (v := ?PGv30) rfl (by kernel_rfl) (by kernel_rfl) (by kernel_rfl) (fun _ _ _ h => h) (Or.inl ⟨by rfl, ?PGhy30⟩) hHeld ?PGr30
              case PGhy30 => (intro w hSw; (try dsimp only at hSw); go_simp; (try with_reducible rfl))
              (try simp only [Act.put, List.setIfInBounds_toArray, List.set_cons_zero, List.set_cons_succ])
              refine wpAnyH_take (i := 31) (oi := ⟨some 62, _, _, _, _, _⟩) (v := ?PGv31) rfl (by kernel_rfl) (by kernel_rfl) (by kernel_rfl) (fun _ _ _ h => h) (Or.inl ⟨by rfl, ?PGhy31⟩) hHeld ?PGr31
              case PGhy31 => (intro w hSw; (try dsimp only at hSw); go_simp; (try with_reducible rfl))
              (try simp only [Act.put, List.setIfInBounds_toArray, List.set_cons_zero, List.set_cons_succ])
              refine wpAnyH_ready (rs := [32]) (by kernel_rfl) (by simp) ?PGc32
              refine AllReadyH.cons (o := ⟨some 63, _, _, _, _, _⟩) rfl (fun K hK => ?PGst32) AllReadyH.nil
              go_simp
              (go_at_call 52; refine (uses_letters x.op _ o0 o1).2.2.2.1.mono ?_; rintro e w1 ⟨rfl, hb⟩; rw [ui])
              refine hK.out _ _ ?PGk32 (fun hHeld2 => ?PGm32)
              case PGk32 => first | exact s9_next hHeld hb | exact s9_same hHeld | exact s9_start _ _ _ _ hblk
              clear hK K hHeld
              have hHeld := hHeld2; clear hHeld2
              (try simp only [Act.put, List.setIfInBounds_toArray, List.set_cons_zero, List.set_cons_succ])
              refine wpAnyH_take (i := 33) (oi := ⟨some 64, _, _, _, _, _⟩) (v := ?PGv33) rfl (by kernel_rfl) (by kernel_rfl) (by kernel_rfl) (fun _ _ _ h => h) (Or.inl ⟨by rfl, ?PGhy33⟩) hHeld ?PGr33
              case PGhy33 => (intro w hSw; (try dsimp only at hSw); go_simp; (try with_reducible rfl))
              (try simp only [Act.put, List.setIfInBounds_toArray, List.set_cons_zero, List.set_cons_succ])
              refine wpAnyH_take (i := 34) (oi := ⟨some 65, _, _, _, _, _⟩) (v := ?PGv34) rfl (by kernel_rfl) (by kernel_rfl) (by kernel_rfl) (fun _ _ _ h => h) (Or.inl ⟨by rfl, ?PGhy34⟩) hHeld ?PGr34
              case PGhy34 => (intro w hSw; (try dsimp only at hSw); go_simp; (try with_reducible rfl))
              (try simp only [Act.put, List.setIfInBounds_toArray, List.set_cons_zero, List.set_cons_succ])
              refine wpAnyH_take (i := 35) (oi := ⟨some 66, _, _, _, _, _⟩) (v := ?PGv35) rfl (by kernel_rfl) (by kernel_rfl) (by kernel_rfl) (fun _ _ _ h => h) (Or.inl ⟨by rfl, ?PGhy35⟩) hHeld ?PGr35
              case PGhy35 => (intro w hSw; (try dsimp only at hSw); go_simp; (try with_reducible rfl))
              (try simp only [Act.put, List.setIfInBounds_toArray, List.set_cons_zero, List.set_cons_succ])
              refine wpAnyH_take (i := 36) (oi := ⟨some 67, _, _, _, _, _⟩) (v := ?PGv36) rfl (by kernel_rfl) (by kernel_rfl) (by kernel_rfl) (fun _ _ _ h => h) (Or.inl ⟨by rfl, ?PGhy36⟩) hHeld ?PGr36
              case PGhy36 => (intro w hSw; (try dsimp only at hSw); go_simp; (try with_reducible rfl))
              (try simp only [Act.put, List.setIfInBounds_toArray, List.set_cons_zero, List.set_cons_succ])
              refine wpAnyH_take (i := 37) (oi := ⟨some 68, _, _, _, _, _⟩) (v := ?PGv37) rfl (by kernel_rfl) (by kernel_rfl) (by kernel_rfl) (fun _ _ _ h => h) (Or.inl ⟨by rfl, ?PGhy37⟩) hHeld ?PGr37
              case PGhy37 => (intro w hSw; (try dsimp only at hSw); go_simp; (try with_reducible rfl))
              (try simp only [Act.put, List.setIfInBounds_toArray, List.set_cons_zero, List.set_cons_succ])
              refine wpAnyH_ready (rs := [38]) (by kernel_rfl) (by simp) ?PGc38
              refine AllReadyH.cons (o := ⟨some 69, _, _, _, _, _⟩) rfl (fun K hK => ?PGst38) AllReadyH.nil
              go_simp
              (go_at_call 52; refine (uses_letters x.op _ o0 o1).2.2.2.2.mono ?_; rintro e w1 ⟨rfl, hb⟩; rw [ut])
              refine hK.out _ _ ?PGk38 (fun hHeld2 => ?PGm38)
              case PGk38 => first | exact s9_next hHeld hb | exact s9_same hHeld | exact s9_start _ _ _ _ hblk
              clear hK K hHeld
              have hHeld := hHeld2; clear hHeld2
              (try simp only [Act.put, List.setIfInBounds_toArray, List.set_cons_zero, List.set_cons_succ])
              refine wpAnyH_take (i := 39) (oi := ⟨some 70, _, _, _, _, _⟩) (v := ?PGv39) rfl (by kernel_rfl) (by kernel_rfl) (by kernel_rfl) (fun _ _ _ h => h) (Or.inl ⟨by rfl, ?PGhy39⟩) hHeld ?PGr39
              case PGhy39 => (intro w hSw; (try dsimp only at hSw); go_simp; (try with_reducible rfl))
              (try simp only [Act.put, List.setIfInBounds_toArray, List.set_cons_zero, List.set_cons_succ])
              refine wpAnyH_take (i := 40) (oi := ⟨some 71, _, _, _, _, _⟩) (v := ?PGv40) rfl (by kernel_rfl) (by kernel_rfl) (by kernel_rfl) (fun _ _ _ h => h) (Or.inl ⟨by rfl, ?PGhy40⟩) hHeld ?PGr40
              case PGhy40 => (intro w hSw; (try dsimp only at hSw); go_simp; (try with_reducible rfl))
              (try simp only [Act.put, List.setIfInBounds_toArray, List.set_cons_zero, List.set_cons_succ])
              refine wpAnyH_take (i := 41) (oi := ⟨some 72, _, _, _, _, _⟩) (v := ?PGv41) rfl (by kernel_rfl) (by kernel_rfl) (by kernel_rfl) (fun _ _ _ h => h) (Or.inl ⟨by rfl, ?PGhy41⟩) hHeld ?PGr41
              case PGhy41 => (intro w hSw; (try dsimp only at hSw); go_simp; (try with_reducible rfl))
              (try simp only [Act.put, List.setIfInBounds_toArray, List.set_cons_zero, List.set_cons_succ])
              refine wpAnyH_done (by kernel_rfl) ?PGdone _
              go_wp2
              go_meet
              exact ⟨by rw [hbad], hHeld.2.2.2.2.2.1, hHeld.2.2.2.2.2.2⟩
          case rest =>
            obtain ⟨rfl, hB, hbw⟩ := hcut
            have hwc := HBEL.out.trans (hbw.mono HBEL.out.size)
            have HWC := Lib.hid hwc
            have hzc := hwc.size
            rcases Bool.eq_false_or_eq_true (bad9 x) with hbad | hbad
            · rw [hbad]
              have he1 : insErr x n = 70 := insErr_bad HO.out hbad
              have HZ := Lib.hid he1
              clear he1 hwc hbw hB
              go_wp2
              go_ret
              exact ⟨ret_int (by rw [HE.out, ← HNN.out, firstErr_at HALL.out HX.out (by rw [HZ.out]; decide)]; exact HZ.out.symm), HWC.out⟩
            · rw [hbad]
              have he1 : insErr x n = if uses x.op 116 = true ∧ (x.imm < 0 ∨ n ≤ x.imm) then 71 else 0 := insErr_good HO.out hbad
              have HZ1 := Lib.hid he1
              have y0 : wc.cell? ⟨q, 0, none⟩ = some (.int .i64 x.op) := blk_cell hB 0
              have y1 : wc.cell? ⟨q, 1, none⟩ = some (.int .i64 x.a) := blk_cell hB 1
              have y2 : wc.cell? ⟨q, 2, none⟩ = some (.int .i64 x.b) := blk_cell hB 2
              have y3 : wc.cell? ⟨q, 3, none⟩ = some (.int .i64 x.c) := blk_cell hB 3
              have y4 : wc.cell? ⟨q, 4, none⟩ = some (.int .i32 x.imm) := blk_cell hB 4
              have hqz := blk_lt hB
              have HBB := Lib.hid hB
              clear he1 hwc hbw hB
              rcases Bool.eq_false_or_eq_true (uses x.op 116) with ut | ut
              · by_cases h3 : x.imm < 0 ∨ n ≤ x.imm
                · have HZ : Hid (insErr x n = 71) := by
                    have := HZ1.out
                    rw [if_pos ⟨ut, h3⟩] at this; exact this
                  by_cases h4 : x.imm < 0
                  · clear h3
                    go_wp2_with fail
                    refine (Jumps_any x _ o0 o1).mono ?_
                    rintro e w2 ⟨rfl, hb2⟩
                    have y5 : w2.cell? ⟨q, 4, none⟩ = some (.int .i32 x.imm) := (hb2.cell (by exact hqz)).trans y4
                    have HB2 := Lib.hid (HWC.out.trans (hb2.mono hzc))
                    clear hb2 y0 y1 y2 y3 y4
                    go_wp2
                    go_ret
                    exact ⟨ret_int (by rw [HE.out, ← HNN.out, firstErr_at HALL.out HX.out (by rw [HZ.out]; decide)]; exact HZ.out.symm), HB2.out⟩
                  · have h5 : n ≤ x.imm := by omega
                    have h6 : 0 ≤ x.imm := by omega
                    clear h3 h4
                    go_wp2_with fail
                    refine (Jumps_any x _ o0 o1).mono ?_
                    rintro e w2 ⟨rfl, hb2⟩
                    have y5 : w2.cell? ⟨q, 4, none⟩ = some (.int .i32 x.imm) := (hb2.cell (by exact hqz)).trans y4
                    have HB2 := Lib.hid (HWC.out.trans (hb2.mono hzc))
                    clear hb2 y0 y1 y2 y3 y4
                    go_wp2
                    go_ret
                    exact ⟨ret_int (by rw [HE.out, ← HNN.out, firstErr_at HALL.out HX.out (by rw [HZ.out]; decide)]; exact HZ.out.symm), HB2.out⟩
                · have HZ : Hid (insErr x n = 0) := by
                    have := HZ1.out
                    rw [if_neg (fun h => h3 h.2)] at this; exact this
                  have h5 : x.imm < n := by omega
                  have h6 : 0 ≤ x.imm := by omega
                  clear h3
                  go_wp2_with fail
                  refine (Jumps_any x _ o0 o1).mono ?_
                  rintro e w2 ⟨rfl, hb2⟩
                  have y5 : w2.cell? ⟨q, 4, none⟩ = some (.int .i32 x.imm) := (hb2.cell (by exact hqz)).trans y4
                  have HB2 := Lib.hid (HWC.out.trans (hb2.mono hzc))
                  clear hb2 y0 y1 y2 y3 y4
                  go_wp2
                  go_roundw
                  case rel =>
                    refine ⟨k + 1, by omega, by go_num, ?_, HB2.out⟩
                    intro y hy
                    rw [List.take_add_one, HX.out] at hy
                    simp only [Option.toList_some, List.mem_append, List.mem_singleton] at hy
                    rcases hy with hy | rfl
                    · exact HALL.out y hy
                    · exact HZ.out
                  case measure => simp [intOf]; omega
              · have HZ : Hid (insErr x n = 0) := by
                  have := HZ1.out
                  rw [if_neg (fun h => by rw [ut] at h; exact absurd h.1 (by decide))] at this; exact this
                go_wp2_with fail
                refine (Jumps_any x _ o0 o1).mono ?_
                rintro e w2 ⟨rfl, hb2⟩
                have HB2 := Lib.hid (HWC.out.trans (hb2.mono hzc))
                clear hb2 y0 y1 y2 y3 y4
                go_wp2
                go_roundw
                case rel =>
                  refine ⟨k + 1, by omega, by go_num, ?_, HB2.out⟩
                  intro y hy
                  rw [List.take_add_one, HX.out] at hy
                  simp only [Option.toList_some, List.mem_append, List.mem_singleton] at hy
                  rcases hy with hy | rfl
                  · exact HALL.out y hy
                  · exact HZ.out
                case measure => simp [intOf]; omega
      · clear hall hb
        go_wp2
        go_ret
        refine ⟨ret_int ?_, HB.out⟩
        rw [HE.out, firstErr_zero (fun y hy => ?_)]
        have := HALL.out y (by rw [List.take_of_length_le (by rw [← HN.out]; omega)]; exact hy)
        rw [← HN.out]; exact this
end Go.Proofs.YtemigcdieghkfaaDoor
