/- slices.Sorted of slices.Values of a list of ints (slices.Sort laid by the shelf's tool, in plain words); Members. -/
import Derived.Shelf.SortM.Plain
import Derived.Ground.SlgmProg
import Derived.Shelf.SlIterI.Sorted
import Derived.Test.YtlhmeeidlhpodaaGreatPkJoinA
import Derived.Test.YtlhmeeidlhpodaaGreatPkClC
set_option linter.unusedVariables false
set_option linter.unusedSimpArgs false
set_option linter.unusedSectionVars false
namespace Go.Proofs.YtlhmeeidlhpodaaGreat
open Go.RowKit Go.BigFrame Go.Maps Go.Sort Go.Shelf

def sortA_ren : Go.Shelf.Ren := ⟨fun | 5 => 43 | 8 => 63 | 7 => 62 | 19 => 97 | 20 => 98 | 10 => 88 | 11 => 89 | 12 => 90 | 13 => 91 | 14 => 92 | 15 => 93 | 16 => 94 | 17 => 95 | 18 => 96 | 30 => 153 | 31 => 154 | 32 => 155 | 33 => 156 | 34 => 157 | 35 => 158 | 40 => 253 | n => n, fun | 23 => 22 | 25 => 3 | 3 => 3 | 32 => 98 | 22 => 22 | 0 => 0 | 44 => 196 | 46 => 198 | 4 => 4 | 36 => 190 | 35 => 189 | 41 => 160 | 5 => 5 | 9 => 9 | 53 => 253 | 57 => 257 | 63 => 341 | 64 => 342 | n => n, fun | n => n⟩
theorem sortA : Go.Proofs.SlLaysM.n5 Tryz.prog sortA_ren := {
  mixed := by kernel_rfl
  f5 := ⟨Tryz.f43.name, by decide, Tryz.func43.trans (congrArg some (by kernel_rfl))⟩
  f7 := ⟨Tryz.f62.name, by decide, Tryz.func62.trans (congrArg some (by kernel_rfl))⟩
  f8 := Tryz.func63.trans (congrArg some (by kernel_rfl))
  f10 := ⟨Tryz.f88.name, by decide, Tryz.func88.trans (congrArg some (by kernel_rfl))⟩
  f11 := ⟨Tryz.f89.name, by decide, Tryz.func89.trans (congrArg some (by kernel_rfl))⟩
  f12 := ⟨Tryz.f90.name, by decide, Tryz.func90.trans (congrArg some (by kernel_rfl))⟩
  f13 := ⟨Tryz.f91.name, by decide, Tryz.func91.trans (congrArg some (by kernel_rfl))⟩
  f14 := ⟨Tryz.f92.name, by decide, Tryz.func92.trans (congrArg some (by kernel_rfl))⟩
  f15 := ⟨Tryz.f93.name, by decide, Tryz.func93.trans (congrArg some (by kernel_rfl))⟩
  f16 := ⟨Tryz.f94.name, by decide, Tryz.func94.trans (congrArg some (by kernel_rfl))⟩
  f17 := ⟨Tryz.f95.name, by decide, Tryz.func95.trans (congrArg some (by kernel_rfl))⟩
  f18 := ⟨Tryz.f96.name, by decide, Tryz.func96.trans (congrArg some (by kernel_rfl))⟩
  f19 := Tryz.func97.trans (congrArg some (by kernel_rfl))
  f20 := Tryz.func98.trans (congrArg some (by kernel_rfl))
  f30 := ⟨Tryz.f153.name, by decide, Tryz.func153.trans (congrArg some (by kernel_rfl))⟩
  f31 := Tryz.func154.trans (congrArg some (by kernel_rfl))
  f32 := Tryz.func155.trans (congrArg some (by kernel_rfl))
  f33 := ⟨Tryz.f156.name, by decide, Tryz.func156.trans (congrArg some (by kernel_rfl))⟩
  f34 := ⟨Tryz.f157.name, by decide, Tryz.func157.trans (congrArg some (by kernel_rfl))⟩
  f35 := ⟨Tryz.f158.name, by decide, Tryz.func158.trans (congrArg some (by kernel_rfl))⟩
  f40 := ⟨Tryz.f253.name, by decide, Tryz.func253.trans (congrArg some (by kernel_rfl))⟩
  t0 := Tryz.underlying0
  a0 := Tryz.isAgg0
  z0 := Tryz.sizeOf0
  v0 := Tryz.zeroValue0
  t3 := Tryz.underlying3
  a3 := Tryz.isAgg3
  z3 := Tryz.sizeOf3
  v3 := Tryz.zeroValue3
  t4 := Tryz.underlying4
  a4 := Tryz.isAgg4
  z4 := Tryz.sizeOf4
  v4 := Tryz.zeroValue4
  t5 := Tryz.underlying5
  a5 := Tryz.isAgg5
  z5 := Tryz.sizeOf5
  v5 := Tryz.zeroValue5
  t9 := Tryz.underlying9
  a9 := Tryz.isAgg9
  z9 := Tryz.sizeOf9
  v9 := Tryz.zeroValue9
  t22 := Tryz.underlying22
  a22 := Tryz.isAgg22
  z22 := Tryz.sizeOf22
  v22 := Tryz.zeroValue22
  t23 := Tryz.underlying22
  a23 := Tryz.isAgg22
  z23 := Tryz.sizeOf22
  v23 := Tryz.zeroValue22
  t25 := Tryz.underlying3
  a25 := Tryz.isAgg3
  z25 := Tryz.sizeOf3
  v25 := Tryz.zeroValue3
  t32 := Tryz.underlying98
  a32 := Tryz.isAgg98
  z32 := Tryz.sizeOf98
  v32 := Tryz.zeroValue98
  t35 := Tryz.underlying189
  a35 := Tryz.isAgg189
  z35 := Tryz.sizeOf189
  v35 := Tryz.zeroValue189
  t36 := Tryz.underlying190
  a36 := Tryz.isAgg190
  z36 := Tryz.sizeOf190
  v36 := Tryz.zeroValue190
  t41 := Tryz.underlying160
  a41 := Tryz.isAgg160
  z41 := Tryz.sizeOf160
  v41 := Tryz.zeroValue160
  t44 := Tryz.underlying196
  a44 := Tryz.isAgg196
  z44 := Tryz.sizeOf196
  v44 := Tryz.zeroValue196
  t46 := Tryz.underlying198
  a46 := Tryz.isAgg198
  z46 := Tryz.sizeOf198
  v46 := Tryz.zeroValue198
  t53 := Tryz.underlying253
  a53 := Tryz.isAgg253
  z53 := Tryz.sizeOf253
  v53 := Tryz.zeroValue253
  t57 := Tryz.underlying257
  a57 := Tryz.isAgg257
  z57 := Tryz.sizeOf257
  v57 := Tryz.zeroValue257
  t63 := Tryz.underlying341
  a63 := Tryz.isAgg341
  z63 := Tryz.sizeOf341
  v63 := Tryz.zeroValue341
  t64 := Tryz.underlying342
  a64 := Tryz.isAgg342
  z64 := Tryz.sizeOf342
  v64 := Tryz.zeroValue342 }

/-- What is asked of a list's values, sorted. -/
def SortsTo (w : World) (v : Value) (srt : List Int) : Prop := ∀ w1, Below w.heap.size w w1 → Calls Tryz.prog 24 #[v] w1 fun e w2 => ∃ fv, e = .returned fv ∧ Below w1.heap.size w1 w2 ∧ Calls Tryz.prog 23 #[fv] w2 fun e w3 => ∃ s, e = .returned s ∧ Row w3 s 1 (intRows srt) ∧ Below w2.heap.size w2 w3
def sortL (zs : List Int) : List Int := zs.mergeSort fun x y => decide (x ≤ y)
theorem flatI (l : List Int) : (intRows l).flatten = l.map fun z => Value.int .i64 z := by
  induction l with
  | nil => rfl
  | cons z l ih => show Value.int .i64 z :: (intRows l).flatten = _; rw [ih]; rfl
set_option maxRecDepth 100000 in
theorem sortsTo_list {w : World} {v : Value} {zs : List Int} (h : Row w v 1 (intRows zs)) (hl : zs.length ≤ 1000000) (hpos : 0 < zs.length) : SortsTo w v (sortL zs) := by
  intro w1 hb0
  obtain ⟨a, c, rfl, _⟩ := ints_form h
  have hnew : (w1.alloc (.cells #[.slice a zs.length c] 22)).cell? ⟨w1.heap.size, 0, none⟩ = some (.slice a zs.length c) := (cell_of_box_a (World.alloc_heap_new w1 _)).1
  go_enter Tryz.func24, Tryz.ntmps24
  go_wp2
  go_ret
  refine ⟨.func (.func 44) #[] #[.pointer (some ⟨w1.heap.size, 0, none⟩)], rfl, (RowKit.Below.refl _ w1).alloc (Nat.le_refl _) _, ?_⟩
  have hbW : RowKit.Below w.heap.size w (w1.alloc (.cells #[.slice a zs.length c] 22)) := hb0.alloc hb0.size _
  obtain ⟨W, hW⟩ : ∃ W, W = w1.alloc (.cells #[.slice a zs.length c] 22) := ⟨_, rfl⟩
  rw [← hW] at hnew hbW ⊢
  have hlt : w1.heap.size < W.heap.size := by rw [hW]; simp
  have cC := callsIn_wide.1 (collect_values 5 (by omega) w1.heap.size (.slice a zs.length c) zs hl w W h hbW hlt hnew)
  clear hnew hlt hW hbW h
  go_enter Tryz.func23, Tryz.ntmps23
  go_upto_region 2 with (go_at_call 42; refine cC.mono ?_; rintro e wx ⟨u, rfl, hrow, hnil, hb⟩)
  (try go_frame)
  rcases hrow.2 with ⟨rfl, hz⟩ | ⟨gb, cap, cur, rfl, hbase, hgb, r1, r2, r3, r4⟩
  · omega
  · have hH : Holds encZ wx gb 0 zs.toArray := holds_of_block_i hgb (by simpa using r4)
    have hgl : gb < wx.heap.size := (Array.getElem?_eq_some_iff.1 hgb).1
    have cS := AnyM.slices_Sort_int sortA gb 0 cap zs wx hH hgl (by omega)
    change Calls _ 43 _ _ _ at cS
    obtain ⟨n, hn⟩ : ∃ n, n = zs.length := ⟨_, rfl⟩
    have HN := Lib.hid hn
    rw [← hn] at cS ⊢
    clear hn
    go_wp2_with (go_at_call 43; refine cS.mono ?_; rintro e w' ⟨rfl, nn, os, rfl⟩)
    go_ret
    refine ⟨_, rfl, ?_, hb.grown (grownBy_sorted_i _) hb.size (fun j hj => by cases hj; exact hbase)⟩
    have hso := ownsRow_sorted_i (n := nn) (os := os) (ss := zs) (ts := zs.mergeSort fun x y => decide (x ≤ y)) (List.length_mergeSort zs) hbase hgb r1 r2 r3
    show Row _ (.slice (some ⟨gb, 0, none⟩) n cap) 1 (intRows (sortL zs))
    refine Row.of_own (base := W.heap.size) (e := 3) (n := n) (intRows_len _) (by rw [HN.out, List.length_map]; exact (List.length_mergeSort zs).symm) ?_
    rw [flatI, HN.out]
    exact hso
set_option maxRecDepth 100000 in
theorem Members_any {w : World} {gc n sm gr gd gm : Nat} {ak : Option Addr} {ck : Nat} {mv : Value} (h : CluRd w gc n sm gr gd gm ak ck mv) (h1 : 0 < sm) (h2 : sm ≤ 32) : Calls Tryz.prog 7 #[.pointer (some ⟨gc, 0, none⟩)] w fun e w' => ∃ a c, e = .returned (.slice a sm c) ∧ Below w.heap.size w w' := by
  have hs := sortsTo_list h.rm (by rw [upto_len]; omega) (by rw [upto_len]; exact h1)
  have HS := Lib.hid (hs w (RowKit.Below.refl _ w))
  have hc := h.cv
  obtain ⟨xa, xc, rfl, _⟩ := ints_form h.rm
  clear h hs
  go_enter Tryz.func7, Tryz.ntmps7
  go_wp2_with (first | (go_at_call 24; refine HS.out.mono ?_; rintro e wx ⟨fv, rfl, hb1, hsr⟩; have HB1 := Lib.hid hb1; have HSR := Lib.hid hsr; clear hb1 hsr) | (go_at_call 23; refine HSR.out.mono ?_; rintro e wx ⟨s, rfl, hrow, hb2⟩; have HR := Lib.hid hrow; have HB2 := Lib.hid hb2; clear hrow hb2))
  go_ret
  have hrow := HR.out
  obtain ⟨a, c, rfl, _⟩ := ints_form hrow
  have hl : (sortL (upto sm)).length = sm := by unfold sortL; rw [List.length_mergeSort, upto_len]
  exact ⟨a, c, by rw [hl]; rfl, ((Kn.start w).below HB1.out).below HB2.out |>.toBelow⟩
end Go.Proofs.YtlhmeeidlhpodaaGreat
