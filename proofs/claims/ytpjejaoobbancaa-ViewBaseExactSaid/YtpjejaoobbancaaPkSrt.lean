/- slices.Sorted of slices.Values of a list of ints (slices.Sort laid by the shelf's tool, in plain words). -/
import Derived.Shelf.SortM.Plain
import Derived.Shelf.SortM.SortNone
import Derived.Ground.SlgmProg
import Derived.Shelf.SlIterI.Sorted
import Derived.Test.YtpjejaoobbancaaPkSeqV
set_option linter.unusedVariables false
set_option linter.unusedSimpArgs false
set_option linter.unusedSectionVars false
namespace Go.Proofs.Ytpjejaoobbancaa
open Go.RowKit Go.BigFrame Go.Maps Go.Sort Go.Shelf

def sortA_ren : Go.Shelf.Ren := ⟨fun | 5 => 58 | 8 => 74 | 7 => 73 | 19 => 90 | 20 => 91 | 10 => 82 | 11 => 83 | 12 => 84 | 13 => 85 | 14 => 86 | 15 => 87 | 16 => 67 | 17 => 88 | 18 => 89 | 30 => 95 | 31 => 96 | 32 => 97 | 33 => 98 | 34 => 99 | 35 => 80 | 40 => 100 | n => n, fun | 23 => 22 | 25 => 3 | 3 => 3 | 32 => 122 | 22 => 22 | 0 => 0 | 44 => 141 | 46 => 143 | 4 => 4 | 36 => 135 | 35 => 134 | 41 => 27 | 5 => 5 | 9 => 9 | 53 => 146 | 57 => 150 | 63 => 152 | 64 => 153 | n => n, fun | n => n⟩
theorem sortA : Go.Proofs.SlLaysM.n5 Try.prog sortA_ren := {
  mixed := by kernel_rfl
  f5 := ⟨Try.f58.name, by decide, Try.func58.trans (congrArg some (by kernel_rfl))⟩
  f7 := ⟨Try.f73.name, by decide, Try.func73.trans (congrArg some (by kernel_rfl))⟩
  f8 := Try.func74.trans (congrArg some (by kernel_rfl))
  f10 := ⟨Try.f82.name, by decide, Try.func82.trans (congrArg some (by kernel_rfl))⟩
  f11 := ⟨Try.f83.name, by decide, Try.func83.trans (congrArg some (by kernel_rfl))⟩
  f12 := ⟨Try.f84.name, by decide, Try.func84.trans (congrArg some (by kernel_rfl))⟩
  f13 := ⟨Try.f85.name, by decide, Try.func85.trans (congrArg some (by kernel_rfl))⟩
  f14 := ⟨Try.f86.name, by decide, Try.func86.trans (congrArg some (by kernel_rfl))⟩
  f15 := ⟨Try.f87.name, by decide, Try.func87.trans (congrArg some (by kernel_rfl))⟩
  f16 := ⟨Try.f67.name, by decide, Try.func67.trans (congrArg some (by kernel_rfl))⟩
  f17 := ⟨Try.f88.name, by decide, Try.func88.trans (congrArg some (by kernel_rfl))⟩
  f18 := ⟨Try.f89.name, by decide, Try.func89.trans (congrArg some (by kernel_rfl))⟩
  f19 := Try.func90.trans (congrArg some (by kernel_rfl))
  f20 := Try.func91.trans (congrArg some (by kernel_rfl))
  f30 := ⟨Try.f95.name, by decide, Try.func95.trans (congrArg some (by kernel_rfl))⟩
  f31 := Try.func96.trans (congrArg some (by kernel_rfl))
  f32 := Try.func97.trans (congrArg some (by kernel_rfl))
  f33 := ⟨Try.f98.name, by decide, Try.func98.trans (congrArg some (by kernel_rfl))⟩
  f34 := ⟨Try.f99.name, by decide, Try.func99.trans (congrArg some (by kernel_rfl))⟩
  f35 := ⟨Try.f80.name, by decide, Try.func80.trans (congrArg some (by kernel_rfl))⟩
  f40 := ⟨Try.f100.name, by decide, Try.func100.trans (congrArg some (by kernel_rfl))⟩
  t0 := Try.underlying0
  a0 := Try.isAgg0
  z0 := Try.sizeOf0
  v0 := Try.zeroValue0
  t3 := Try.underlying3
  a3 := Try.isAgg3
  z3 := Try.sizeOf3
  v3 := Try.zeroValue3
  t4 := Try.underlying4
  a4 := Try.isAgg4
  z4 := Try.sizeOf4
  v4 := Try.zeroValue4
  t5 := Try.underlying5
  a5 := Try.isAgg5
  z5 := Try.sizeOf5
  v5 := Try.zeroValue5
  t9 := Try.underlying9
  a9 := Try.isAgg9
  z9 := Try.sizeOf9
  v9 := Try.zeroValue9
  t22 := Try.underlying22
  a22 := Try.isAgg22
  z22 := Try.sizeOf22
  v22 := Try.zeroValue22
  t23 := Try.underlying22
  a23 := Try.isAgg22
  z23 := Try.sizeOf22
  v23 := Try.zeroValue22
  t25 := Try.underlying3
  a25 := Try.isAgg3
  z25 := Try.sizeOf3
  v25 := Try.zeroValue3
  t32 := Try.underlying122
  a32 := Try.isAgg122
  z32 := Try.sizeOf122
  v32 := Try.zeroValue122
  t35 := Try.underlying134
  a35 := Try.isAgg134
  z35 := Try.sizeOf134
  v35 := Try.zeroValue134
  t36 := Try.underlying135
  a36 := Try.isAgg135
  z36 := Try.sizeOf135
  v36 := Try.zeroValue135
  t41 := Try.underlying27
  a41 := Try.isAgg27
  z41 := Try.sizeOf27
  v41 := Try.zeroValue27
  t44 := Try.underlying141
  a44 := Try.isAgg141
  z44 := Try.sizeOf141
  v44 := Try.zeroValue141
  t46 := Try.underlying143
  a46 := Try.isAgg143
  z46 := Try.sizeOf143
  v46 := Try.zeroValue143
  t53 := Try.underlying146
  a53 := Try.isAgg146
  z53 := Try.sizeOf146
  v53 := Try.zeroValue146
  t57 := Try.underlying150
  a57 := Try.isAgg150
  z57 := Try.sizeOf150
  v57 := Try.zeroValue150
  t63 := Try.underlying152
  a63 := Try.isAgg152
  z63 := Try.sizeOf152
  v63 := Try.zeroValue152
  t64 := Try.underlying153
  a64 := Try.isAgg153
  z64 := Try.sizeOf153
  v64 := Try.zeroValue153 }

def sortL (zs : List Int) : List Int := zs.mergeSort fun x y => decide (x ≤ y)
theorem flatI (l : List Int) : (intRows l).flatten = l.map fun z => Value.int .i64 z := by
  induction l with
  | nil => rfl
  | cons z l ih => show Value.int .i64 z :: (intRows l).flatten = _; rw [ih]; rfl
set_option maxRecDepth 100000 in
theorem sortsTo_list {w : World} {v : Value} {zs : List Int} (h : Row w v 1 (intRows zs)) (hl : zs.length ≤ 1000000) : SortsTo w v (sortL zs) := by
  intro w1 hb0
  obtain ⟨a, c, rfl, _⟩ := ints_form h
  have hnew : (w1.alloc (.cells #[.slice a zs.length c] 22)).cell? ⟨w1.heap.size, 0, none⟩ = some (.slice a zs.length c) := (cell_of_box_a (World.alloc_heap_new w1 _)).1
  go_enter Try.func33, Try.ntmps33
  go_wp2
  go_ret
  refine ⟨.func (.func 59) #[] #[.pointer (some ⟨w1.heap.size, 0, none⟩)], rfl, (RowKit.Below.refl _ w1).alloc (Nat.le_refl _) _, ?_⟩
  have hbW : RowKit.Below w.heap.size w (w1.alloc (.cells #[.slice a zs.length c] 22)) := hb0.alloc hb0.size _
  obtain ⟨W, hW⟩ : ∃ W, W = w1.alloc (.cells #[.slice a zs.length c] 22) := ⟨_, rfl⟩
  rw [← hW] at hnew hbW ⊢
  have hlt : w1.heap.size < W.heap.size := by rw [hW]; simp
  have cC := callsIn_wide.1 (collect_values 5 (by omega) w1.heap.size (.slice a zs.length c) zs hl w W h hbW hlt hnew)
  clear hnew hlt hW hbW h
  go_enter Try.func32, Try.ntmps32
  go_upto_region 2 with (go_at_call 57; refine cC.mono ?_; rintro e wx ⟨u, rfl, hrow, hnil, hb⟩)
  (try go_frame)
  rcases hrow.2 with ⟨rfl, hz⟩ | ⟨gb, cap, cur, rfl, hbase, hgb, r1, r2, r3, r4⟩
  · have hzs : zs = [] := List.eq_nil_of_length_eq_zero hz
    subst hzs
    go_wp2_with (go_at_call 58; refine (sort_nil _).mono ?_; rintro e wx ⟨rfl, rfl⟩)
    go_ret
    exact ⟨_, rfl, ⟨by simp [sortL], .inl ⟨by simp [sortL], _, _, rfl⟩⟩, hb⟩
  · have hH : Holds encZ wx gb 0 zs.toArray := holds_of_block_i hgb (by simpa using r4)
    have hgl : gb < wx.heap.size := (Array.getElem?_eq_some_iff.1 hgb).1
    have cS := AnyM.slices_Sort_int sortA gb 0 cap zs wx hH hgl (by omega)
    change Calls _ 58 _ _ _ at cS
    obtain ⟨n, hn⟩ : ∃ n, n = zs.length := ⟨_, rfl⟩
    have HN := Lib.hid hn
    rw [← hn] at cS ⊢
    clear hn
    go_wp2_with (go_at_call 58; refine cS.mono ?_; rintro e w' ⟨rfl, nn, os, rfl⟩)
    go_ret
    refine ⟨_, rfl, ?_, hb.grown (grownBy_sorted_i _) hb.size (fun j hj => by cases hj; exact hbase)⟩
    have hso := ownsRow_sorted_i (n := nn) (os := os) (ss := zs) (ts := zs.mergeSort fun x y => decide (x ≤ y)) (List.length_mergeSort zs) hbase hgb r1 r2 r3
    show Row _ (.slice (some ⟨gb, 0, none⟩) n cap) 1 (intRows (sortL zs))
    refine Row.of_own (base := W.heap.size) (e := 3) (n := n) (intRows_len _) (by rw [HN.out, List.length_map]; exact (List.length_mergeSort zs).symm) ?_
    rw [flatI, HN.out]
    exact hso
end Go.Proofs.Ytpjejaoobbancaa
