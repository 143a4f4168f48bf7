/- Merged: BldK, BldS. -/
import Derived.Test.YtgeeklgojjcdmaaDoorPkBuilder
import Derived.Test.YtgeeklgojjcdmaaDoorPkKnAll
import Derived.Deep.Cut
import Derived.Lib.Hide
import Derived.BigQuiet
import Derived.Test.YtgeeklgojjcdmaaDoorPkNumText
import Derived.Test.YtgeeklgojjcdmaaDoorPkLexP
set_option linter.unusedVariables false
set_option linter.unusedSimpArgs false
set_option linter.unusedSectionVars false
namespace Go.Proofs.YtgeeklgojjcdmaaDoor
section
open Go Go.RowKit Go.BigFrame

section
variable {P : Program} {e t u ty : TypeId} {i : TypeInfo} {w : World} {v v' : Value} {w' : World} {n base : Nat} {xs : List Value}
/-- Where the bytes lie when a string has been appended: where they lay, or in a new block. -/
theorem append_str_block (ht : P.underlying t = some (.slice e)) (hu : P.underlying u = some .string) (hi : P.info? e = some i) (hz : i.zero = some (.int .u8 0)) (hsize : i.size = 1) (hby : i.bytes = 1)
    (hown : w.ownsRow base e 1 v n xs) (s : ByteArray) (h63 : n + s.size ≤ maxLen) (hbytes : n + s.size ≤ 140737488355328) (hr : (Builtin.append_ #[t, u] ty #[v, .string s]).run P w = .ok v' w') (h0 : v' = .slice none 0 0 ↔ v = .slice none 0 0 ∧ s.size = 0) :
    v'.ownBlock = v.ownBlock ∨ v'.ownBlock = some w.heap.size := by
  have hsmall : n + s.size ≤ 9223372036854775807 := by simp only [maxLen] at h63; omega
  rcases hown.2 with ⟨rfl, rfl⟩ | ⟨g, cap, cur, rfl, _, hg, hnc, hcm, hcs, _⟩
  · by_cases hm : s.size = 0
    · rw [h0.2 ⟨rfl, hm⟩]; exact .inl rfl
    · have hq := run_append_nil_string (P := P) w t u ty e i (.int .u8 0) ht hu hi hz s (by omega) (by omega) (by rw [hby]; omega)
      rw [hq] at hr
      injection hr with h1 _
      exact .inr (by rw [← h1]; rfl)
  · by_cases hroom : n + s.size ≤ cap
    · have hq := Lib.run_append_room_string (P := P) w t u ty e i ht hu hi hsize g n cap cur hg s hroom (by omega)
      rw [hq] at hr
      injection hr with h1 _
      exact .inl (by rw [← h1]; rfl)
    · have hxl : xs.length = n := by simpa using hown.1
      have holds : ∀ j u, xs[j]? = some u → w.cell? ((⟨g, 0, none⟩ : Addr).add j) = some u := hown.cells (g := g) rfl
      have hq := Lib.run_append_grow_string (P := P) w t u ty e i (.int .u8 0) ht hu hi hz ⟨g, 0, none⟩ n cap xs (by rw [hsize]; simpa using hxl) holds s (by omega) (by omega) (by rw [hby]; exact growslice_fits (by omega) (by omega))
      rw [hq] at hr
      injection hr with h1 _
      exact .inr (by rw [← h1]; rfl)
end
theorem flat1 (l : List Value) : (l.map fun c => [c]).flatten = l := by
  induction l with
  | nil => rfl
  | cons x xs ih => simp [ih]
section
variable {P : Program} {ops : Array Oper} {rest : List Oper} {op : Oper} {a : Act} {w W : World} {Q : Exit → Act → World → Prop} {M : List Nat} {l : Ents} {f : Ents → Ents} {ol : Ents} {e : TypeId} {v : Value} {L : List (List Value)}
/-- append(s, text...). -/
theorem wpList_kn_appendS (KN : Kn M W w l) (OW : OwnT e 1 v L ol) (hgd : op.guard = none) (sl x : Operand) (t u : TypeId) (ho : op.op = .call { callee := .builtin .append, args := #[sl, x], argTypes := #[t, u] })
    (ht : P.underlying t = some (.slice e)) (hu : P.underlying u = some .string) (hinfo : (P.info? e).map (fun i => (i.zero, i.size, i.bytes)) = some (some (.int .u8 0), 1, 1)) (hs : a.eval sl = v) (s : ByteArray) (hx : a.eval x = .string s)
    (h63 : L.length + s.size ≤ maxLen) (hbytes : L.length + s.size ≤ 140737488355328) (hf : TailF f) (hl : f ol = l)
    (h : ∀ v' w' ol', OwnT e 1 v' (L ++ (Lib.strCells s).map fun c => [c]) ol' → Kn M W w' (f ol') → wpList P ops Q rest (a.put op.dst v') w') : wpList P ops Q (op :: rest) a w := by
  subst hl
  obtain ⟨i, hi, hz0, hz1, hz2⟩ := info_parts hinfo
  have hrow := OW.owns KN hf
  obtain ⟨v', w', hrun, h2, h3, h4⟩ := Lib.run_append_own_string (P := P) w 0 t u op.type e i ht hu hi hz0 hz1 hz2 v L.length L.flatten hrow s h63 hbytes (Nat.zero_le _)
  have h5 := append_str_block ht hu hi hz0 hz1 hz2 hrow s h63 hbytes hrun h4
  have hfl : L.flatten ++ Lib.strCells s = (L ++ (Lib.strCells s).map fun c => [c]).flatten := by rw [List.flatten_append, flat1]
  rw [hfl] at h2
  obtain ⟨ol', OW', hk⟩ := OwnT.of_owns (n := L.length + s.size) (fun c' hc' => by
    rcases List.mem_append.1 hc' with h | h
    · exact OW.len c' h
    · obtain ⟨x, _, rfl⟩ := List.mem_map.1 h; rfl) (by rw [List.length_append, List.length_map, Lib.strCells_length]) h2
  refine wpList_plain hgd fun K hK => ?_
  unfold Oper.wp execOp
  simp only [ho, resolve, invoke, builtin, Sem.run_bind, Sem.run_pure, Result.andThen_ok, List.map_toArray, List.map_cons, List.map_nil, hs, hx, hrun]
  refine hK _ _ (h v' w' ol' OW' (KN.grown hf OW' h3 OW.block fun g Φ hg => ?_))
  obtain ⟨k1, k2⟩ := hk g Φ hg
  refine ⟨k1, ?_⟩
  rcases h5 with h5 | h5
  · exact .inl (h5 ▸ k2)
  · rw [h5] at k2; exact .inr (by simpa using k2.symm)
end

theorem copyCheck_kn {M : List Nat} {W w : World} {l : Ents} {b : Nat} {p v : Value} (KN : Kn M W w ((b, At #[p, v] 66) :: l)) (hp : p = .pointer none ∨ p = (.pointer (some ⟨b, 0, none⟩))) :
    Calls Tryd.prog 47 #[.pointer (some ⟨b, 0, none⟩)] w fun e w' => e = .returned (.tuple #[]) ∧ Kn M W w' ((b, At #[(.pointer (some ⟨b, 0, none⟩)), v] 66) :: l) := by
  have hb := KN.at_ .here
  have hb' : w.heap[b]? = some (.cells #[p, v] 66 (0, 0)) := hb
  rcases hp with rfl | rfl
  · refine (copyCheck_fresh b w ?_ ?_ ?_).mono ?_
    · simp [World.cell?, hb']
    · simp [World.shape?, hb']
    · simp [World.frozen?, hb']
    · rintro e w' ⟨rfl, rfl⟩
      refine ⟨rfl, ?_⟩
      have := KN.setCells (g := b) 0 [(.pointer (some ⟨b, 0, none⟩))] (l' := (b, At #[(.pointer (some ⟨b, 0, none⟩)), v] 66) :: l) Repl.here
      exact this
  · refine (copyCheck_used b w ?_).mono ?_
    · simp [World.cell?, hb']
    · rintro e w' ⟨rfl, rfl⟩
      exact ⟨rfl, KN⟩
set_option maxRecDepth 100000 in
set_option maxHeartbeats 4000000 in
theorem WriteString_kn {M : List Nat} {W w : World} {f : Ents → Ents} {ol : Ents} {L : List (List Value)} {b : Nat} {p v : Value} (s : ByteArray) (KN : Kn M W w ((b, At #[p, v] 66) :: f ol)) (hp : p = .pointer none ∨ p = (.pointer (some ⟨b, 0, none⟩))) (OW : OwnT 5 1 v L ol) (hf : TailF f)
    (hlen : L.length + s.size ≤ 140737488355328) :
    Calls Tryd.prog 28 #[(.pointer (some ⟨b, 0, none⟩)), .string s] w fun e w' => e = .returned (.tuple #[.int .i64 s.size, .nilIface]) ∧ ∃ v' ol', OwnT 5 1 v' (L ++ (Lib.strCells s).map fun c => [c]) ol' ∧ Kn M W w' ((b, At #[(.pointer (some ⟨b, 0, none⟩)), v'] 66) :: f ol') := by
  obtain ⟨va, vc, rfl⟩ := OW.form
  have HO := Lib.hid OW
  obtain ⟨n, hn⟩ : ∃ n, n = L.length := ⟨_, rfl⟩
  have HN := Lib.hid hn
  rw [← hn] at hlen
  have hcc := copyCheck_kn KN hp
  have HCC := Lib.hid hcc
  have HF := Lib.hid hf
  clear OW hcc hf KN hp hn
  go_enter Tryd.func28, Tryd.ntmps28
  go_wp2_with (first | (go_at_call 47; refine HCC.out.mono ?_; rintro e w1 ⟨rfl, KN⟩) | ((with_reducible refine wpList_gate ?_); first | (at_builtin; (refine wpList_kn_appendS (f := fun o => (b, At #[(.pointer (some ⟨b, 0, none⟩)), .slice va L.length vc] 66) :: f o) KN HO.out (by rfl) (.tmp 12) (.tmp 13) 64 9 rfl Tryd.underlying64 Tryd.underlying9 bld_byte rfl s rfl (by rw [← HN.out]; unfold maxLen; omega) (by rw [← HN.out]; exact hlen) (TailF.cons _ HF.out) rfl ?_); clear KN; intro v' wx ol' OW KN; obtain ⟨xa, xc, rfl⟩ := OW.form) | ((with_reducible refine gate_load ?_ ?_); rfl; first | (refine ks_load1 KN 64 Tryd.underlying64 ?_)) | ((with_reducible refine gate_store ?_ ?_); rfl; first | (refine ks_store1 KN 64 ?_; clear KN; intro wx KN))))
  refine bodyPost_ret (results_tmp2 rfl _ _ _) rfl ?_
  exact ⟨rfl, _, ol', OW, KN.as_ b #[.pointer (some ⟨b, 0, none⟩), .slice xa _ xc] Repl.here (by rw [List.length_append, List.length_map]; rfl)⟩
end
section
open Go Go.RowKit Go.BigFrame

def bytesL (l : List UInt8) : List (List Value) := l.map fun c => [.int .u8 (c.toNat : Int)]
theorem bytesL_app (a b : List UInt8) : bytesL (a ++ b) = bytesL a ++ bytesL b := by simp [bytesL]
theorem bytesL_len (a : List UInt8) : (bytesL a).length = a.length := by simp [bytesL]
theorem bytesL_str (l : List UInt8) : ((Lib.strCells (str l)).map fun c => [c]) = bytesL l := by
  rw [Lib.strCells, data_str, List.map_map]; rfl
theorem str_app (a b : List UInt8) : str a ++ str b = str (a ++ b) := bytes_ext (by rw [data_str, ByteArray.data_append, Array.toList_append, data_str, data_str])
theorem Itoa_nat (n : Int) (h0 : 0 ≤ n) (h1 : n ≤ 9223372036854775807) (w : World) (hp : Pow w) :
    Calls Tryd.prog 29 #[.int .i64 n] w fun e w' => e = .returned (.string (str (numL 10 n.toNat))) ∧ Below w.heap.size w w' := by
  refine (Tryd.strconv_Itoa n (by omega) h1 w hp).mono ?_
  rintro e w' ⟨rfl, k, os, rfl⟩
  refine ⟨?_, Lib.below_grow _ w (Nat.le_refl _) k os⟩
  unfold Lib.itoa
  have hna : n.natAbs = n.toNat := by omega
  rw [if_neg (by omega)]
  try rw [hna]
  rw [decDigits_numL]; rfl
theorem numL_le {n : Nat} (h : (n : Int) ≤ 18446744073709551615) : (numL 10 n).length ≤ 20 := numL_len10 h
theorem Kn.isBuilder {W w : World} {f : Ents → Ents} {ol : Ents} {b : Nat} {pb vb : Value} {l : List UInt8} (KN : Kn [] W w ((b, At #[pb, vb] 66) :: f ol)) (OW : OwnT 5 1 vb (bytesL l) ol) (hf : TailF f) (hp : pb = .pointer none ∨ pb = .pointer (some ⟨b, 0, none⟩)) :
    Lib.IsBuilder 66 5 W.heap.size b (Lib.byteCells l) w := by
  have hB : W.heap.size ≤ b := by
    rcases KN.fresh _ _ .here with h | h
    · cases h
    · exact h
  have hbk : w.heap[b]? = some (.cells #[pb, vb] 66 (0, 0)) := KN.at_ .here
  have hfl : (bytesL l).flatten = Lib.byteCells l := by
    rw [← bytesL_str l, flat1, Lib.strCells_eq, data_str]
  have key : w.ownsRow W.heap.size 5 1 vb (Lib.byteCells l).length (Lib.byteCells l) ∧ vb.ownBlock ≠ some b := by
    have h0 := OW.owns (KN.drop .here) hf
    rw [hfl, bytesL_len, show l.length = (Lib.byteCells l).length by rw [Lib.byteCells_length]] at h0
    refine ⟨⟨h0.1, ?_⟩, ?_⟩
    · rcases h0.2 with h1 | ⟨g, cap, cur, hv, _, h2⟩
      · exact .inl h1
      · refine .inr ⟨g, cap, cur, hv, ?_, h2⟩
        obtain ⟨Φ, ho⟩ := OW.block g (by rw [hv]; rfl)
        subst ho
        rcases KN.fresh _ _ (.there (hf.has (.here (Φ := Φ)))) with h | h
        · cases h
        · exact h
    · intro hq
      obtain ⟨Φ, ho⟩ := OW.block b hq
      subst ho
      have ha := KN.apart
      rw [List.map_cons, List.nodup_cons] at ha
      exact ha.1 (hf.has (.here (Φ := Φ))).key
  rcases hp with rfl | rfl
  · exact .inl ⟨hB, vb, hbk, key.1, key.2⟩
  · exact .inr ⟨hB, vb, hbk, key.1, key.2⟩
end
end Go.Proofs.YtgeeklgojjcdmaaDoor
