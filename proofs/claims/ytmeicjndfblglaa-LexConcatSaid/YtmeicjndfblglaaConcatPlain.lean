/- Two texts joined by a newline: plain. -/
import Derived.Test.YtmeicjndfblglaaLawPrefix
namespace Go.Proofs.Ytmeicjndfblglaa
open Go

theorem adv_line : ∀ (l : List UInt8) (x : Int) (p : Int × Int), adv l (p.1 + x, p.2) = ((adv l p).1 + x, (adv l p).2)
  | [], _, _ => rfl
  | c :: l, x, p => by
    simp only [adv]
    split
    · have := adv_line l x (p.1 + 1, 1); simp only at this; rw [← this]; congr 2; omega
    · exact adv_line l x (p.1, p.2 + 1)
def Tok.down (n : Int) (t : Tok) : Tok := ⟨t.raw, t.line + n, t.col⟩
theorem scanK_lt (l : List UInt8) : ∀ x ∈ (scanK l).1, x.1 < l.length := by
  induction l using scan_ind with
  | h0 => simp [scanK_nil]
  | h1 c r ih =>
    rw [scanK_cons]
    by_cases hw : wsB c = true
    · rw [if_pos hw]
      intro x hx
      simp only [ResK.shift, List.mem_map] at hx
      obtain ⟨y, hy, rfl⟩ := hx
      have := ih 0 y (by simpa using hy)
      simp at this ⊢; exact this
    · rw [if_neg hw]
      by_cases h35 : c.toNat = 35
      · rw [if_pos h35]
        intro x hx
        simp only [ResK.shift, List.mem_map] at hx
        obtain ⟨y, hy, rfl⟩ := hx
        have h1 := ih (cmtLen r) y hy
        rw [List.length_drop] at h1
        simp only [List.length_cons]; omega
      · rw [if_neg h35]
        by_cases he : (lexOne (c :: r)).2.2 = 0
        · rw [if_pos he]
          obtain ⟨n1, n2⟩ := lexOne_len _ he
          simp only [List.length_cons] at n2
          intro x hx
          simp only [ResK.shift, ResK.cons, List.mem_cons, List.mem_map] at hx
          rcases hx with rfl | ⟨y, hy, rfl⟩
          · simp
          · have h1 := ih _ y hy
            rw [List.length_drop] at h1
            simp only [List.length_cons]; omega
        · rw [if_neg he]; intro x hx; simp at hx
theorem place_down (b : List UInt8) (x : Int) (p : Int × Int) (r : ResK) : (place b (p.1 + x, p.2) r).1 = (place b p r).1.map (Tok.down x) := by
  unfold place
  simp only [List.map_map]
  apply List.map_congr_left
  intro y _
  simp only [Function.comp, Tok.down, adv_line]
theorem adv_nl (a : List UInt8) : adv (a ++ [10]) (1, 1) = ((1 : Int) + (adv a (1, 1)).1, 1) := by
  rw [adv_append]; simp only [adv]; rw [if_pos (by decide)]; simp only [Prod.mk.injEq, and_true]; omega
theorem take_join (a b : List UInt8) (k : Nat) : (a ++ 10 :: b).take (a.length + 1 + k) = a ++ [10] ++ b.take k := by
  rw [show a ++ 10 :: b = (a ++ [10]) ++ b from by simp, show a.length + 1 + k = (a ++ [10]).length + k from by simp, List.take_length_add_append]
theorem adv_bdL (l : List UInt8) : 1 ≤ (adv l (1, 1)).1 ∧ (adv l (1, 1)).1 ≤ l.length + 1 := by
  have h := adv_bd (str l) l.length (by show l.length ≤ l.toArray.size; simp)
  rw [data_str, List.take_length] at h
  exact ⟨h.1, by have := h.2.1; omega⟩
theorem scanRes_bd {l : List UInt8} (h : l.length ≤ 500) {d : List Tok} {a b e : Int} (hr : scanRes l = (d, a, b, e)) : 0 ≤ a ∧ a ≤ 501 ∧ ∀ t ∈ d, 1 ≤ t.line ∧ t.line ≤ 501 := by
  rw [scanRes_place (by omega)] at hr
  have hlt := scanK_lt l
  have hb : ∀ k, (adv (l.take k) (1, 1)).1 ≤ 501 := fun k => by have h1 := (adv_bdL (l.take k)).2; rw [List.length_take] at h1; omega
  cases hk : scanK l with
  | mk d0 x =>
    rw [hk] at hr
    cases x with
    | none =>
      simp only [Prod.mk.injEq] at hr
      refine ⟨by omega, by omega, ?_⟩
      rw [← hr.1]
      intro t ht
      simp only [place, List.mem_map] at ht
      obtain ⟨y, _, rfl⟩ := ht
      exact ⟨(adv_bdL _).1, hb _⟩
    | some x =>
      obtain ⟨k, e'⟩ := x
      simp only [Prod.mk.injEq] at hr
      rw [← hr.1, ← hr.2.1]
      have h1 := (adv_bdL (l.take k)).1
      exact ⟨by omega, hb k, by simp⟩
theorem concat_facts {a b : List UInt8} (ha : a.length ≤ 500) (hb : b.length ≤ 500) {x y z : List Tok} {xl xc e yl yc f zl zc g : Int}
    (h1 : scanRes a = (x, xl, xc, e)) (h2 : scanRes b = (y, yl, yc, f)) (h3 : scanRes (a ++ 10 :: b) = (z, zl, zc, g)) :
    (¬ e = 0 ∧ g = e) ∨ (e = 0 ∧ ¬ f = 0 ∧ g = f ∧ zl = yl + (adv a (1, 1)).1 ∧ zc = yc) ∨ (e = 0 ∧ f = 0 ∧ g = 0 ∧ z = x ++ y.map (Tok.down (adv a (1, 1)).1)) := by
  rw [scanRes_place (by omega)] at h1 h2
  rw [scanRes_place (by rw [List.length_append, List.length_cons]; omega), scanK_join] at h3
  have hb1 := scanK_lt a
  cases ka : scanK a with
  | mk da xa =>
    rw [ka] at h1 h3 hb1
    cases xa with
    | some v =>
      obtain ⟨k, e'⟩ := v
      have he := (scanK_err a da k e' ka).1
      simp only [join, Prod.mk.injEq] at h1 h3
      left
      rw [← h1.2.2.2, ← h3.2.2.2]
      exact ⟨he, rfl⟩
    | none =>
      simp only [Prod.mk.injEq] at h1
      obtain ⟨hx, _, _, he⟩ := h1
      right
      cases kb : scanK b with
      | mk db xb =>
        rw [kb] at h2 h3
        cases xb with
        | some v =>
          obtain ⟨k, f'⟩ := v
          have hf := (scanK_err b db k f' kb).1
          simp only [join, ResK.pre, ResK.shift, Option.map_some, Prod.mk.injEq] at h2 h3
          obtain ⟨_, hy1, hy2, hfe⟩ := h2
          obtain ⟨_, hz1, hz2, hg⟩ := h3
          left
          rw [show k + (a.length + 1) = a.length + 1 + k from by omega, take_join, adv_append, adv_nl] at hz1 hz2
          have h4 := adv_line (b.take k) (adv a (1, 1)).1 (1, 1)
          simp only at h4
          rw [h4] at hz1 hz2
          subst hfe
          exact ⟨he.symm, hf, hg.symm, by rw [← hz1, ← hy1], by rw [← hz2, ← hy2]⟩
        | none =>
          simp only [join, ResK.pre, ResK.shift, Option.map_none, Prod.mk.injEq] at h2 h3
          right
          refine ⟨he.symm, h2.2.2.2.symm, h3.2.2.2.symm, ?_⟩
          rw [← h3.1, ← hx, ← h2.1]
          have e1 : (place (a ++ 10 :: b) (1, 1) (da ++ db.map (fun x => (x.1 + (a.length + 1), x.2)), none)).1 = (place (a ++ 10 :: b) (1, 1) (da, none)).1 ++ (place (a ++ 10 :: b) (1, 1) (ResK.shift (a.length + 1) (db, none))).1 := by
            simp only [place, ResK.shift, List.map_append]
          rw [e1, place_shift]
          congr 1
          · unfold place
            apply List.map_congr_left
            intro v hv
            have := hb1 v hv
            rw [List.take_append_of_le_length (by omega)]
          · have t1 := take_join a b 0
            have d1 : (a ++ 10 :: b).drop (a.length + 1) = b := by
              rw [show a ++ 10 :: b = (a ++ [10]) ++ b from by simp, show a.length + 1 = (a ++ [10]).length from by simp, List.drop_left]
            rw [Nat.add_zero, List.take_zero, List.append_nil] at t1
            rw [d1, t1, adv_nl]
            exact place_down b _ (1, 1) _
end Go.Proofs.Ytmeicjndfblglaa
