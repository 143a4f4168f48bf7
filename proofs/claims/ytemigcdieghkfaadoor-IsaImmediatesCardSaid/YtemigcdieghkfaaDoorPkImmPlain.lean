/- The text of one 'li' with an immediate: its tokens. Plain. -/
import Derived.Test.YtemigcdieghkfaaDoorPkHexPlain
import Derived.Test.YtemigcdieghkfaaDoorPkRoundG
set_option linter.unusedVariables false
set_option linter.unusedSimpArgs false
set_option linter.unusedSectionVars false
namespace Go.Proofs.YtemigcdieghkfaaDoor
open Go

def immT (sg : Bool) (nt : List UInt8) : List UInt8 := [108, 105, 32, 114, 51, 44, 32] ++ ((if sg then [45] else []) ++ (nt ++ [59]))
def sgN (sg : Bool) : Int := if sg then 1 else 0
theorem runLen_gap {l : List UInt8} (h : ∀ c ∈ l, alnumB c.toNat = true) (g : UInt8) (hg : alnumB g.toNat = false) (b : List UInt8) : runLen (l ++ g :: b) = l.length := by
  induction l with
  | nil => unfold runLen; simp [hg]
  | cons c r ih =>
    have h1 := h c (by simp)
    have h2 := ih (fun c hc => h c (by simp [hc]))
    unfold runLen at h2 ⊢
    simp [h1] at h2 ⊢
    exact h2
theorem scan_semi (col : Int) : scan [59] 1 col = ([⟨punR 59, 1, col⟩], none) := by
  have hp : punctLen [59] = 1 := by decide
  rw [scan_cons, if_neg (by decide), if_neg (by decide), if_neg (by decide), lexOne_punct (by decide) (by decide) (by decide) (by rw [hp]; decide), hp, if_pos rfl]
  rfl
theorem scan_num {nt : List UInt8} {v : Int} (hn : numeral nt = (v, 0)) (hall : ∀ c ∈ nt, alnumB c.toNat = true) {c : UInt8} {r : List UInt8} (hc : nt = c :: r) (hd : digitB c.toNat = true) (col : Int) :
    scan (nt ++ [59]) 1 col = ([⟨numR v, 1, col⟩, ⟨punR 59, 1, col + nt.length⟩], none) := by
  have hl : letterB c.toNat = false := by simp [digitB] at hd; simp [letterB]; omega
  have hrun := runLen_gap hall 59 (by decide) []
  subst hc
  have hlz : ¬ c.toNat = 10 ∧ ¬ (c.toNat = 32 ∨ c.toNat = 9 ∨ c.toNat = 13) ∧ ¬ c.toNat = 35 := by simp [digitB] at hd; omega
  have htk : (c :: (r ++ [59])).take (runLen (c :: (r ++ [59]))) = c :: r := by
    have : c :: (r ++ [59]) = (c :: r) ++ [59] := rfl
    rw [this, hrun, List.take_left]
  have hlex := lexOne_num (c := c) (r := r ++ [59]) hl hd (by rw [htk, hn])
  rw [htk, hn, show runLen (c :: (r ++ [59])) = (c :: r).length from hrun] at hlex
  have hdr : (r ++ [59]).drop ((c :: r).length - 1) = [59] := by rw [List.length_cons, Nat.add_sub_cancel, List.drop_left]
  rw [List.cons_append, scan_cons, if_neg hlz.1, if_neg hlz.2.1, if_neg hlz.2.2, hlex, if_pos rfl]
  dsimp only
  rw [hdr, scan_semi]
  rfl
theorem scan_imm {nt : List UInt8} {v : Int} (sg : Bool) (hn : numeral nt = (v, 0)) (hall : ∀ c ∈ nt, alnumB c.toNat = true) {c : UInt8} {r : List UInt8} (hc : nt = c :: r) (hd : digitB c.toNat = true) :
    scan (immT sg nt) 1 1 = (⟨wordR [108, 105], 1, 1⟩ :: ⟨wordR [114, 51], 1, 4⟩ :: ⟨punR 44, 1, 6⟩ :: ((if sg then [⟨punR 45, 1, 8⟩] else []) ++ [⟨numR v, 1, 8 + sgN sg⟩, ⟨punR 59, 1, 8 + sgN sg + nt.length⟩]), none) := by
  have h0 : scan (immT sg nt) 1 1 = Res.pre [⟨wordR [108, 105], 1, 1⟩] (Res.pre [⟨wordR [114, 51], 1, 4⟩] (Res.pre [⟨punR 44, 1, 6⟩] (scan ((if sg then [45] else []) ++ (nt ++ [59])) 1 8))) := by
    obtain ⟨t, ht⟩ : ∃ t, t = (if sg then [45] else []) ++ (nt ++ [59]) := ⟨_, rfl⟩
    unfold immT
    rw [← ht]
    show scan (108 :: 105 :: 32 :: 114 :: 51 :: 44 :: 32 :: t) 1 1 = _
    rw [scan_cons, if_neg (by decide), if_neg (by decide), if_neg (by decide), lexOne_letter (by decide), if_pos rfl]
    show Res.pre _ (scan (32 :: 114 :: 51 :: 44 :: 32 :: t) 1 3) = _
    rw [scan_cons, if_neg (by decide), if_pos (by decide), scan_cons, if_neg (by decide), if_neg (by decide), if_neg (by decide), lexOne_letter (by decide), if_pos rfl]
    show Res.pre _ (Res.pre _ (scan (44 :: 32 :: t) 1 6)) = _
    have hp : punctLen (44 :: 32 :: t) = 1 := by
      unfold punctLen
      rw [if_neg (by rintro ⟨_, h⟩; revert h; show ¬ two [44, 32] = true; decide)]
      rfl
    rw [scan_cons, if_neg (by decide), if_neg (by decide), if_neg (by decide), lexOne_punct (by decide) (by decide) (by decide) (by rw [hp]; decide), hp, if_pos rfl]
    show Res.pre _ (Res.pre _ (Res.pre _ (scan (32 :: t) 1 7))) = _
    rw [scan_cons, if_neg (by decide), if_pos (by decide)]
    rfl
  rw [h0]
  cases sg with
  | false =>
    show Res.pre _ (Res.pre _ (Res.pre _ (scan (nt ++ [59]) 1 8))) = _
    rw [scan_num hn hall hc hd]; rfl
  | true =>
    have h1 : scan (45 :: (nt ++ [59])) 1 8 = Res.pre [⟨punR 45, 1, 8⟩] (scan (nt ++ [59]) 1 9) := by
      have hp : punctLen (45 :: (nt ++ [59])) = 1 := by
        subst hc
        have hd2 := hd
        simp [digitB] at hd2
        unfold punctLen
        rw [if_neg (by
          rintro ⟨_, h⟩
          have h2 : two [45, c] = true := h
          rcases two_of _ h2 with e | e | e | e | e <;> simp at e
          subst e
          revert hd; decide)]
        rfl
      rw [scan_cons, if_neg (by decide), if_neg (by decide), if_neg (by decide), lexOne_punct (by decide) (by decide) (by decide) (by rw [hp]; decide), hp, if_pos rfl]
      rfl
    show Res.pre _ (Res.pre _ (Res.pre _ (scan (45 :: (nt ++ [59])) 1 8))) = _
    rw [h1, scan_num hn hall hc hd]; rfl
end Go.Proofs.YtemigcdieghkfaaDoor
