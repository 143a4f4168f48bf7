/- Merged: VmPlain, Str, Ret, Plain, LexOne, Spec. -/
import Derived.Below
import Derived.Lib.Bytealg
import Derived.Lib.Strings
import Derived.Calls
set_option linter.unusedVariables false
set_option linter.unusedSimpArgs false
set_option linter.unusedSectionVars false
namespace Go.Proofs.YtgeeklgojjcdmaaDoor
section
open Go

structure Eff where
  kind : Int
  reg : Int
  num : Int
  addr : Int
  value : Int
structure Vm where
  width : Int
  pc : Int
  state : Int
  cause : Int
  regs : List Int
  wait : Eff
structure Ins where
  op : Int
  a : Int
  b : Int
  c : Int
  imm : Int
def Eff.none : Eff := ⟨0, 0, 0, 0, 0⟩
def Vm.zero : Vm := ⟨0, 0, 0, 0, List.replicate 16 0, Eff.none⟩
def Eff.cells (e : Eff) : Array Value := #[.int .i64 e.kind, .int .i64 e.reg, .int .i64 e.num, .int .u64 e.addr, .int .u64 e.value]
def Vm.r (v : Vm) (i : Nat) : Int := v.regs.getD i 0
def Vm.cells (v : Vm) : Array Value := #[.int .i64 v.width, .int .i64 v.pc, .int .i64 v.state, .int .i64 v.cause,
  .int .u64 (v.r 0), .int .u64 (v.r 1), .int .u64 (v.r 2), .int .u64 (v.r 3), .int .u64 (v.r 4), .int .u64 (v.r 5), .int .u64 (v.r 6), .int .u64 (v.r 7),
  .int .u64 (v.r 8), .int .u64 (v.r 9), .int .u64 (v.r 10), .int .u64 (v.r 11), .int .u64 (v.r 12), .int .u64 (v.r 13), .int .u64 (v.r 14), .int .u64 (v.r 15),
  .int .i64 v.wait.kind, .int .i64 v.wait.reg, .int .i64 v.wait.num, .int .u64 v.wait.addr, .int .u64 v.wait.value]
def Ins.cells (x : Ins) : Array Value := #[.int .i64 x.op, .int .i64 x.a, .int .i64 x.b, .int .i64 x.c, .int .i32 x.imm]

def wide (w : Int) : Bool := w == 32 || w == 39
/-- Two to the width. -/
def pw2 (w : Int) : Int := if w = 32 then 4294967296 else 549755813888
def effOk (w : Int) (e : Eff) : Bool :=
  if e.kind = 1 then decide (0 ≤ e.reg ∧ e.reg < 16 ∧ e.num = 0 ∧ e.addr < pw2 w ∧ e.addr % 8 = 0 ∧ e.value = 0)
  else if e.kind = 2 then decide (e.reg = 0 ∧ e.num = 0 ∧ e.addr < pw2 w ∧ e.addr % 8 = 0 ∧ e.value < pw2 w)
  else if e.kind = 3 then decide (e.reg = 0 ∧ 0 ≤ e.num ∧ e.num < 2147483648 ∧ e.addr = 0 ∧ e.value = 0)
  else false
def Eff.isNone (e : Eff) : Bool := decide (e.kind = 0 ∧ e.reg = 0 ∧ e.num = 0 ∧ e.addr = 0 ∧ e.value = 0)
def Vm.ok (v : Vm) : Bool :=
  wide v.width && decide (0 ≤ v.pc ∧ v.pc ≤ 4096) && v.regs.all (fun x => decide (x < pw2 v.width)) &&
    (if v.state = 0 ∨ v.state = 2 then decide (v.cause = 0) && v.wait.isNone
    else if v.state = 1 then decide (v.cause = 0 ∧ 1 ≤ v.pc) && effOk v.width v.wait
    else if v.state = 3 then decide (1 ≤ v.cause ∧ v.cause ≤ 4) && v.wait.isNone
    else false)
def signed (w v : Int) : Int := if wide w = true then (if pw2 w ≤ 2 * (v % pw2 w) then v % pw2 w - pw2 w else v % pw2 w) else 0
end
section
open Go

def str (l : List UInt8) : ByteArray := ⟨l.toArray⟩
theorem str_data (s : ByteArray) : str s.data.toList = s := rfl
theorem data_str (l : List UInt8) : (str l).data.toList = l := by simp [str]
theorem str_size (l : List UInt8) : (str l).size = l.length := by show l.toArray.size = _; simp
theorem bytes_ext {s t : ByteArray} (h : s.data.toList = t.data.toList) : s = t := by
  rw [← str_data s, h, str_data]
theorem take_snoc (s : ByteArray) (k : Nat) (h : k < s.size) : s.data.toList.take (k + 1) = s.data.toList.take k ++ [s[k]] := by
  rw [List.take_succ_eq_append_getElem (by simpa using h)]; rfl
end
section
open Go
theorem ret_int {k : IntKind} {a b : Int} (h : a = b) : Ending.returned (.int k a) = .returned (.int k b) := by rw [h]
theorem ret_bool {a b : Bool} (h : a = b) : Ending.returned (.bool a) = .returned (.bool b) := by rw [h]
end
section
open Go

def letterB (n : Int) : Bool := (decide (97 ≤ n) && decide (n ≤ 122)) || (decide (65 ≤ n) && decide (n ≤ 90)) || (n == 95)
def digitB (n : Int) : Bool := decide (48 ≤ n) && decide (n ≤ 57)
def alnumB (n : Int) : Bool := letterB n || digitB n
def plainB (n : Int) : Bool := decide (32 ≤ n) && decide (n ≤ 126) && !(n == 34) && !(n == 92)
/-- The value of a hexadecimal digit, or -1. -/
def hexV (n : Int) : Int := if digitB n = true then n - 48 else if 97 ≤ n ∧ n ≤ 102 then n - 87 else if 65 ≤ n ∧ n ≤ 70 then n - 55 else -1
def digV (n b : Int) : Int := if hexV n < b then hexV n else -1
def notNl (n : Int) : Bool := !(n == 10)
def runLen (l : List UInt8) : Nat := (l.takeWhile fun c => alnumB c.toNat).length
def strLen (l : List UInt8) : Nat := (l.takeWhile fun c => plainB c.toNat).length
def wordB : List UInt8 → Bool
  | [] => false
  | c :: l => letterB c.toNat && l.all fun c => alnumB c.toNat

/-- The two-byte punctuation marks. -/
def two (l : List UInt8) : Bool := l == [60, 61] || l == [62, 61] || l == [33, 61] || l == [46, 46] || l == [45, 62]
def marks1 : List UInt8 := [123, 125, 40, 41, 91, 93, 44, 59, 58, 61, 60, 62, 33, 43, 45, 42, 63, 46, 47]
def punctLen (l : List UInt8) : Nat :=
  if 2 ≤ l.length ∧ two (l.take 2) = true then 2 else
    match l with
    | [] => 0
    | c :: _ => if 0 ≤ Lib.indexByte marks1 c then 1 else 0

def shiftOf (c : UInt8) : Nat := if c.toNat = 71 then 30 else if c.toNat = 77 then 20 else if c.toNat = 75 then 10 else 0
def sufShift (l : List UInt8) : Nat := match l.getLast? with | some c => shiftOf c | none => 0
def sufBody (l : List UInt8) : List UInt8 := if sufShift l = 0 then l else l.dropLast
def isHexL (l : List UInt8) : Bool := ([48, 120] : List UInt8).isPrefixOf l
def baseOf (l : List UInt8) : Int := if isHexL l = true then 16 else 10
def digitsOf (l : List UInt8) : List UInt8 := if isHexL l = true then l.drop 2 else l
/-- The value of digits in a base. -/
def numV (b : Int) (l : List UInt8) : Int := l.foldl (fun v c => v * b + digV c.toNat b) 0
/-- No digits, or a zero ahead of decimal digits. -/
def badLead (b : Int) (l : List UInt8) : Bool := l == [] || (b == 10 && decide (1 < l.length) && l.head? == some 48)
def badDigits (b : Int) (l : List UInt8) : Bool := badLead b l || l.any fun c => decide (digV c.toNat b < 0)
/-- The greatest uint64, behind a name. -/
def most : Int := 18446744073709551615
/-- What a numeral comes to: the value and the error's number. -/
def numeral (l : List UInt8) : Int × Int :=
  if badDigits (baseOf (sufBody l)) (digitsOf (sufBody l)) = true then (0, 50)
  else if most / 2 ^ sufShift l < numV (baseOf (sufBody l)) (digitsOf (sufBody l)) then (0, 6)
  else (numV (baseOf (sufBody l)) (digitsOf (sufBody l)) * 2 ^ sufShift l, 0)

theorem digV_lt (n b : Int) (hb : 1 ≤ b) : digV n b < b := by unfold digV; split <;> omega
theorem numV_snoc (b : Int) (l : List UInt8) (c : UInt8) : numV b (l ++ [c]) = numV b l * b + digV c.toNat b := by simp [numV]
theorem badDigits_lead {b : Int} {l : List UInt8} (h : badLead b l = true) : badDigits b l = true := by simp [badDigits, h]
theorem badDigits_any {b : Int} {l : List UInt8} {c : UInt8} (h : c ∈ l) (hc : digV c.toNat b < 0) : badDigits b l = true := by
  simp only [badDigits, Bool.or_eq_true, List.any_eq_true, decide_eq_true_eq]; exact .inr ⟨c, h, hc⟩
theorem badDigits_false {b : Int} {l : List UInt8} (h : badLead b l = false) (hc : ∀ c ∈ l, 0 ≤ digV c.toNat b) : badDigits b l = false := by
  simp only [badDigits, h, Bool.false_or, List.any_eq_false, decide_eq_true_eq]; intro c hl; have := hc c hl; omega
theorem foldl_numV_ge (b : Int) (hb : 1 ≤ b) : ∀ (m : List UInt8) (v : Int), (∀ c ∈ m, 0 ≤ digV c.toNat b) → 0 ≤ v →
    v ≤ m.foldl (fun v c => v * b + digV c.toNat b) v
  | [], v, _, _ => Int.le_refl _
  | c :: m, v, h, hv => by
    have h1 := h c (by simp)
    have h2 : v ≤ v * b := by have := Int.mul_le_mul_of_nonneg_left hb hv; rwa [Int.mul_one] at this
    exact Int.le_trans (by omega) (foldl_numV_ge b hb m (v * b + digV c.toNat b) (fun c hc => h c (by simp [hc])) (by omega))
theorem numV_take_le (b : Int) (hb : 1 ≤ b) (l : List UInt8) (k : Nat) (h : ∀ c ∈ l, 0 ≤ digV c.toNat b) (h0 : 0 ≤ numV b (l.take k)) : numV b (l.take k) ≤ numV b l := by
  have := foldl_numV_ge b hb (l.drop k) (numV b (l.take k)) (fun c hc => h c (List.mem_of_mem_drop hc)) h0
  have e : numV b l = (l.drop k).foldl (fun v c => v * b + digV c.toNat b) (numV b (l.take k)) := by
    unfold numV; rw [← List.foldl_append, List.take_append_drop]
  rw [e]; exact this
theorem pow_shift_pos (k : Nat) : 1 ≤ (2 : Int) ^ k := by have : 0 < (2 : Int) ^ k := Int.pow_pos (by decide); omega
theorem most_div_le (k : Nat) : most / 2 ^ k ≤ most := by
  have := pow_shift_pos k; exact Int.ediv_le_self _ (by unfold most; omega)
theorem numeral_bad {l : List UInt8} (h : badDigits (baseOf (sufBody l)) (digitsOf (sufBody l)) = true) : numeral l = (0, 50) := by unfold numeral; rw [if_pos h]
theorem numeral_big {l : List UInt8} (h : badDigits (baseOf (sufBody l)) (digitsOf (sufBody l)) = false) (hv : most / 2 ^ sufShift l < numV (baseOf (sufBody l)) (digitsOf (sufBody l))) : numeral l = (0, 6) := by
  unfold numeral; rw [if_neg (by rw [h]; decide), if_pos hv]
theorem numeral_ok {l : List UInt8} (h : badDigits (baseOf (sufBody l)) (digitsOf (sufBody l)) = false) (hv : ¬ most / 2 ^ sufShift l < numV (baseOf (sufBody l)) (digitsOf (sufBody l))) :
    numeral l = (numV (baseOf (sufBody l)) (digitsOf (sufBody l)) * 2 ^ sufShift l, 0) := by
  unfold numeral; rw [if_neg (by rw [h]; decide), if_neg hv]

theorem shift_cases (l : List UInt8) : sufShift l = 0 ∨ sufShift l = 10 ∨ sufShift l = 20 ∨ sufShift l = 30 := by
  unfold sufShift
  split
  · unfold shiftOf; split
    · simp
    · split
      · simp
      · split <;> simp
  · simp
theorem numeral_over {l d : List UInt8} {b v x : Int} {k : Nat} (hd : d = digitsOf (sufBody l)) (hb : b = baseOf (sufBody l)) (hb1 : 1 ≤ b) (hl : badLead b d = false) (hc : ∀ c ∈ d, 0 ≤ digV c.toNat b)
    (h : numV b (d.take k) = v) (hv : most < v) (hx : x = 6) : numeral l = (0, x) := by
  subst hx hd hb
  refine numeral_big (badDigits_false hl hc) ?_
  have h1 := numV_take_le _ hb1 _ k hc (by rw [h]; unfold most at hv; omega)
  have h2 := most_div_le (sufShift l)
  omega

theorem most_0 : most / 2 ^ 0 = 18446744073709551615 := by decide
theorem most_10 : most / 2 ^ 10 = 18014398509481983 := by decide
theorem most_20 : most / 2 ^ 20 = 17592186044415 := by decide
theorem most_30 : most / 2 ^ 30 = 17179869183 := by decide
theorem p2_0 : (2 : Int) ^ 0 = 1 := by decide
theorem p2_10 : (2 : Int) ^ 10 = 1024 := by decide
theorem p2_20 : (2 : Int) ^ 20 = 1048576 := by decide
theorem p2_30 : (2 : Int) ^ 30 = 1073741824 := by decide

theorem baseOf_hex {l : List UInt8} (h : isHexL l = true) : baseOf l = 16 := by unfold baseOf; rw [if_pos h]
theorem baseOf_dec {l : List UInt8} (h : isHexL l = false) : baseOf l = 10 := by unfold baseOf; rw [if_neg (by rw [h]; decide)]
theorem digitsOf_hex {l : List UInt8} (h : isHexL l = true) : digitsOf l = l.drop 2 := by unfold digitsOf; rw [if_pos h]
theorem digitsOf_dec {l : List UInt8} (h : isHexL l = false) : digitsOf l = l := by unfold digitsOf; rw [if_neg (by rw [h]; decide)]

theorem takeWhile_len {α : Type} (p : α → Bool) : ∀ (l : List α) (k : Nat), k ≤ l.length → (∀ x ∈ l.take k, p x = true) →
    (∀ h : k < l.length, p l[k] = false) → (l.takeWhile p).length = k
  | [], k, hk, _, _ => by simp at hk; subst hk; rfl
  | a :: l, 0, _, _, he => by have := he (by simp); simp at this; simp [this]
  | a :: l, k + 1, hk, ha, he => by
    have h1 : p a = true := ha a (by simp)
    rw [List.takeWhile_cons_of_pos h1, List.length_cons]
    rw [takeWhile_len p l k (by simpa using hk) (fun x hx => ha x (by simp [hx])) (fun h => by have := he (by simp; omega); simpa using this)]
theorem takeWhile_le {α : Type} (p : α → Bool) : ∀ (l : List α), (l.takeWhile p).length ≤ l.length
  | [] => by simp
  | a :: l => by
    by_cases h : p a = true
    · rw [List.takeWhile_cons_of_pos h]; have := takeWhile_le p l; simp; omega
    · rw [List.takeWhile_cons_of_neg h]; simp
/-- All bytes of l are such that p. -/
def AllP (p : Int → Bool) (l : List UInt8) : Prop := ∀ x ∈ l, p x.toNat = true
theorem AllP.nil (p : Int → Bool) : AllP p [] := by simp [AllP]
theorem AllP.snoc {p : Int → Bool} {s : ByteArray} {k : Nat} (h : AllP p (s.data.toList.take k)) (hk : k < s.size) (hp : p s[k].toNat = true) : AllP p (s.data.toList.take (k + 1)) := by
  intro x hx
  rw [take_snoc s k hk] at hx
  simp only [List.mem_append, List.mem_singleton] at hx
  rcases hx with hx | rfl
  · exact h x hx
  · exact hp
theorem AllP.snoc1 {p : Int → Bool} {s : ByteArray} {k : Nat} (h : AllP p ((s.data.toList.take k).drop 1)) (h1 : 1 ≤ k) (hk : k < s.size) (hp : p s[k].toNat = true) :
    AllP p ((s.data.toList.take (k + 1)).drop 1) := by
  intro x hx
  rw [take_snoc s k hk, List.drop_append_of_le_length (by simp; have : s.size = s.data.toList.length := rfl; omega)] at hx
  simp only [List.mem_append, List.mem_singleton] at hx
  rcases hx with hx | rfl
  · exact h x hx
  · exact hp
theorem prefixLen_eq {p : Int → Bool} {s : ByteArray} {k : Nat} (hk : k ≤ s.size) (ha : AllP p (s.data.toList.take k))
    (he : ∀ h : k < s.size, p s[k].toNat = false) : (s.data.toList.takeWhile fun c => p c.toNat).length = k :=
  takeWhile_len _ _ _ (by simpa using hk) ha (fun h => he (by simpa using h))
theorem runLen_le (l : List UInt8) : runLen l ≤ l.length := takeWhile_le _ _
theorem strLen_le (l : List UInt8) : strLen l ≤ l.length := takeWhile_le _ _
theorem runLen_eq {s : ByteArray} {k : Nat} (hk : k ≤ s.size) (ha : AllP alnumB (s.data.toList.take k))
    (he : ∀ h : k < s.size, alnumB s[k].toNat = false) : runLen s.data.toList = k := prefixLen_eq hk ha he
theorem strLen_from {s : ByteArray} {k : Nat} (h1 : 1 ≤ k) (hk : k ≤ s.size) (ha : AllP plainB ((s.data.toList.take k).drop 1)) (he : ∀ h : k < s.size, plainB s[k].toNat = false) :
    strLen (s.data.toList.drop 1) = k - 1 := by
  have hl : s.data.toList.length = s.size := rfl
  refine takeWhile_len _ _ _ (by rw [List.length_drop]; omega) ?_ ?_
  · intro x hx
    refine ha x ?_
    rw [List.drop_take]; exact hx
  · intro h
    rw [List.length_drop] at h
    have := he (by omega)
    rw [List.getElem_drop]
    simp only [show 1 + (k - 1) = k from by omega]
    exact this

theorem AllP.snocK {p : Int → Bool} {s : ByteArray} {k j : Nat} (h : AllP p ((s.data.toList.take j).drop k)) (h1 : k ≤ j) (hj : j < s.size) (hp : p s[j].toNat = true) :
    AllP p ((s.data.toList.take (j + 1)).drop k) := by
  intro x hx
  rw [take_snoc s j hj, List.drop_append_of_le_length (by simp; have : s.size = s.data.toList.length := rfl; omega)] at hx
  simp only [List.mem_append, List.mem_singleton] at hx
  rcases hx with hx | rfl
  · exact h x hx
  · exact hp
theorem AllP.start (p : Int → Bool) (l : List UInt8) (k : Nat) : AllP p ((l.take k).drop k) := by
  rw [List.drop_of_length_le (by simp; omega)]; exact AllP.nil p
theorem seg_len {p : Int → Bool} {s : ByteArray} {k j : Nat} (h1 : k ≤ j) (hj : j ≤ s.size) (ha : AllP p ((s.data.toList.take j).drop k)) (he : ∀ h : j < s.size, p s[j].toNat = false) :
    ((s.data.toList.drop k).takeWhile fun c => p c.toNat).length = j - k := by
  have hl : s.data.toList.length = s.size := rfl
  refine takeWhile_len _ _ _ (by rw [List.length_drop]; omega) ?_ ?_
  · intro x hx
    refine ha x ?_
    rw [List.drop_take]; exact hx
  · intro h
    rw [List.length_drop] at h
    have := he (by omega)
    rw [List.getElem_drop]
    simp only [show k + (j - k) = j from by omega]
    exact this
end
section
open Go

structure Raw where
  kind : Int
  text : List UInt8
  value : Int

def Raw.bad : Raw := ⟨0, [], 0⟩
/-- The token with which l begins, its length, and the error's number. -/
def lexOne (l : List UInt8) : Raw × Nat × Int :=
  match l with
  | [] => (Raw.bad, 0, 50)
  | c :: r =>
    if letterB c.toNat = true then (⟨1, l.take (runLen l), 0⟩, runLen l, 0)
    else if digitB c.toNat = true then
      if (numeral (l.take (runLen l))).2 = 0 then (⟨2, [], (numeral (l.take (runLen l))).1⟩, runLen l, 0) else (Raw.bad, 0, (numeral (l.take (runLen l))).2)
    else if c.toNat = 34 then
      if (r.drop (strLen r)).head? = some 34 then (⟨3, r.take (strLen r), 0⟩, strLen r + 2, 0) else (Raw.bad, 0, 50)
    else if punctLen l = 0 then (Raw.bad, 0, 50) else (⟨4, l.take (punctLen l), 0⟩, punctLen l, 0)

def Raw.cells (r : Raw) (line col : Int) : Array Value := #[.int .i64 r.kind, .string (str r.text), .int .u64 r.value, .int .i64 line, .int .i64 col]

theorem lexOne_letter {c : UInt8} {r : List UInt8} (h : letterB c.toNat = true) : lexOne (c :: r) = (⟨1, (c :: r).take (runLen (c :: r)), 0⟩, runLen (c :: r), 0) := by
  unfold lexOne; simp only [h, if_true]
theorem lexOne_num {c : UInt8} {r : List UInt8} (h0 : letterB c.toNat = false) (h : digitB c.toNat = true) (h1 : (numeral ((c :: r).take (runLen (c :: r)))).2 = 0) :
    lexOne (c :: r) = (⟨2, [], (numeral ((c :: r).take (runLen (c :: r)))).1⟩, runLen (c :: r), 0) := by
  unfold lexOne; simp only [h0, h, h1, if_true, Bool.false_eq_true, if_false]
theorem lexOne_numbad {c : UInt8} {r : List UInt8} (h0 : letterB c.toNat = false) (h : digitB c.toNat = true) (h1 : ¬ (numeral ((c :: r).take (runLen (c :: r)))).2 = 0) :
    lexOne (c :: r) = (Raw.bad, 0, (numeral ((c :: r).take (runLen (c :: r)))).2) := by
  unfold lexOne; simp only [h0, h, h1, if_true, Bool.false_eq_true, if_false]
theorem lexOne_str {c : UInt8} {r : List UInt8} (h0 : letterB c.toNat = false) (h : digitB c.toNat = false) (h1 : c.toNat = 34) (h2 : (r.drop (strLen r)).head? = some 34) :
    lexOne (c :: r) = (⟨3, r.take (strLen r), 0⟩, strLen r + 2, 0) := by
  simp only [lexOne]; rw [if_neg (by rw [h0]; decide), if_neg (by rw [h]; decide), if_pos h1, if_pos h2]
theorem lexOne_strbad {c : UInt8} {r : List UInt8} (h0 : letterB c.toNat = false) (h : digitB c.toNat = false) (h1 : c.toNat = 34) (h2 : ¬ (r.drop (strLen r)).head? = some 34) :
    lexOne (c :: r) = (Raw.bad, 0, 50) := by
  simp only [lexOne]; rw [if_neg (by rw [h0]; decide), if_neg (by rw [h]; decide), if_pos h1, if_neg h2]
theorem lexOne_bad {c : UInt8} {r : List UInt8} (h0 : letterB c.toNat = false) (h : digitB c.toNat = false) (h1 : ¬ c.toNat = 34) (h2 : punctLen (c :: r) = 0) :
    lexOne (c :: r) = (Raw.bad, 0, 50) := by
  unfold lexOne; simp only [h0, h, h1, h2, if_true, Bool.false_eq_true, if_false]
theorem lexOne_punct {c : UInt8} {r : List UInt8} (h0 : letterB c.toNat = false) (h : digitB c.toNat = false) (h1 : ¬ c.toNat = 34) (h2 : ¬ punctLen (c :: r) = 0) :
    lexOne (c :: r) = (⟨4, (c :: r).take (punctLen (c :: r)), 0⟩, punctLen (c :: r), 0) := by
  unfold lexOne; simp only [h0, h, h1, h2, Bool.false_eq_true, if_false]
theorem punctLen_le (l : List UInt8) : punctLen l ≤ l.length ∧ punctLen l ≤ 2 := by
  unfold punctLen
  split
  · omega
  · split
    · simp
    · split <;> simp
end
section
open Go

structure Tok where
  raw : Raw
  line : Int
  col : Int
def Tok.cells (t : Tok) : Array Value := t.raw.cells t.line t.col
def flat (l : List Tok) : List Value := l.flatMap fun t => t.cells.toList
/-- The tokens, and where an error stands and its number. -/
abbrev Res := List Tok × Option (Int × Int × Int)
def Res.pre (d : List Tok) (r : Res) : Res := (d ++ r.1, r.2)
def cmtLen (l : List UInt8) : Nat := (l.takeWhile fun c => notNl c.toNat).length

def scanF : Nat → List UInt8 → Int → Int → Res
  | 0, _, _, _ => ([], none)
  | _ + 1, [], _, _ => ([], none)
  | n + 1, c :: r, line, col =>
    if c.toNat = 10 then scanF n r (line + 1) 1
    else if c.toNat = 32 ∨ c.toNat = 9 ∨ c.toNat = 13 then scanF n r line (col + 1)
    else if c.toNat = 35 then scanF n (r.drop (cmtLen r)) line (col + 1 + cmtLen r)
    else if (lexOne (c :: r)).2.2 = 0 then Res.pre [⟨(lexOne (c :: r)).1, line, col⟩] (scanF n (r.drop ((lexOne (c :: r)).2.1 - 1)) line (col + (lexOne (c :: r)).2.1))
    else ([], some (line, col, (lexOne (c :: r)).2.2))
def scan (l : List UInt8) (line col : Int) : Res := scanF l.length l line col

theorem scanF_fuel : ∀ (n m : Nat) (l : List UInt8) (line col : Int), l.length ≤ n → l.length ≤ m → scanF n l line col = scanF m l line col
  | 0, m, l, line, col, h, _ => by
    have : l = [] := List.eq_nil_of_length_eq_zero (by omega)
    subst this
    cases m <;> rfl
  | n + 1, 0, l, line, col, _, h => by
    have : l = [] := List.eq_nil_of_length_eq_zero (by omega)
    subst this; rfl
  | n + 1, m + 1, [], line, col, _, _ => rfl
  | n + 1, m + 1, c :: r, line, col, h, g => by
    simp only [List.length_cons] at h g
    simp only [scanF]
    rw [scanF_fuel n m r _ _ (by omega) (by omega), scanF_fuel n m r _ _ (by omega) (by omega), scanF_fuel n m (r.drop (cmtLen r)) _ _ (by rw [List.length_drop]; omega) (by rw [List.length_drop]; omega),
      scanF_fuel n m (r.drop ((lexOne (c :: r)).2.1 - 1)) _ _ (by rw [List.length_drop]; omega) (by rw [List.length_drop]; omega)]

theorem scan_nil (line col : Int) : scan [] line col = ([], none) := rfl
theorem scan_cons (c : UInt8) (r : List UInt8) (line col : Int) : scan (c :: r) line col =
    if c.toNat = 10 then scan r (line + 1) 1
    else if c.toNat = 32 ∨ c.toNat = 9 ∨ c.toNat = 13 then scan r line (col + 1)
    else if c.toNat = 35 then scan (r.drop (cmtLen r)) line (col + 1 + cmtLen r)
    else if (lexOne (c :: r)).2.2 = 0 then Res.pre [⟨(lexOne (c :: r)).1, line, col⟩] (scan (r.drop ((lexOne (c :: r)).2.1 - 1)) line (col + (lexOne (c :: r)).2.1))
    else ([], some (line, col, (lexOne (c :: r)).2.2)) := by
  show scanF (r.length + 1) (c :: r) line col = _
  simp only [scanF]
  rw [scanF_fuel r.length (r.drop (cmtLen r)).length (r.drop (cmtLen r)) _ _ (by rw [List.length_drop]; omega) (Nat.le_refl _),
    scanF_fuel r.length (r.drop ((lexOne (c :: r)).2.1 - 1)).length (r.drop ((lexOne (c :: r)).2.1 - 1)) _ _ (by rw [List.length_drop]; omega) (Nat.le_refl _)]
  rfl

section
variable {s : ByteArray} {k : Nat} {line col : Int}
theorem drop_at (h : k < s.size) : s.data.toList.drop k = s[k] :: s.data.toList.drop (k + 1) := List.drop_eq_getElem_cons (l := s.data.toList) h
theorem scan_nl (h : k < s.size) (hc : s[k].toNat = 10) : scan (s.data.toList.drop k) line col = scan (s.data.toList.drop (k + 1)) (line + 1) 1 := by
  rw [drop_at h, scan_cons, if_pos hc]
theorem scan_ws (h : k < s.size) (hc : s[k].toNat = 32 ∨ s[k].toNat = 9 ∨ s[k].toNat = 13) : scan (s.data.toList.drop k) line col = scan (s.data.toList.drop (k + 1)) line (col + 1) := by
  rw [drop_at h, scan_cons, if_neg (by omega), if_pos hc]
theorem scan_cmt (h : k < s.size) (hc : s[k].toNat = 35) : scan (s.data.toList.drop k) line col = scan (s.data.toList.drop (k + cmtLen (s.data.toList.drop k))) line (col + cmtLen (s.data.toList.drop k)) := by
  rw [drop_at h, scan_cons, if_neg (by omega), if_neg (by omega), if_pos hc, List.drop_drop]
  have e : cmtLen (s[k] :: s.data.toList.drop (k + 1)) = cmtLen (s.data.toList.drop (k + 1)) + 1 := by
    simp only [cmtLen, List.takeWhile_cons, notNl, hc, List.length_cons]; rfl
  rw [e]
  congr 1
  · rw [show k + (cmtLen (s.data.toList.drop (k + 1)) + 1) = k + 1 + cmtLen (s.data.toList.drop (k + 1)) from by omega]
  · omega
theorem scan_err {r : Raw} {n : Nat} {e : Int} (h : k < s.size) (h0 : ¬ s[k].toNat = 10) (h1 : ¬ (s[k].toNat = 32 ∨ s[k].toNat = 9 ∨ s[k].toNat = 13)) (h2 : ¬ s[k].toNat = 35)
    (hl : lexOne (s.data.toList.drop k) = (r, n, e)) (he : ¬ e = 0) : scan (s.data.toList.drop k) line col = ([], some (line, col, e)) := by
  rw [drop_at h] at hl ⊢
  rw [scan_cons, if_neg h0, if_neg h1, if_neg h2, hl, if_neg he]
theorem scan_tok {r : Raw} {n : Nat} {e : Int} (h : k < s.size) (h0 : ¬ s[k].toNat = 10) (h1 : ¬ (s[k].toNat = 32 ∨ s[k].toNat = 9 ∨ s[k].toNat = 13)) (h2 : ¬ s[k].toNat = 35)
    (hl : lexOne (s.data.toList.drop k) = (r, n, e)) (he : e = 0) (hn : 1 ≤ n) : scan (s.data.toList.drop k) line col = Res.pre [⟨r, line, col⟩] (scan (s.data.toList.drop (k + n)) line (col + n)) := by
  rw [drop_at h] at hl ⊢
  rw [scan_cons, if_neg h0, if_neg h1, if_neg h2, hl, if_pos he, List.drop_drop]
  rw [show k + 1 + (n - 1) = k + n from by omega]
end
theorem pre_pre (a b : List Tok) (r : Res) : Res.pre a (Res.pre b r) = Res.pre (a ++ b) r := by simp [Res.pre]
theorem pre_end (d : List Tok) : Res.pre d ([], none) = (d, none) := by simp [Res.pre]
theorem flat_snoc (d : List Tok) (t : Tok) : flat (d ++ [t]) = flat d ++ t.cells.toList := by simp [flat]
/-- What Scan returns: the tokens, and the position and the number of the error. -/
def scanRes (l : List UInt8) : List Tok × Int × Int × Int :=
  if 65536 < l.length then ([], 0, 0, 15) else
    match scan l 1 1 with
    | (d, none) => (d, 0, 0, 0)
    | (_, some (a, b, e)) => ([], a, b, e)
theorem scanRes_ok {l : List UInt8} {d : List Tok} (h : ¬ 65536 < l.length) (hs : scan l 1 1 = (d, none)) : scanRes l = (d, 0, 0, 0) := by
  unfold scanRes; rw [if_neg h, hs]
theorem scanRes_err {l : List UInt8} {d : List Tok} {a b e : Int} (h : ¬ 65536 < l.length) (hs : scan l 1 1 = (d, some (a, b, e))) : scanRes l = ([], a, b, e) := by
  unfold scanRes; rw [if_neg h, hs]
theorem scanRes_long {l : List UInt8} (h : 65536 < l.length) : scanRes l = ([], 0, 0, 15) := by
  unfold scanRes; rw [if_pos h]

theorem runLen_pos {c : UInt8} {r : List UInt8} (h : alnumB c.toNat = true) : 0 < runLen (c :: r) := by
  simp only [runLen, List.takeWhile_cons, h, if_true, List.length_cons]; omega
/-- A token has a byte, and no more bytes than there are. -/
theorem lexOne_len (l : List UInt8) (h : (lexOne l).2.2 = 0) : 1 ≤ (lexOne l).2.1 ∧ (lexOne l).2.1 ≤ l.length := by
  cases l with
  | nil => exact absurd h (by decide)
  | cons c r =>
    have h0 := runLen_le (c :: r)
    rcases Bool.eq_false_or_eq_true (letterB c.toNat) with h1 | h1
    · have := runLen_pos (c := c) (r := r) (by simp [alnumB, h1])
      rw [lexOne_letter h1]; exact ⟨this, h0⟩
    · rcases Bool.eq_false_or_eq_true (digitB c.toNat) with h2 | h2
      · have := runLen_pos (c := c) (r := r) (by simp [alnumB, h2])
        by_cases h3 : (numeral ((c :: r).take (runLen (c :: r)))).2 = 0
        · rw [lexOne_num h1 h2 h3]; exact ⟨this, h0⟩
        · rw [lexOne_numbad h1 h2 h3] at h; exact absurd h h3
      · by_cases h3 : c.toNat = 34
        · by_cases h4 : (r.drop (strLen r)).head? = some 34
          · rw [lexOne_str h1 h2 h3 h4]
            rw [List.head?_drop] at h4
            have := (List.getElem?_eq_some_iff.1 h4).1
            simp only [List.length_cons]
            omega
          · rw [lexOne_strbad h1 h2 h3 h4] at h; exact absurd h (by decide)
        · have h5 := punctLen_le (c :: r)
          by_cases h4 : punctLen (c :: r) = 0
          · rw [lexOne_bad h1 h2 h3 h4] at h; exact absurd h (by decide)
          · rw [lexOne_punct h1 h2 h3 h4]; simp only; omega
end
end Go.Proofs.YtgeeklgojjcdmaaDoor
