/- The base of layer 1's texts: hidden facts, bytes of a text, where its lines end. -/
import Derived.Test.YtcabkkfehdcagaaDoorProg
import Derived.WalkKit
import Derived.Handy
import Derived.Below
import Derived.BigQuiet
import Derived.Lib.Bytealg
import Derived.Lib.PathFns
import Derived.Lib.Strings
namespace Go.Proofs.YtcabkkfehdcagaaDoor
open Go.RowKit

theorem hide {p : Prop} (h : p) : Hid p := h
theorem ret_bool {a b : Bool} (h : a = b) : Ending.returned (.bool a) = .returned (.bool b) := by rw [h]
theorem ret_int {a b : Int} (h : a = b) : Ending.returned (.int .i64 a) = .returned (.int .i64 b) := by rw [h]

def isLetter (c : UInt8) : Bool := (decide (97 ≤ c.toNat) && decide (c.toNat ≤ 122)) || (decide (65 ≤ c.toNat) && decide (c.toNat ≤ 90))
def isDigit (c : UInt8) : Bool := decide (48 ≤ c.toNat) && decide (c.toNat ≤ 57)
def isInner (c : UInt8) : Bool := isLetter c || (isDigit c || (c.toNat == 95 || c.toNat == 39))

/-- the length of the longest front of which each byte is such -/
def runLen (p : UInt8 → Bool) : List UInt8 → Nat
  | [] => 0
  | c :: r => if p c = true then runLen p r + 1 else 0

theorem runLen_le (p : UInt8 → Bool) (l : List UInt8) : runLen p l ≤ l.length := by
  induction l with
  | nil => simp [runLen]
  | cons c r ih => simp only [runLen]; split <;> simp; omega

theorem bs_get (s : ByteArray) (k : Nat) (h : k < s.size) : s.data.toList.drop k = s[k] :: s.data.toList.drop (k + 1) := by
  have : k < s.data.toList.length := by simpa using h
  rw [List.drop_eq_getElem_cons this]
  rfl

theorem runLen_at (p : UInt8 → Bool) (s : ByteArray) (k : Nat) (h : k < s.size) :
    runLen p (s.data.toList.drop k) = if p s[k] = true then runLen p (s.data.toList.drop (k + 1)) + 1 else 0 := by
  rw [bs_get s k h]; rfl

def signs : List UInt8 := [40, 41, 92, 46, 44, 59, 58, 61, 62, 60, 91, 93, 123, 125, 33, 63, 64]
def isSign (c : UInt8) : Bool := signs.contains c
/-- how many bytes the first sign has; 0: there is none -/
def signLen : List UInt8 → Nat
  | [] => 0
  | c :: r => if Lib.hasPrefix (c :: r) [45, 62] = true then 2 else if isSign c = true then 1 else 0
/-- the first token's kind, and how many bytes it has; 0: there is none -/
def firstOf : List UInt8 → Int × Nat
  | [] => (3, 0)
  | c :: r => if isLetter c = true then (1, runLen isInner (c :: r)) else if isDigit c = true then (2, runLen isDigit (c :: r)) else (3, signLen (c :: r))
def isBlank (c : UInt8) : Bool := c == 32 || (c == 9 || (c == 10 || c == 13))
/-- how many bytes of blanks and remarks there are ahead; the flag: a remark has begun -/
def skipLen : List UInt8 → Bool → Nat
  | [], _ => 0
  | c :: r, true => if c = 10 then skipLen r false + 1 else skipLen r true + 1
  | c :: r, false => if isBlank c = true then skipLen r false + 1 else if c = 35 then skipLen r true + 1 else 0
def headOf (s : ByteArray) : ByteArray := s.extract 0 (min s.size 10)
def vis (c : UInt8) : ByteArray := if c.toNat < 33 ∨ 126 < c.toNat then ⟨#[]⟩ else ⟨#[c]⟩

theorem skipLen_le (l : List UInt8) (b : Bool) : skipLen l b ≤ l.length := by
  induction l generalizing b with
  | nil => simp [skipLen]
  | cons c r ih =>
    have h1 := ih true
    have h2 := ih false
    cases b <;> simp only [skipLen] <;> (repeat' split) <;> simp <;> omega

theorem signLen_le (l : List UInt8) : signLen l ≤ l.length := by
  cases l with
  | nil => simp [signLen]
  | cons c r =>
    simp only [signLen]
    split
    · rename_i h
      cases r with
      | nil => simp [Lib.hasPrefix, List.isPrefixOf] at h
      | cons d t => simp
    · split <;> simp

theorem firstOf_le (l : List UInt8) : (firstOf l).2 ≤ l.length := by
  cases l with
  | nil => simp [firstOf]
  | cons c r =>
    simp only [firstOf]
    split
    · exact runLen_le _ _
    · split
      · exact runLen_le _ _
      · show signLen (c :: r) ≤ _
        exact signLen_le _

theorem indexByte_pos (l : List UInt8) (c : UInt8) : (0 ≤ Lib.indexByte l c) ↔ l.contains c = true := by
  induction l with
  | nil => simp [Lib.indexByte]
  | cons b r ih =>
    have hge := Lib.indexByte_ge r c
    simp only [Lib.indexByte, List.contains_cons]
    by_cases h : b == c
    · have e := beq_iff_eq.1 h
      subst e
      simp
    · have hc : (c == b) = false := by
        cases hx : c == b
        · rfl
        · exact absurd (by simp [beq_iff_eq.1 hx]) h
      simp only [h, hc, Bool.false_or]
      by_cases h2 : Lib.indexByte r c == -1
      · have e2 := beq_iff_eq.1 h2
        rw [if_pos h2]
        rw [e2] at ih
        exact ⟨fun h => by simp at h, fun h => by have := ih.2 h; omega⟩
      · rw [if_neg h2]
        have : Lib.indexByte r c ≠ -1 := fun e => h2 (by rw [e]; rfl)
        constructor
        · intro _; exact ih.1 (by omega)
        · intro _; omega

/-- where there is a line's end, a remark ends there -/
theorem skip_remark (l : List UInt8) (n : Nat) (h : Lib.indexByte l 10 = n) : n < l.length ∧ skipLen l true = n + skipLen (l.drop n) false := by
  induction l generalizing n with
  | nil => simp [Lib.indexByte] at h
  | cons b r ih =>
    simp only [Lib.indexByte] at h
    by_cases hb : b == 10
    · rw [if_pos hb] at h
      have e : n = 0 := by omega
      subst e
      have e2 : b = 10 := by simpa using hb
      subst e2
      exact ⟨by simp, by simp [skipLen, isBlank]⟩
    · rw [if_neg hb] at h
      by_cases h2 : Lib.indexByte r 10 == -1
      · rw [if_pos h2] at h
        omega
      · rw [if_neg h2] at h
        have hge := Lib.indexByte_ge r 10
        have h3 : Lib.indexByte r 10 ≠ -1 := fun e => h2 (by rw [e]; rfl)
        obtain ⟨m, hm⟩ := Int.eq_ofNat_of_zero_le (show 0 ≤ Lib.indexByte r 10 by omega)
        obtain ⟨i1, i2⟩ := ih m hm
        have e : n = m + 1 := by rw [hm] at h; omega
        subst e
        have hb' : b ≠ 10 := by simpa using hb
        refine ⟨by simp; omega, ?_⟩
        simp only [skipLen, if_neg hb', List.drop_succ_cons]
        omega

theorem skip_remark_none (l : List UInt8) (h : Lib.indexByte l 10 < 0) : skipLen l true = l.length := by
  induction l with
  | nil => rfl
  | cons b r ih =>
    simp only [Lib.indexByte] at h
    by_cases hb : b == 10
    · rw [if_pos hb] at h; omega
    · rw [if_neg hb] at h
      have hge := Lib.indexByte_ge r 10
      have hb' : b ≠ 10 := by simpa using hb
      by_cases h2 : Lib.indexByte r 10 == -1
      · have e2 : Lib.indexByte r 10 = -1 := by simpa using h2
        simp only [skipLen, if_neg hb', List.length_cons]
        rw [ih (by omega)]
      · rw [if_neg h2] at h
        omega

theorem index_cons (c : UInt8) (r : List UInt8) (h : c ≠ 10) : Lib.indexByte (c :: r) 10 = if Lib.indexByte r 10 == -1 then -1 else Lib.indexByte r 10 + 1 := by
  have : (c == 10) = false := by simpa using h
  simp [Lib.indexByte, this]

/-- a remark's first byte and all up to the line's end -/
theorem skip_hash (r : List UInt8) (n : Nat) (h : Lib.indexByte (35 :: r) 10 = n) : 0 < n ∧ n < (35 :: r).length ∧ skipLen (35 :: r) false = n + skipLen ((35 :: r).drop n) false := by
  have h1 := skip_remark (35 :: r) n h
  have e : skipLen (35 :: r) true = skipLen (35 :: r) false := by simp [skipLen, isBlank]
  rw [e] at h1
  have hn : n ≠ 0 := by
    rintro rfl
    rw [index_cons _ _ (by decide)] at h
    have := Lib.indexByte_ge r 10
    split at h
    · omega
    · rename_i h2
      have : Lib.indexByte r 10 ≠ -1 := fun e => h2 (by rw [e]; rfl)
      omega
  exact ⟨by omega, h1⟩

theorem skip_hash_none (r : List UInt8) (h : Lib.indexByte (35 :: r) 10 < 0) : skipLen (35 :: r) false = (35 :: r).length := by
  rw [← skip_remark_none _ h]
  simp [skipLen, isBlank]

theorem flip {P : Program} {f : FuncId} {args : Array Value} {w : World} {v : Value} (h : Calls P f args w fun e w' => e = .returned v ∧ w' = w) :
    Calls P f args w fun e w' => e = .returned v ∧ w = w' := h.mono fun _ _ ⟨h1, h2⟩ => ⟨h1, h2.symm⟩

theorem bs_cons (s : ByteArray) (h : 0 < s.size) : s.data.toList = s[0] :: s.data.toList.drop 1 := by
  have := bs_get s 0 h
  simpa using this

theorem nonempty (s : ByteArray) (h : 0 < s.size) : s.toList.isEmpty = false ∧ ¬ s.toList = [] := by
  rw [Lib.toList_data]
  have e : s.data.toList ≠ [] := by
    intro e
    have h2 : s.data.toList.length = 0 := by rw [e]; rfl
    have h3 : s.data.toList.length = s.size := by simp
    omega
  exact ⟨by cases hx : s.data.toList with
    | nil => exact absurd hx e
    | cons a b => rfl, e⟩

theorem empty_of (s : ByteArray) (h : ¬ 0 < s.size) : s.toList.isEmpty = true ∧ s.toList = [] ∧ s.data.toList = [] := by
  have e : s.data.toList = [] := by
    apply List.eq_nil_of_length_eq_zero
    have h3 : s.data.toList.length = s.size := by simp
    omega
  rw [Lib.toList_data, e]
  exact ⟨rfl, rfl, rfl⟩

end Go.Proofs.YtcabkkfehdcagaaDoor
