/- Layer 3 in plain words: what a text's tokens are. No program in sight. -/
import Derived.Test.YtboeeaekhijboaaScan
import Derived.Lib.Bytealg
namespace Go.Proofs.Ytboeeaekhijboaa
open Go.RowKit

def signs : List UInt8 := [40, 41, 92, 46, 44, 59, 58, 61, 62, 60, 91, 93, 123, 125, 33, 63, 64]
def isSign (c : UInt8) : Bool := signs.contains c
/-- how many bytes the first sign has; 0: there is none -/
def signLen : List UInt8 → Nat
  | [] => 0
  | c :: r => if Lib.hasPrefix (c :: r) [45, 62] = true then 2 else if isSign c = true then 1 else 0
/-- the first token's kind, and how many bytes it has; 0: there is none -/
def firstOf : List UInt8 → Int × Nat
  | [] => (3, 0)
  | c :: r => if isLetter c = true then (1, runLen isInner (c :: r)) else if isDigit c = true then (2, runLen isDigit (c :: r)) else (3, signLen (c :: r))
def isBlank (c : UInt8) : Bool := c == 32 || (c == 9 || (c == 10 || c == 13))
/-- how many bytes of blanks and remarks there are ahead; the flag: a remark has begun -/
def skipLen : List UInt8 → Bool → Nat
  | [], _ => 0
  | c :: r, true => if c = 10 then skipLen r false + 1 else skipLen r true + 1
  | c :: r, false => if isBlank c = true then skipLen r false + 1 else if c = 35 then skipLen r true + 1 else 0
def headOf (s : ByteArray) : ByteArray := s.extract 0 (min s.size 10)
def vis (c : UInt8) : ByteArray := if c.toNat < 33 ∨ 126 < c.toNat then ⟨#[]⟩ else ⟨#[c]⟩

theorem skipLen_le (l : List UInt8) (b : Bool) : skipLen l b ≤ l.length := by
  induction l generalizing b with
  | nil => simp [skipLen]
  | cons c r ih =>
    have h1 := ih true
    have h2 := ih false
    cases b <;> simp only [skipLen] <;> (repeat' split) <;> simp <;> omega

theorem signLen_le (l : List UInt8) : signLen l ≤ l.length := by
  cases l with
  | nil => simp [signLen]
  | cons c r =>
    simp only [signLen]
    split
    · rename_i h
      cases r with
      | nil => simp [Lib.hasPrefix, List.isPrefixOf] at h
      | cons d t => simp
    · split <;> simp

theorem firstOf_le (l : List UInt8) : (firstOf l).2 ≤ l.length := by
  cases l with
  | nil => simp [firstOf]
  | cons c r =>
    simp only [firstOf]
    split
    · exact runLen_le _ _
    · split
      · exact runLen_le _ _
      · show signLen (c :: r) ≤ _
        exact signLen_le _

theorem indexByte_pos (l : List UInt8) (c : UInt8) : (0 ≤ Lib.indexByte l c) ↔ l.contains c = true := by
  induction l with
  | nil => simp [Lib.indexByte]
  | cons b r ih =>
    have hge := Lib.indexByte_ge r c
    simp only [Lib.indexByte, List.contains_cons]
    by_cases h : b == c
    · have e := beq_iff_eq.1 h
      subst e
      simp
    · have hc : (c == b) = false := by
        cases hx : c == b
        · rfl
        · exact absurd (by simp [beq_iff_eq.1 hx]) h
      simp only [h, hc, Bool.false_or]
      by_cases h2 : Lib.indexByte r c == -1
      · have e2 := beq_iff_eq.1 h2
        rw [if_pos h2]
        rw [e2] at ih
        exact ⟨fun h => by simp at h, fun h => by have := ih.2 h; omega⟩
      · rw [if_neg h2]
        have : Lib.indexByte r c ≠ -1 := fun e => h2 (by rw [e]; rfl)
        constructor
        · intro _; exact ih.1 (by omega)
        · intro _; omega

/-- where there is a line's end, a remark ends there -/
theorem skip_remark (l : List UInt8) (n : Nat) (h : Lib.indexByte l 10 = n) : n < l.length ∧ skipLen l true = n + skipLen (l.drop n) false := by
  induction l generalizing n with
  | nil => simp [Lib.indexByte] at h
  | cons b r ih =>
    simp only [Lib.indexByte] at h
    by_cases hb : b == 10
    · rw [if_pos hb] at h
      have e : n = 0 := by omega
      subst e
      have e2 : b = 10 := by simpa using hb
      subst e2
      exact ⟨by simp, by simp [skipLen, isBlank]⟩
    · rw [if_neg hb] at h
      by_cases h2 : Lib.indexByte r 10 == -1
      · rw [if_pos h2] at h
        omega
      · rw [if_neg h2] at h
        have hge := Lib.indexByte_ge r 10
        have h3 : Lib.indexByte r 10 ≠ -1 := fun e => h2 (by rw [e]; rfl)
        obtain ⟨m, hm⟩ := Int.eq_ofNat_of_zero_le (show 0 ≤ Lib.indexByte r 10 by omega)
        obtain ⟨i1, i2⟩ := ih m hm
        have e : n = m + 1 := by rw [hm] at h; omega
        subst e
        have hb' : b ≠ 10 := by simpa using hb
        refine ⟨by simp; omega, ?_⟩
        simp only [skipLen, if_neg hb', List.drop_succ_cons]
        omega

theorem skip_remark_none (l : List UInt8) (h : Lib.indexByte l 10 < 0) : skipLen l true = l.length := by
  induction l with
  | nil => rfl
  | cons b r ih =>
    simp only [Lib.indexByte] at h
    by_cases hb : b == 10
    · rw [if_pos hb] at h; omega
    · rw [if_neg hb] at h
      have hge := Lib.indexByte_ge r 10
      have hb' : b ≠ 10 := by simpa using hb
      by_cases h2 : Lib.indexByte r 10 == -1
      · have e2 : Lib.indexByte r 10 = -1 := by simpa using h2
        simp only [skipLen, if_neg hb', List.length_cons]
        rw [ih (by omega)]
      · rw [if_neg h2] at h
        omega

theorem index_cons (c : UInt8) (r : List UInt8) (h : c ≠ 10) : Lib.indexByte (c :: r) 10 = if Lib.indexByte r 10 == -1 then -1 else Lib.indexByte r 10 + 1 := by
  have : (c == 10) = false := by simpa using h
  simp [Lib.indexByte, this]

/-- a remark's first byte and all up to the line's end -/
theorem skip_hash (r : List UInt8) (n : Nat) (h : Lib.indexByte (35 :: r) 10 = n) : 0 < n ∧ n < (35 :: r).length ∧ skipLen (35 :: r) false = n + skipLen ((35 :: r).drop n) false := by
  have h1 := skip_remark (35 :: r) n h
  have e : skipLen (35 :: r) true = skipLen (35 :: r) false := by simp [skipLen, isBlank]
  rw [e] at h1
  have hn : n ≠ 0 := by
    rintro rfl
    rw [index_cons _ _ (by decide)] at h
    have := Lib.indexByte_ge r 10
    split at h
    · omega
    · rename_i h2
      have : Lib.indexByte r 10 ≠ -1 := fun e => h2 (by rw [e]; rfl)
      omega
  exact ⟨by omega, h1⟩

theorem skip_hash_none (r : List UInt8) (h : Lib.indexByte (35 :: r) 10 < 0) : skipLen (35 :: r) false = (35 :: r).length := by
  rw [← skip_remark_none _ h]
  simp [skipLen, isBlank]

end Go.Proofs.Ytboeeaekhijboaa
