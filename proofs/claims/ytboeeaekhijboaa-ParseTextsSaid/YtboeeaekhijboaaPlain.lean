/- Which texts are just one token: plain laws of layer 3. -/
import Derived.Test.YtboeeaekhijboaaLexSpec
import Derived.Test.YtboeeaekhijboaaFirst
namespace Go.Proofs.Ytboeeaekhijboaa
open Go.RowKit

def wordB (s : ByteArray) : Bool := match s.data.toList with
  | [] => false
  | c :: r => decide (s.size ≤ 30) && (isLetter c && decide (runLen isInner (c :: r) = s.size))
def numB (s : ByteArray) : Bool := decide (0 < s.size) && (decide (s.size ≤ 9) && decide (runLen isDigit s.data.toList = s.size))

def OneTok (s : ByteArray) (kd : Int) : Prop := 0 < s.size ∧ skipLen s.data.toList false = 0 ∧ firstOf s.data.toList = (kd, s.size) ∧ tooLong (kd, s.size) = false

theorem one_of (s : ByteArray) (kd : Int) (h : OneTok s kd) : lexG s (s.size + 1) 0 false = ([(kd, s, 0)], none) := by
  obtain ⟨h0, h1, h2, h3⟩ := h
  have e1 := lexG_tok s s.size 0 false 0 s.size (by simp [h1]) (by omega) (by simp [h2]) (by omega) (by simpa [h2] using h3)
  obtain ⟨f, hf⟩ : ∃ f, s.size = f + 1 := ⟨s.size - 1, by omega⟩
  have hd : s.data.toList.drop s.size = [] := List.drop_eq_nil_of_le (by simp)
  have e2 : lexG s s.size s.size false = ([], none) := by
    have : lexG s (f + 1) s.size false = ([], none) := lexG_end s f s.size false s.size (by simp [hd, skipLen]) rfl
    rw [← hf] at this
    exact this
  rw [e1]
  simp only [List.drop_zero, Nat.zero_add, h2]
  rw [e2]
  simp

theorem of_one (s : ByteArray) (kd : Int) (t : Tok) (h : lexG s (s.size + 1) 0 false = ([t], none)) (hk : t.1 = kd) (hs : t.2.1 = s) : OneTok s kd := by
  obtain ⟨a, ha⟩ : ∃ a, 0 + skipLen (s.data.toList.drop 0) false = a := ⟨_, rfl⟩
  by_cases h1 : a = s.size
  · rw [lexG_end s s.size 0 false a ha h1] at h; simp at h
  · by_cases h2 : (firstOf (s.data.toList.drop a)).2 = 0
    · rw [lexG_form s s.size 0 false a ha h1 h2] at h; simp at h
    · by_cases h3 : tooLong (firstOf (s.data.toList.drop a)) = true
      · rw [lexG_long s s.size 0 false a _ ha h1 rfl h2 h3] at h; simp at h
      · rw [lexG_tok s s.size 0 false a _ ha h1 rfl h2 (by simpa using h3)] at h
        have hal : a ≤ s.size := by
          have := skipLen_le s.data.toList false
          rw [List.drop_zero] at ha
          simp at this
          omega
        have hn := firstOf_le (s.data.toList.drop a)
        simp only [List.length_drop, Array.length_toList] at hn
        obtain ⟨hh, -⟩ := Prod.mk.inj h
        have ht := (List.cons.inj hh).1
        subst ht
        have hz := congrArg ByteArray.size hs
        simp only [ByteArray.size_extract] at hz
        have hn' : (firstOf (s.data.toList.drop a)).2 ≤ s.size - a := hn
        have ea : a = 0 := by omega
        subst ea
        have en : (firstOf s.data.toList).2 = s.size := by
          rw [List.drop_zero] at hz hn' 
          omega
        refine ⟨by omega, by simpa using ha, ?_, ?_⟩
        · rw [← hk, ← en]; simp
        · rw [← hk, ← en]; simpa using h3

theorem letter_plain (c : UInt8) (h : isLetter c = true) : isBlank c = false ∧ c ≠ 35 ∧ isDigit c = false := by
  have ne : ∀ k : UInt8, isLetter k = false → c ≠ k := fun k hk e => by rw [e, hk] at h; cases h
  refine ⟨?_, ne 35 (by decide), ?_⟩
  · have h1 := ne 32 (by decide)
    have h2 := ne 9 (by decide)
    have h3 := ne 10 (by decide)
    have h4 := ne 13 (by decide)
    simp [isBlank, h1, h2, h3, h4]
  · simp [isLetter] at h
    simp [isDigit]
    omega
theorem digit_plain (c : UInt8) (h : isDigit c = true) : isBlank c = false ∧ c ≠ 35 ∧ isLetter c = false := by
  have ne : ∀ k : UInt8, isDigit k = false → c ≠ k := fun k hk e => by rw [e, hk] at h; cases h
  refine ⟨?_, ne 35 (by decide), ?_⟩
  · have h1 := ne 32 (by decide)
    have h2 := ne 9 (by decide)
    have h3 := ne 10 (by decide)
    have h4 := ne 13 (by decide)
    simp [isBlank, h1, h2, h3, h4]
  · simp [isDigit] at h
    simp [isLetter]
    omega

theorem skip_zero (c : UInt8) (r : List UInt8) (h1 : isBlank c = false) (h2 : c ≠ 35) : skipLen (c :: r) false = 0 := by
  simp [skipLen, h1, h2]

theorem word_one (s : ByteArray) : wordB s = true ↔ OneTok s 1 := by
  unfold wordB OneTok
  have hlen : s.data.toList.length = s.size := by simp
  cases hl : s.data.toList with
  | nil => rw [hl] at hlen; simp at hlen; simp; omega
  | cons c r =>
    rw [hl] at hlen
    simp only [List.length_cons] at hlen
    constructor
    · intro h
      simp only [Bool.and_eq_true, decide_eq_true_eq] at h
      obtain ⟨h1, h2, h3⟩ := h
      obtain ⟨p1, p2, p3⟩ := letter_plain c h2
      refine ⟨by omega, skip_zero c r p1 p2, ?_, ?_⟩
      · simp [firstOf, h2, h3]
      · simp [tooLong]; omega
    · rintro ⟨h0, h1, h2, h3⟩
      simp only [firstOf] at h2
      simp [tooLong] at h3
      split at h2
      · rename_i hc
        have h4 := (Prod.mk.inj h2).2
        simp [hc, h4, h3]
      · split at h2
        · simp at h2
        · simp at h2

theorem num_one (s : ByteArray) : numB s = true ↔ OneTok s 2 := by
  unfold numB OneTok
  have hlen : s.data.toList.length = s.size := by simp
  cases hl : s.data.toList with
  | nil => rw [hl] at hlen; simp at hlen; simp; omega
  | cons c r =>
    rw [hl] at hlen
    simp only [List.length_cons] at hlen
    constructor
    · intro h
      simp only [Bool.and_eq_true, decide_eq_true_eq] at h
      obtain ⟨h1, h2, h3⟩ := h
      have hc : isDigit c = true := by
        cases hd : isDigit c with
        | true => rfl
        | false => simp [runLen, hd] at h3; omega
      obtain ⟨p1, p2, p3⟩ := digit_plain c hc
      refine ⟨by omega, skip_zero c r p1 p2, ?_, ?_⟩
      · simp [firstOf, p3, hc, h3]
      · simp [tooLong]; omega
    · rintro ⟨h0, h1, h2, h3⟩
      simp only [firstOf] at h2
      simp [tooLong] at h3
      split at h2
      · simp at h2
      · split at h2
        · have h4 := (Prod.mk.inj h2).2
          simp [h0, h4, h3]
        · simp at h2

theorem not_both (s : ByteArray) (h : OneTok s 1) (h2 : OneTok s 2) : False := by
  have := h.2.2.1.symm.trans h2.2.2.1
  simp at this

/-- what the reference's 'Is' tells -/
def isT (T : List Tok × Option Flt) (s : ByteArray) (kd : Int) : Bool := match T with
  | ([t], none) => (t.1 == kd) && (t.2.1.toList == s.toList)
  | _ => false
def isB (s : ByteArray) (kd : Int) : Bool := isT (lexG s (s.size + 1) 0 false) s kd

theorem bytes_eq {a b : ByteArray} (h : a.toList = b.toList) : a = b := by
  rw [Lib.toList_data, Lib.toList_data] at h
  cases a; cases b
  congr 1
  exact Array.ext' h

theorem isB_one (s : ByteArray) (kd : Int) : isB s kd = true ↔ OneTok s kd := by
  constructor
  · intro h
    unfold isB isT at h
    split at h
    · rename_i t ht
      simp only [Bool.and_eq_true, beq_iff_eq] at h
      exact of_one s kd t ht h.1 (bytes_eq h.2)
    · cases h
  · intro h
    unfold isB
    rw [one_of s kd h]
    simp [isT]

theorem isB_word (s : ByteArray) : isB s 1 = wordB s := by
  rw [Bool.eq_iff_iff, isB_one, word_one]
theorem isB_num (s : ByteArray) : isB s 2 = numB s := by
  rw [Bool.eq_iff_iff, isB_one, num_one]
theorem num_not_word (s : ByteArray) (h : numB s = true) : wordB s = false := by
  cases hw : wordB s with
  | false => rfl
  | true => exact (not_both s ((word_one s).1 hw) ((num_one s).1 h)).elim
end Go.Proofs.Ytboeeaekhijboaa
