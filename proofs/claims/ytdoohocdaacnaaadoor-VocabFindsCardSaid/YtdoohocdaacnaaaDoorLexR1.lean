/- The document's scanner in plain words. -/
import Derived.Test.YtdoohocdaacnaaaDoorWord
import Derived.Lib.Bytealg
import Derived.Lib.PathFns
namespace Go.Proofs.YtdoohocdaacnaaaDoor.R
open Go.RowKit
set_option linter.unusedVariables false
set_option linter.unusedSimpArgs false


def signs : List UInt8 := [40, 41, 92, 46, 44, 59, 58, 61, 62, 60, 91, 93, 123, 125, 33, 63, 64]
def isSign (c : UInt8) : Bool := signs.contains c
/-- how many bytes the first sign has; 0: there is none -/
def signLen : List UInt8 → Nat
  | [] => 0
  | c :: r => if Lib.hasPrefix (c :: r) [45, 62] = true then 2 else if isSign c = true then 1 else 0
/-- the first token's kind, and how many bytes it has; 0: there is none -/
def firstOf : List UInt8 → Int × Nat
  | [] => (3, 0)
  | c :: r => if isLetter c = true then (1, runLen isInner (c :: r)) else if isDigit c = true then (2, runLen isDigit (c :: r)) else (3, signLen (c :: r))
def isBlank (c : UInt8) : Bool := c == 32 || (c == 9 || (c == 10 || c == 13))
/-- how many bytes of blanks and remarks there are ahead; the flag: a remark has begun -/
def skipLen : List UInt8 → Bool → Nat
  | [], _ => 0
  | c :: r, true => if c = 10 then skipLen r false + 1 else skipLen r true + 1
  | c :: r, false => if isBlank c = true then skipLen r false + 1 else if c = 35 then skipLen r true + 1 else 0
def headOf (s : ByteArray) : ByteArray := s.extract 0 (min s.size 10)
def vis (c : UInt8) : ByteArray := if c.toNat < 33 ∨ 126 < c.toNat then ⟨#[]⟩ else ⟨#[c]⟩

theorem skipLen_le (l : List UInt8) (b : Bool) : skipLen l b ≤ l.length := by
  induction l generalizing b with
  | nil => simp [skipLen]
  | cons c r ih =>
    have h1 := ih true
    have h2 := ih false
    cases b <;> simp only [skipLen] <;> (repeat' split) <;> simp <;> omega

theorem signLen_le (l : List UInt8) : signLen l ≤ l.length := by
  cases l with
  | nil => simp [signLen]
  | cons c r =>
    simp only [signLen]
    split
    · rename_i h
      cases r with
      | nil => simp [Lib.hasPrefix, List.isPrefixOf] at h
      | cons d t => simp
    · split <;> simp

theorem firstOf_le (l : List UInt8) : (firstOf l).2 ≤ l.length := by
  cases l with
  | nil => simp [firstOf]
  | cons c r =>
    simp only [firstOf]
    split
    · exact runLen_le _ _
    · split
      · exact runLen_le _ _
      · show signLen (c :: r) ≤ _
        exact signLen_le _

theorem indexByte_pos (l : List UInt8) (c : UInt8) : (0 ≤ Lib.indexByte l c) ↔ l.contains c = true := by
  induction l with
  | nil => simp [Lib.indexByte]
  | cons b r ih =>
    have hge := Lib.indexByte_ge r c
    simp only [Lib.indexByte, List.contains_cons]
    by_cases h : b == c
    · have e := beq_iff_eq.1 h
      subst e
      simp
    · have hc : (c == b) = false := by
        cases hx : c == b
        · rfl
        · exact absurd (by simp [beq_iff_eq.1 hx]) h
      simp only [h, hc, Bool.false_or]
      by_cases h2 : Lib.indexByte r c == -1
      · have e2 := beq_iff_eq.1 h2
        rw [if_pos h2]
        rw [e2] at ih
        exact ⟨fun h => by simp at h, fun h => by have := ih.2 h; omega⟩
      · rw [if_neg h2]
        have : Lib.indexByte r c ≠ -1 := fun e => h2 (by rw [e]; rfl)
        constructor
        · intro _; exact ih.1 (by omega)
        · intro _; omega

/-- where there is a line's end, a remark ends there -/
theorem skip_remark (l : List UInt8) (n : Nat) (h : Lib.indexByte l 10 = n) : n < l.length ∧ skipLen l true = n + skipLen (l.drop n) false := by
  induction l generalizing n with
  | nil => simp [Lib.indexByte] at h
  | cons b r ih =>
    simp only [Lib.indexByte] at h
    by_cases hb : b == 10
    · rw [if_pos hb] at h
      have e : n = 0 := by omega
      subst e
      have e2 : b = 10 := by simpa using hb
      subst e2
      exact ⟨by simp, by simp [skipLen, isBlank]⟩
    · rw [if_neg hb] at h
      by_cases h2 : Lib.indexByte r 10 == -1
      · rw [if_pos h2] at h
        omega
      · rw [if_neg h2] at h
        have hge := Lib.indexByte_ge r 10
        have h3 : Lib.indexByte r 10 ≠ -1 := fun e => h2 (by rw [e]; rfl)
        obtain ⟨m, hm⟩ := Int.eq_ofNat_of_zero_le (show 0 ≤ Lib.indexByte r 10 by omega)
        obtain ⟨i1, i2⟩ := ih m hm
        have e : n = m + 1 := by rw [hm] at h; omega
        subst e
        have hb' : b ≠ 10 := by simpa using hb
        refine ⟨by simp; omega, ?_⟩
        simp only [skipLen, if_neg hb', List.drop_succ_cons]
        omega

theorem skip_remark_none (l : List UInt8) (h : Lib.indexByte l 10 < 0) : skipLen l true = l.length := by
  induction l with
  | nil => rfl
  | cons b r ih =>
    simp only [Lib.indexByte] at h
    by_cases hb : b == 10
    · rw [if_pos hb] at h; omega
    · rw [if_neg hb] at h
      have hge := Lib.indexByte_ge r 10
      have hb' : b ≠ 10 := by simpa using hb
      by_cases h2 : Lib.indexByte r 10 == -1
      · have e2 : Lib.indexByte r 10 = -1 := by simpa using h2
        simp only [skipLen, if_neg hb', List.length_cons]
        rw [ih (by omega)]
      · rw [if_neg h2] at h
        omega

theorem index_cons (c : UInt8) (r : List UInt8) (h : c ≠ 10) : Lib.indexByte (c :: r) 10 = if Lib.indexByte r 10 == -1 then -1 else Lib.indexByte r 10 + 1 := by
  have : (c == 10) = false := by simpa using h
  simp [Lib.indexByte, this]

/-- a remark's first byte and all up to the line's end -/
theorem skip_hash (r : List UInt8) (n : Nat) (h : Lib.indexByte (35 :: r) 10 = n) : 0 < n ∧ n < (35 :: r).length ∧ skipLen (35 :: r) false = n + skipLen ((35 :: r).drop n) false := by
  have h1 := skip_remark (35 :: r) n h
  have e : skipLen (35 :: r) true = skipLen (35 :: r) false := by simp [skipLen, isBlank]
  rw [e] at h1
  have hn : n ≠ 0 := by
    rintro rfl
    rw [index_cons _ _ (by decide)] at h
    have := Lib.indexByte_ge r 10
    split at h
    · omega
    · rename_i h2
      have : Lib.indexByte r 10 ≠ -1 := fun e => h2 (by rw [e]; rfl)
      omega
  exact ⟨by omega, h1⟩

theorem skip_hash_none (r : List UInt8) (h : Lib.indexByte (35 :: r) 10 < 0) : skipLen (35 :: r) false = (35 :: r).length := by
  rw [← skip_remark_none _ h]
  simp [skipLen, isBlank]


/-- a text's lines from a place on -/
def linesOf (s : ByteArray) : Nat → Nat → List (Nat × ByteArray)
  | 0, _ => []
  | f + 1, k => if Lib.indexByte (s.data.toList.drop k) 10 < 0 then [(k, s.extract k s.size)]
      else (k, s.extract k (k + (Lib.indexByte (s.data.toList.drop k) 10).toNat)) :: linesOf s f (k + ((Lib.indexByte (s.data.toList.drop k) 10).toNat + 1))

/-- the place behind so many bytes -/
def stepMark (m : Int × Int) (c : UInt8) : Int × Int := if c = 10 then (m.1 + 1, 1) else (m.1, m.2 + 1)
def markOf (l : List UInt8) : Int × Int := l.foldl stepMark (1, 1)

theorem idx_none (l : List UInt8) (h : Lib.indexByte l 10 < 0) : ∀ i : Nat, l[i]? ≠ some 10 := by
  induction l with
  | nil => intro i; simp
  | cons b r ih =>
    have hb : b ≠ 10 := by
      rintro rfl
      simp [Lib.indexByte] at h
    have hr : Lib.indexByte r 10 < 0 := by
      rw [index_cons _ _ hb] at h
      split at h
      · rename_i h2
        have : Lib.indexByte r 10 = -1 := by simpa using h2
        omega
      · have := Lib.indexByte_ge r 10
        omega
    intro i
    cases i with
    | zero => simpa using hb
    | succ i => simpa using ih hr i

theorem idx_some (l : List UInt8) (n : Nat) (h : Lib.indexByte l 10 = n) : (∀ i : Nat, i < n → l[i]? ≠ some 10) ∧ l[n]? = some 10 := by
  induction l generalizing n with
  | nil => simp [Lib.indexByte] at h
  | cons b r ih =>
    by_cases hb : b = 10
    · subst hb
      have e : n = 0 := by
        have : Lib.indexByte (10 :: r) 10 = 0 := by simp [Lib.indexByte]
        omega
      subst e
      exact ⟨fun i hi => by omega, rfl⟩
    · rw [index_cons _ _ hb] at h
      split at h
      · omega
      · rename_i h2
        have hge := Lib.indexByte_ge r 10
        have h3 : Lib.indexByte r 10 ≠ -1 := fun e => h2 (by rw [e]; rfl)
        obtain ⟨m, hm⟩ := Int.eq_ofNat_of_zero_le (show 0 ≤ Lib.indexByte r 10 by omega)
        have e : n = m + 1 := by rw [hm] at h; omega
        subst e
        obtain ⟨i1, i2⟩ := ih m hm
        refine ⟨fun i hi => ?_, by simpa using i2⟩
        cases i with
        | zero => simpa using hb
        | succ i => simpa using i1 i (by omega)

theorem markOf_succ (l : List UInt8) (j : Nat) (h : j < l.length) : markOf (l.take (j + 1)) = stepMark (markOf (l.take j)) l[j] := by
  unfold markOf
  rw [List.take_succ_eq_append_getElem h, List.foldl_append]
  rfl

theorem mark_seg (l : List UInt8) (k d : Nat) (m : Int) (h : markOf (l.take k) = (m, 1)) (hl : k + d ≤ l.length) (hno : ∀ i, i < d → l[k + i]? ≠ some 10) :
    markOf (l.take (k + d)) = (m, (d : Int) + 1) := by
  induction d with
  | zero => simpa using h
  | succ d ih =>
    have hlt : k + d < l.length := by omega
    rw [← Nat.add_assoc, markOf_succ l (k + d) hlt, ih (by omega) (fun i hi => hno i (by omega))]
    have := hno d (by omega)
    rw [List.getElem?_eq_getElem hlt] at this
    have hne : l[k + d] ≠ 10 := fun e => this (by rw [e])
    simp only [stepMark, if_neg hne]
    congr 1

theorem lines_last (s : ByteArray) : ∀ f k, k ≤ s.size → s.size < k + f → ∃ p ∈ linesOf s f k, p.1 + p.2.size = s.size := by
  intro f
  induction f with
  | zero => intro k h1 h2; omega
  | succ f ih =>
    intro k h1 h2
    simp only [linesOf]
    by_cases hneg : Lib.indexByte (s.data.toList.drop k) 10 < 0
    · rw [if_pos hneg]
      exact ⟨_, List.mem_singleton.2 rfl, by simp; omega⟩
    · rw [if_neg hneg]
      obtain ⟨n, hn⟩ := Int.eq_ofNat_of_zero_le (show 0 ≤ Lib.indexByte (s.data.toList.drop k) 10 by omega)
      obtain ⟨i1, _⟩ := skip_remark _ n hn
      simp at i1
      rw [hn]
      obtain ⟨p, hp, e⟩ := ih (k + (n + 1)) (by omega) (by omega)
      exact ⟨p, List.mem_cons_of_mem _ hp, e⟩

theorem lines_mark (s : ByteArray) : ∀ (f k : Nat) (m : Int) (ini : List (Nat × ByteArray)) (last : Nat × ByteArray), k ≤ s.size → s.size < k + f → markOf (s.data.toList.take k) = (m, 1) →
    ini ++ [last] <+: linesOf s f k → ∀ at_ : Nat, k ≤ at_ → (∀ p ∈ ini, p.1 + p.2.size < at_) → at_ ≤ last.1 + last.2.size →
    last.1 ≤ at_ ∧ last.1 + last.2.size ≤ s.size ∧ markOf (s.data.toList.take at_) = (m + ini.length, (at_ : Int) - last.1 + 1) := by
  intro f
  induction f with
  | zero => intro k m ini last h1 h2; omega
  | succ f ih =>
    intro k m ini last h1 h2 hm hpre at_ hk hini hlast
    have hlen : s.data.toList.length = s.size := by simp
    simp only [linesOf] at hpre
    by_cases hneg : Lib.indexByte (s.data.toList.drop k) 10 < 0
    · rw [if_pos hneg] at hpre
      have hno := idx_none _ hneg
      cases ini with
      | nil =>
        have e : last = (k, s.extract k s.size) := by
          obtain ⟨t, ht⟩ := hpre
          simp at ht
          exact ht.1
        subst e
        have hsz : (s.extract k s.size).size = s.size - k := by simp
        refine ⟨hk, by simp only [hsz]; omega, ?_⟩
        obtain ⟨d, rfl⟩ : ∃ d, at_ = k + d := ⟨at_ - k, by omega⟩
        simp only [hsz] at hlast
        rw [mark_seg s.data.toList k d m hm (by omega) (fun i hi => by have := hno i; rwa [List.getElem?_drop] at this)]
        simp
        omega
      | cons a ini =>
        obtain ⟨t, ht⟩ := hpre
        have := congrArg List.length ht
        simp at this
    · rw [if_neg hneg] at hpre
      obtain ⟨n, hn⟩ := Int.eq_ofNat_of_zero_le (show 0 ≤ Lib.indexByte (s.data.toList.drop k) 10 by omega)
      obtain ⟨i1, _⟩ := skip_remark _ n hn
      obtain ⟨j1, j2⟩ := idx_some _ n hn
      simp at i1
      rw [hn] at hpre
      have hext : (s.extract k (k + n)).size = n := by simp; omega
      cases ini with
      | nil =>
        have e : last = (k, s.extract k (k + n)) := by
          obtain ⟨t, ht⟩ := hpre
          simp only [List.nil_append, List.cons_append, List.cons.injEq] at ht
          exact ht.1
        subst e
        refine ⟨hk, by simp only [hext]; omega, ?_⟩
        obtain ⟨d, rfl⟩ : ∃ d, at_ = k + d := ⟨at_ - k, by omega⟩
        simp only [hext] at hlast
        rw [mark_seg s.data.toList k d m hm (by omega) (fun i hi => by have := j1 i (by omega); rwa [List.getElem?_drop] at this)]
        simp
        omega
      | cons a ini =>
        obtain ⟨t, ht⟩ := hpre
        simp only [List.cons_append, List.cons.injEq] at ht
        obtain ⟨ha, ht⟩ := ht
        subst ha
        have hfirst := hini _ (List.mem_cons_self ..)
        simp only [Int.toNat_natCast, hext] at hfirst
        have hseg := mark_seg s.data.toList k n m hm (by omega) (fun i hi => by have := j1 i (by omega); rwa [List.getElem?_drop] at this)
        have hm2 : markOf (s.data.toList.take (k + (n + 1))) = (m + 1, 1) := by
          rw [← Nat.add_assoc, markOf_succ _ _ (by omega), hseg]
          rw [List.getElem?_drop, List.getElem?_eq_getElem (by omega)] at j2
          have e10 : s.data.toList[k + n] = 10 := by injection j2
          simp only [stepMark, e10, if_true]
        obtain ⟨r1, r2, r3⟩ := ih (k + (n + 1)) (m + 1) ini last (by omega) (by omega) hm2 ⟨t, by simpa using ht⟩ at_ (by omega) (fun p hp => hini p (List.mem_cons_of_mem _ hp)) hlast
        refine ⟨r1, r2, ?_⟩
        rw [r3]
        simp only [List.length_cons]
        congr 1
        omega

/-- a token: its kind, its text, its place -/
abbrev Tok := Int × ByteArray × Nat
def cellsOf (ts : List Tok) : List Value := ts.flatMap fun t => [.int .i64 t.1, .string t.2.1, .int .i64 (t.2.2 : Int)]
theorem cellsOf_snoc (ts : List Tok) (t : Tok) : cellsOf (ts ++ [t]) = cellsOf ts ++ [.int .i64 t.1, .string t.2.1, .int .i64 (t.2.2 : Int)] := by simp [cellsOf]
theorem cellsOf_len (ts : List Tok) : (cellsOf ts).length = ts.length * 3 := by
  induction ts with
  | nil => rfl
  | cons t r ih =>
    have : cellsOf (t :: r) = [.int .i64 t.1, .string t.2.1, .int .i64 (t.2.2 : Int)] ++ cellsOf r := rfl
    rw [this, List.length_append, ih]
    simp
    omega

def tooLong (q : Int × Nat) : Bool := (q.1 == 1 && decide (30 < q.2)) || (q.1 == 2 && decide (9 < q.2))
def visHead : List UInt8 → ByteArray
  | [] => ⟨#[]⟩
  | c :: _ => vis c
/-- a fault: its number, its place, its word -/
abbrev Flt := Int × Nat × ByteArray

/-- the tokens from a place on, up to the first fault, and that; the flag: a remark has begun -/
def lexG (s : ByteArray) : Nat → Nat → Bool → List Tok × Option Flt
  | 0, _, _ => ([], none)
  | f + 1, k, b =>
    if k + skipLen (s.data.toList.drop k) b = s.size then ([], none)
    else if (firstOf (s.data.toList.drop (k + skipLen (s.data.toList.drop k) b))).2 = 0 then ([], some (3, k + skipLen (s.data.toList.drop k) b, visHead (s.data.toList.drop (k + skipLen (s.data.toList.drop k) b))))
    else if tooLong (firstOf (s.data.toList.drop (k + skipLen (s.data.toList.drop k) b))) = true then ([], some (2, k + skipLen (s.data.toList.drop k) b, headOf (s.extract (k + skipLen (s.data.toList.drop k) b) (k + skipLen (s.data.toList.drop k) b + (firstOf (s.data.toList.drop (k + skipLen (s.data.toList.drop k) b))).2))))
    else (((firstOf (s.data.toList.drop (k + skipLen (s.data.toList.drop k) b))).1, s.extract (k + skipLen (s.data.toList.drop k) b) (k + skipLen (s.data.toList.drop k) b + (firstOf (s.data.toList.drop (k + skipLen (s.data.toList.drop k) b))).2), k + skipLen (s.data.toList.drop k) b) ::
      (lexG s f (k + skipLen (s.data.toList.drop k) b + (firstOf (s.data.toList.drop (k + skipLen (s.data.toList.drop k) b))).2) false).1,
      (lexG s f (k + skipLen (s.data.toList.drop k) b + (firstOf (s.data.toList.drop (k + skipLen (s.data.toList.drop k) b))).2) false).2)

theorem lexG_end (s : ByteArray) (f k : Nat) (b : Bool) (a : Nat) (ha : k + skipLen (s.data.toList.drop k) b = a) (h : a = s.size) : lexG s (f + 1) k b = ([], none) := by
  simp only [lexG]; rw [if_pos (ha.trans h)]
theorem lexG_form (s : ByteArray) (f k : Nat) (b : Bool) (a : Nat) (ha : k + skipLen (s.data.toList.drop k) b = a) (h : a ≠ s.size) (h0 : (firstOf (s.data.toList.drop a)).2 = 0) :
    lexG s (f + 1) k b = ([], some (3, a, visHead (s.data.toList.drop a))) := by
  simp only [lexG, ha]; rw [if_neg h, if_pos h0]
theorem lexG_long (s : ByteArray) (f k : Nat) (b : Bool) (a n : Nat) (ha : k + skipLen (s.data.toList.drop k) b = a) (h : a ≠ s.size) (hn : (firstOf (s.data.toList.drop a)).2 = n) (h0 : n ≠ 0) (h1 : tooLong (firstOf (s.data.toList.drop a)) = true) :
    lexG s (f + 1) k b = ([], some (2, a, headOf (s.extract a (a + n)))) := by
  subst hn
  simp only [lexG, ha]; rw [if_neg h, if_neg h0, if_pos h1]
theorem lexG_tok (s : ByteArray) (f k : Nat) (b : Bool) (a n : Nat) (ha : k + skipLen (s.data.toList.drop k) b = a) (h : a ≠ s.size) (hn : (firstOf (s.data.toList.drop a)).2 = n) (h0 : n ≠ 0) (h1 : tooLong (firstOf (s.data.toList.drop a)) = false) :
    lexG s (f + 1) k b = (((firstOf (s.data.toList.drop a)).1, s.extract a (a + n), a) :: (lexG s f (a + n) false).1, (lexG s f (a + n) false).2) := by
  subst hn
  simp only [lexG, ha]; rw [if_neg h, if_neg h0, if_neg (by rw [h1]; decide)]

theorem byte_beq (c d : UInt8) (z : Int) (hz : (d.toNat : Int) = z) : ((c.toNat : Int) == z) = (c == d) := by
  rw [← hz, Bool.eq_iff_iff]
  simp only [beq_iff_eq]
  constructor
  · intro h; exact UInt8.toNat_inj.1 (by omega)
  · intro h; rw [h]

theorem skip_at (s : ByteArray) (k : Nat) (h : k < s.size) :
    skipLen (s.data.toList.drop k) false = if isBlank s[k] = true then skipLen (s.data.toList.drop (k + 1)) false + 1 else if s[k] = 35 then skipLen (s.data.toList.drop k) false else 0 := by
  rw [bs_get s k h]
  simp only [skipLen]
  split
  · rfl
  · split
    · rfl
    · rfl

theorem firstOf_kind (l : List UInt8) : (firstOf l).1 = 1 ∨ (firstOf l).1 = 2 ∨ (firstOf l).1 = 3 := by
  cases l with
  | nil => right; right; rfl
  | cons c r =>
    simp only [firstOf]
    split
    · left; rfl
    · split
      · right; left; rfl
      · right; right; rfl


def numB (s : ByteArray) : Bool := decide (0 < s.size) && (decide (s.size ≤ 9) && decide (runLen isDigit s.data.toList = s.size))

def OneTok (s : ByteArray) (kd : Int) : Prop := 0 < s.size ∧ skipLen s.data.toList false = 0 ∧ firstOf s.data.toList = (kd, s.size) ∧ tooLong (kd, s.size) = false

theorem one_of (s : ByteArray) (kd : Int) (h : OneTok s kd) : lexG s (s.size + 1) 0 false = ([(kd, s, 0)], none) := by
  obtain ⟨h0, h1, h2, h3⟩ := h
  have e1 := lexG_tok s s.size 0 false 0 s.size (by simp [h1]) (by omega) (by simp [h2]) (by omega) (by simpa [h2] using h3)
  obtain ⟨f, hf⟩ : ∃ f, s.size = f + 1 := ⟨s.size - 1, by omega⟩
  have hd : s.data.toList.drop s.size = [] := List.drop_eq_nil_of_le (by simp)
  have e2 : lexG s s.size s.size false = ([], none) := by
    have : lexG s (f + 1) s.size false = ([], none) := lexG_end s f s.size false s.size (by simp [hd, skipLen]) rfl
    rw [← hf] at this
    exact this
  rw [e1]
  simp only [List.drop_zero, Nat.zero_add, h2]
  rw [e2]
  simp

theorem of_one (s : ByteArray) (kd : Int) (t : Tok) (h : lexG s (s.size + 1) 0 false = ([t], none)) (hk : t.1 = kd) (hs : t.2.1 = s) : OneTok s kd := by
  obtain ⟨a, ha⟩ : ∃ a, 0 + skipLen (s.data.toList.drop 0) false = a := ⟨_, rfl⟩
  by_cases h1 : a = s.size
  · rw [lexG_end s s.size 0 false a ha h1] at h; simp at h
  · by_cases h2 : (firstOf (s.data.toList.drop a)).2 = 0
    · rw [lexG_form s s.size 0 false a ha h1 h2] at h; simp at h
    · by_cases h3 : tooLong (firstOf (s.data.toList.drop a)) = true
      · rw [lexG_long s s.size 0 false a _ ha h1 rfl h2 h3] at h; simp at h
      · rw [lexG_tok s s.size 0 false a _ ha h1 rfl h2 (by simpa using h3)] at h
        have hal : a ≤ s.size := by
          have := skipLen_le s.data.toList false
          rw [List.drop_zero] at ha
          simp at this
          omega
        have hn := firstOf_le (s.data.toList.drop a)
        simp only [List.length_drop, Array.length_toList] at hn
        obtain ⟨hh, -⟩ := Prod.mk.inj h
        have ht := (List.cons.inj hh).1
        subst ht
        have hz := congrArg ByteArray.size hs
        simp only [ByteArray.size_extract] at hz
        have hn' : (firstOf (s.data.toList.drop a)).2 ≤ s.size - a := hn
        have ea : a = 0 := by omega
        subst ea
        have en : (firstOf s.data.toList).2 = s.size := by
          rw [List.drop_zero] at hz hn' 
          omega
        refine ⟨by omega, by simpa using ha, ?_, ?_⟩
        · rw [← hk, ← en]; simp
        · rw [← hk, ← en]; simpa using h3

theorem letter_plain (c : UInt8) (h : isLetter c = true) : isBlank c = false ∧ c ≠ 35 ∧ isDigit c = false := by
  have ne : ∀ k : UInt8, isLetter k = false → c ≠ k := fun k hk e => by rw [e, hk] at h; cases h
  refine ⟨?_, ne 35 (by decide), ?_⟩
  · have h1 := ne 32 (by decide)
    have h2 := ne 9 (by decide)
    have h3 := ne 10 (by decide)
    have h4 := ne 13 (by decide)
    simp [isBlank, h1, h2, h3, h4]
  · simp [isLetter] at h
    simp [isDigit]
    omega
theorem digit_plain (c : UInt8) (h : isDigit c = true) : isBlank c = false ∧ c ≠ 35 ∧ isLetter c = false := by
  have ne : ∀ k : UInt8, isDigit k = false → c ≠ k := fun k hk e => by rw [e, hk] at h; cases h
  refine ⟨?_, ne 35 (by decide), ?_⟩
  · have h1 := ne 32 (by decide)
    have h2 := ne 9 (by decide)
    have h3 := ne 10 (by decide)
    have h4 := ne 13 (by decide)
    simp [isBlank, h1, h2, h3, h4]
  · simp [isDigit] at h
    simp [isLetter]
    omega

theorem skip_zero (c : UInt8) (r : List UInt8) (h1 : isBlank c = false) (h2 : c ≠ 35) : skipLen (c :: r) false = 0 := by
  simp [skipLen, h1, h2]

theorem word_one (s : ByteArray) : wordB s = true ↔ OneTok s 1 := by
  unfold wordB OneTok
  have hlen : s.data.toList.length = s.size := by simp
  cases hl : s.data.toList with
  | nil => rw [hl] at hlen; simp at hlen; simp; omega
  | cons c r =>
    rw [hl] at hlen
    simp only [List.length_cons] at hlen
    constructor
    · intro h
      simp only [Bool.and_eq_true, decide_eq_true_eq] at h
      obtain ⟨h1, h2, h3⟩ := h
      obtain ⟨p1, p2, p3⟩ := letter_plain c h2
      refine ⟨by omega, skip_zero c r p1 p2, ?_, ?_⟩
      · simp [firstOf, h2, h3]
      · simp [tooLong]; omega
    · rintro ⟨h0, h1, h2, h3⟩
      simp only [firstOf] at h2
      simp [tooLong] at h3
      split at h2
      · rename_i hc
        have h4 := (Prod.mk.inj h2).2
        simp [hc, h4, h3]
      · split at h2
        · simp at h2
        · simp at h2

theorem num_one (s : ByteArray) : numB s = true ↔ OneTok s 2 := by
  unfold numB OneTok
  have hlen : s.data.toList.length = s.size := by simp
  cases hl : s.data.toList with
  | nil => rw [hl] at hlen; simp at hlen; simp; omega
  | cons c r =>
    rw [hl] at hlen
    simp only [List.length_cons] at hlen
    constructor
    · intro h
      simp only [Bool.and_eq_true, decide_eq_true_eq] at h
      obtain ⟨h1, h2, h3⟩ := h
      have hc : isDigit c = true := by
        cases hd : isDigit c with
        | true => rfl
        | false => simp [runLen, hd] at h3; omega
      obtain ⟨p1, p2, p3⟩ := digit_plain c hc
      refine ⟨by omega, skip_zero c r p1 p2, ?_, ?_⟩
      · simp [firstOf, p3, hc, h3]
      · simp [tooLong]; omega
    · rintro ⟨h0, h1, h2, h3⟩
      simp only [firstOf] at h2
      simp [tooLong] at h3
      split at h2
      · simp at h2
      · split at h2
        · have h4 := (Prod.mk.inj h2).2
          simp [h0, h4, h3]
        · simp at h2

theorem not_both (s : ByteArray) (h : OneTok s 1) (h2 : OneTok s 2) : False := by
  have := h.2.2.1.symm.trans h2.2.2.1
  simp at this

/-- what the reference's 'Is' tells -/
def isT (T : List Tok × Option Flt) (s : ByteArray) (kd : Int) : Bool := match T with
  | ([t], none) => (t.1 == kd) && (t.2.1.toList == s.toList)
  | _ => false
def isB (s : ByteArray) (kd : Int) : Bool := isT (lexG s (s.size + 1) 0 false) s kd

theorem bytes_eq {a b : ByteArray} (h : a.toList = b.toList) : a = b := by
  rw [Lib.toList_data, Lib.toList_data] at h
  cases a; cases b
  congr 1
  exact Array.ext' h

theorem isB_one (s : ByteArray) (kd : Int) : isB s kd = true ↔ OneTok s kd := by
  constructor
  · intro h
    unfold isB isT at h
    split at h
    · rename_i t ht
      simp only [Bool.and_eq_true, beq_iff_eq] at h
      exact of_one s kd t ht h.1 (bytes_eq h.2)
    · cases h
  · intro h
    unfold isB
    rw [one_of s kd h]
    simp [isT]

theorem isB_word (s : ByteArray) : isB s 1 = wordB s := by
  rw [Bool.eq_iff_iff, isB_one, word_one]
theorem isB_num (s : ByteArray) : isB s 2 = numB s := by
  rw [Bool.eq_iff_iff, isB_one, num_one]
theorem num_not_word (s : ByteArray) (h : numB s = true) : wordB s = false := by
  cases hw : wordB s with
  | false => rfl
  | true => exact (not_both s ((word_one s).1 hw) ((num_one s).1 h)).elim
end Go.Proofs.YtdoohocdaacnaaaDoor.R
