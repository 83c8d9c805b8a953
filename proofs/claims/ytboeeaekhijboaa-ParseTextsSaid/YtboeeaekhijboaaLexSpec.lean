/- Layer 3 in plain words: a text's tokens, or its first fault. -/
import Derived.Test.YtboeeaekhijboaaMark
namespace Go.Proofs.Ytboeeaekhijboaa
open Go.RowKit

/-- a token: its kind, its text, its place -/
abbrev Tok := Int × ByteArray × Nat
def cellsOf (ts : List Tok) : List Value := ts.flatMap fun t => [.int .i64 t.1, .string t.2.1, .int .i64 (t.2.2 : Int)]
theorem cellsOf_snoc (ts : List Tok) (t : Tok) : cellsOf (ts ++ [t]) = cellsOf ts ++ [.int .i64 t.1, .string t.2.1, .int .i64 (t.2.2 : Int)] := by simp [cellsOf]
theorem cellsOf_len (ts : List Tok) : (cellsOf ts).length = ts.length * 3 := by
  induction ts with
  | nil => rfl
  | cons t r ih =>
    have : cellsOf (t :: r) = [.int .i64 t.1, .string t.2.1, .int .i64 (t.2.2 : Int)] ++ cellsOf r := rfl
    rw [this, List.length_append, ih]
    simp
    omega

def tooLong (q : Int × Nat) : Bool := (q.1 == 1 && decide (30 < q.2)) || (q.1 == 2 && decide (9 < q.2))
def visHead : List UInt8 → ByteArray
  | [] => ⟨#[]⟩
  | c :: _ => vis c
/-- a fault: its number, its place, its word -/
abbrev Flt := Int × Nat × ByteArray

/-- the tokens from a place on, up to the first fault, and that; the flag: a remark has begun -/
def lexG (s : ByteArray) : Nat → Nat → Bool → List Tok × Option Flt
  | 0, _, _ => ([], none)
  | f + 1, k, b =>
    if k + skipLen (s.data.toList.drop k) b = s.size then ([], none)
    else if (firstOf (s.data.toList.drop (k + skipLen (s.data.toList.drop k) b))).2 = 0 then ([], some (3, k + skipLen (s.data.toList.drop k) b, visHead (s.data.toList.drop (k + skipLen (s.data.toList.drop k) b))))
    else if tooLong (firstOf (s.data.toList.drop (k + skipLen (s.data.toList.drop k) b))) = true then ([], some (2, k + skipLen (s.data.toList.drop k) b, headOf (s.extract (k + skipLen (s.data.toList.drop k) b) (k + skipLen (s.data.toList.drop k) b + (firstOf (s.data.toList.drop (k + skipLen (s.data.toList.drop k) b))).2))))
    else (((firstOf (s.data.toList.drop (k + skipLen (s.data.toList.drop k) b))).1, s.extract (k + skipLen (s.data.toList.drop k) b) (k + skipLen (s.data.toList.drop k) b + (firstOf (s.data.toList.drop (k + skipLen (s.data.toList.drop k) b))).2), k + skipLen (s.data.toList.drop k) b) ::
      (lexG s f (k + skipLen (s.data.toList.drop k) b + (firstOf (s.data.toList.drop (k + skipLen (s.data.toList.drop k) b))).2) false).1,
      (lexG s f (k + skipLen (s.data.toList.drop k) b + (firstOf (s.data.toList.drop (k + skipLen (s.data.toList.drop k) b))).2) false).2)

theorem lexG_end (s : ByteArray) (f k : Nat) (b : Bool) (a : Nat) (ha : k + skipLen (s.data.toList.drop k) b = a) (h : a = s.size) : lexG s (f + 1) k b = ([], none) := by
  simp only [lexG]; rw [if_pos (ha.trans h)]
theorem lexG_form (s : ByteArray) (f k : Nat) (b : Bool) (a : Nat) (ha : k + skipLen (s.data.toList.drop k) b = a) (h : a ≠ s.size) (h0 : (firstOf (s.data.toList.drop a)).2 = 0) :
    lexG s (f + 1) k b = ([], some (3, a, visHead (s.data.toList.drop a))) := by
  simp only [lexG, ha]; rw [if_neg h, if_pos h0]
theorem lexG_long (s : ByteArray) (f k : Nat) (b : Bool) (a n : Nat) (ha : k + skipLen (s.data.toList.drop k) b = a) (h : a ≠ s.size) (hn : (firstOf (s.data.toList.drop a)).2 = n) (h0 : n ≠ 0) (h1 : tooLong (firstOf (s.data.toList.drop a)) = true) :
    lexG s (f + 1) k b = ([], some (2, a, headOf (s.extract a (a + n)))) := by
  subst hn
  simp only [lexG, ha]; rw [if_neg h, if_neg h0, if_pos h1]
theorem lexG_tok (s : ByteArray) (f k : Nat) (b : Bool) (a n : Nat) (ha : k + skipLen (s.data.toList.drop k) b = a) (h : a ≠ s.size) (hn : (firstOf (s.data.toList.drop a)).2 = n) (h0 : n ≠ 0) (h1 : tooLong (firstOf (s.data.toList.drop a)) = false) :
    lexG s (f + 1) k b = (((firstOf (s.data.toList.drop a)).1, s.extract a (a + n), a) :: (lexG s f (a + n) false).1, (lexG s f (a + n) false).2) := by
  subst hn
  simp only [lexG, ha]; rw [if_neg h, if_neg h0, if_neg (by rw [h1]; decide)]

end Go.Proofs.Ytboeeaekhijboaa
