/- What is read has short rows of kids. -/
import Derived.Test.YtboeeaekhijboaaPof
import Derived.Test.YtboeeaekhijboaaPterm14
namespace Go.Proofs.Ytboeeaekhijboaa
open Go.RowKit
set_option linter.unusedVariables false
set_option linter.unusedSimpArgs false

/-- a node whose rows are short -/
def Ok1 (n : Nd) : Prop := n.kids.len ≤ 1000000 ∧ Slim n.kids
theorem ok_leaf (k : Int) (s : ByteArray) (a : Int) : Ok1 (k, s, a, .nil) := ⟨Nat.zero_le _, trivial⟩
theorem ok_two {n m : Nd} (hn : Ok1 n) (hm : Ok1 m) (k : Int) (s : ByteArray) (a : Int) : Ok1 (k, s, a, twoN n m) :=
  ⟨(by show (2 : Nat) ≤ 1000000; omega), ⟨hn.1, hn.2, hm.1, hm.2, trivial⟩⟩
theorem atomS_ok {ts : List Tok} {s : ByteArray} {inner : Nat → Rz Nd} (h : ∀ k q, inner k = .ok q → Ok1 q.1) (k : Nat) (q : Nd × Nat) (hq : atomS ts s inner k = .ok q) : Ok1 q.1 := by
  unfold atomS at hq
  split at hq
  · cases e : inner (k + 1) with
    | error x => rw [e] at hq; cases hq
    | ok p =>
      rw [e] at hq
      simp only [Rz.bind] at hq
      cases e2 : mustS ts s bRp p.2 with
      | error x => rw [e2] at hq; cases hq
      | ok k2 => rw [e2] at hq; cases hq; exact (h _ p e : Ok1 p.1)
  · cases e : tokS ts s 1 k with
    | error x => rw [e] at hq; cases hq
    | ok p => rw [e] at hq; cases hq; exact ok_leaf _ _ _
theorem typS_ok (ts : List Tok) (s : ByteArray) : ∀ n k q, typS ts s n k = .ok q → Ok1 q.1
  | 0, k, q, h => by cases h
  | n + 1, k, q, h => by
    simp only [typS] at h
    cases e : atomS ts s (typS ts s n) k with
    | error x => rw [e] at h; cases h
    | ok p =>
      rw [e] at h
      simp only [Rz.bind] at h
      have hp := atomS_ok (typS_ok ts s n) k p e
      split at h
      · cases e2 : typS ts s n (p.2 + 1) with
        | error x => rw [e2] at h; cases h
        | ok r => rw [e2] at h; cases h; exact ok_two hp (typS_ok ts s n _ _ e2) _ _ _
      · cases h; exact hp
theorem partsS_ok {ts : List Tok} {s : ByteArray} {inner : Nat → Rz Nd} (h : ∀ k q, inner k = .ok q → Ok1 q.1) : ∀ f n k q, Ok1 n → partsS ts s inner f n k = .ok q → Ok1 q.1
  | 0, n, k, q, hn, hq => by cases hq; exact hn
  | f + 1, n, k, q, hn, hq => by
    simp only [partsS] at hq
    split at hq
    · cases e : atomS ts s inner k with
      | error x => rw [e] at hq; cases hq
      | ok p =>
        rw [e] at hq
        exact partsS_ok h f _ _ q (ok_two hn (atomS_ok h k p e) _ _ _) hq
    · cases hq; exact hn
theorem lamS_ok {ts : List Tok} {s : ByteArray} {typ term : Nat → Rz Nd} (h1 : ∀ k q, typ k = .ok q → Ok1 q.1) (h2 : ∀ k q, term k = .ok q → Ok1 q.1) (a : Int) (k : Nat) (q : Nd × Nat) (hq : lamS ts s typ term a k = .ok q) : Ok1 q.1 := by
  unfold lamS at hq
  cases e1 : tokS ts s 1 k with
  | error x => rw [e1] at hq; cases hq
  | ok p1 =>
    rw [e1] at hq
    simp only [Rz.bind] at hq
    cases e2 : mustS ts s bColon p1.2 with
    | error x => rw [e2] at hq; cases hq
    | ok k2 =>
      rw [e2] at hq
      simp only [St.bind] at hq
      cases e3 : typ k2 with
      | error x => rw [e3] at hq; cases hq
      | ok p3 =>
        rw [e3] at hq
        simp only [Rz.bind] at hq
        cases e4 : mustS ts s bDot p3.2 with
        | error x => rw [e4] at hq; cases hq
        | ok k4 =>
          rw [e4] at hq
          simp only [St.bind] at hq
          cases e5 : term k4 with
          | error x => rw [e5] at hq; cases hq
          | ok p5 => rw [e5] at hq; cases hq; exact ok_two (h1 _ _ e3) (h2 _ _ e5) _ _ _
theorem termS_ok (ts : List Tok) (s : ByteArray) : ∀ n k q, termS ts s n k = .ok q → Ok1 q.1
  | 0, k, q, h => by cases h
  | n + 1, k, q, h => by
    simp only [termS] at h
    split at h
    · exact lamS_ok (typS_ok ts s n) (termS_ok ts s n) _ _ q h
    · cases e : atomS ts s (termS ts s n) k with
      | error x => rw [e] at h; cases h
      | ok p =>
        rw [e] at h
        exact partsS_ok (termS_ok ts s n) _ _ _ q (atomS_ok (termS_ok ts s n) k p e) h
theorem resS_ok {s : ByteArray} {r : Rz Nd} (h : ∀ q, r = .ok q → Ok1 q.1) : Ok1 (resS zN s r).2 := by
  unfold resS
  split
  · exact ok_leaf _ _ _
  · cases e : endS (lexT s) r with
    | error x => exact ok_leaf _ _ _
    | ok q =>
      cases r with
      | error x => cases e
      | ok p =>
        have hp := h p rfl
        unfold endS at e
        simp only [Rz.bind] at e
        split at e
        · cases e
        · cases e; exact hp
end Go.Proofs.Ytboeeaekhijboaa
