/- What is read has short rows of kids. The items that are read have short rows. -/
import Derived.Test.YtboeeaekhijboaaPof
import Derived.Test.YtboeeaekhijboaaKnown
import Derived.Test.YtboeeaekhijboaaPlikeItem
import Derived.Test.YtboeeaekhijboaaPispec
namespace Go.Proofs.Ytboeeaekhijboaa
open Go.RowKit
set_option linter.unusedVariables false
set_option linter.unusedSimpArgs false

/-- a node whose rows are short -/
def Ok1 (n : Nd) : Prop := n.kids.len ≤ 1000000 ∧ Slim n.kids
theorem ok_leaf (k : Int) (s : ByteArray) (a : Int) : Ok1 (k, s, a, .nil) := ⟨Nat.zero_le _, trivial⟩
theorem ok_two {n m : Nd} (hn : Ok1 n) (hm : Ok1 m) (k : Int) (s : ByteArray) (a : Int) : Ok1 (k, s, a, twoN n m) :=
 ⟨(by show (2 : Nat) ≤ 1000000; omega), ⟨hn.1, hn.2, hm.1, hm.2, trivial⟩⟩
theorem atomS_ok {ts : List Tok} {s : ByteArray} {inner : Nat → Rz Nd} (h : ∀ k q, inner k = .ok q → Ok1 q.1) (k : Nat) (q : Nd × Nat) (hq : atomS ts s inner k = .ok q) : Ok1 q.1 := by
 unfold atomS at hq
 split at hq
 ·
  cases e : inner (k + 1) with
  | error x => rw [e] at hq; cases hq
  | ok p =>
    rw [e] at hq
    simp only [Rz.bind] at hq
    cases e2 : mustS ts s bRp p.2 with
    | error x => rw [e2] at hq; cases hq
    | ok k2 => rw [e2] at hq; cases hq; exact (h _ p e : Ok1 p.1)
 ·
  cases e : tokS ts s 1 k with
  | error x => rw [e] at hq; cases hq
  | ok p => rw [e] at hq; cases hq; exact ok_leaf _ _ _
theorem typS_ok (ts : List Tok) (s : ByteArray) : ∀ n k q, typS ts s n k = .ok q → Ok1 q.1
 | 0, k, q, h => by cases h
 | n + 1, k, q, h => by
   simp only [typS] at h
   cases e : atomS ts s (typS ts s n) k with
   | error x => rw [e] at h; cases h
   | ok p =>
     rw [e] at h
     simp only [Rz.bind] at h
     have hp := atomS_ok (typS_ok ts s n) k p e
     split at h
     ·
      cases e2 : typS ts s n (p.2 + 1) with
      | error x => rw [e2] at h; cases h
      | ok r => rw [e2] at h; cases h; exact ok_two hp (typS_ok ts s n _ _ e2) _ _ _
     ·
      cases h; exact hp
theorem partsS_ok {ts : List Tok} {s : ByteArray} {inner : Nat → Rz Nd} (h : ∀ k q, inner k = .ok q → Ok1 q.1) : ∀ f n k q, Ok1 n → partsS ts s inner f n k = .ok q → Ok1 q.1
 | 0, n, k, q, hn, hq => by cases hq; exact hn
 | f + 1, n, k, q, hn, hq => by
   simp only [partsS] at hq
   split at hq
   ·
    cases e : atomS ts s inner k with
    | error x => rw [e] at hq; cases hq
    | ok p =>
      rw [e] at hq
      exact partsS_ok h f _ _ q (ok_two hn (atomS_ok h k p e) _ _ _) hq
   ·
    cases hq; exact hn
theorem lamS_ok {ts : List Tok} {s : ByteArray} {typ term : Nat → Rz Nd} (h1 : ∀ k q, typ k = .ok q → Ok1 q.1) (h2 : ∀ k q, term k = .ok q → Ok1 q.1) (a : Int) (k : Nat) (q : Nd × Nat) (hq : lamS ts s typ term a k = .ok q) : Ok1 q.1 := by
 unfold lamS at hq
 cases e1 : tokS ts s 1 k with
 | error x => rw [e1] at hq; cases hq
 | ok p1 =>
   rw [e1] at hq
   simp only [Rz.bind] at hq
   cases e2 : mustS ts s bColon p1.2 with
   | error x => rw [e2] at hq; cases hq
   | ok k2 =>
     rw [e2] at hq
     simp only [St.bind] at hq
     cases e3 : typ k2 with
     | error x => rw [e3] at hq; cases hq
     | ok p3 =>
       rw [e3] at hq
       simp only [Rz.bind] at hq
       cases e4 : mustS ts s bDot p3.2 with
       | error x => rw [e4] at hq; cases hq
       | ok k4 =>
         rw [e4] at hq
         simp only [St.bind] at hq
         cases e5 : term k4 with
         | error x => rw [e5] at hq; cases hq
         | ok p5 => rw [e5] at hq; cases hq; exact ok_two (h1 _ _ e3) (h2 _ _ e5) _ _ _
theorem termS_ok (ts : List Tok) (s : ByteArray) : ∀ n k q, termS ts s n k = .ok q → Ok1 q.1
 | 0, k, q, h => by cases h
 | n + 1, k, q, h => by
   simp only [termS] at h
   split at h
   ·
    exact lamS_ok (typS_ok ts s n) (termS_ok ts s n) _ _ q h
   ·
    cases e : atomS ts s (termS ts s n) k with
    | error x => rw [e] at h; cases h
    | ok p =>
      rw [e] at h
      exact partsS_ok (termS_ok ts s n) _ _ _ q (atomS_ok (termS_ok ts s n) k p e) h
theorem resS_ok {s : ByteArray} {r : Rz Nd} (h : ∀ q, r = .ok q → Ok1 q.1) : Ok1 (resS zN s r).2 := by
 unfold resS
 split
 ·
  exact ok_leaf _ _ _
 ·
  cases e : endS (lexT s) r with
  | error x => exact ok_leaf _ _ _
  | ok q =>
    cases r with
    | error x => cases e
    | ok p =>
      have hp := h p rfl
      unfold endS at e
      simp only [Rz.bind] at e
      split at e
      ·
       cases e
      ·
       cases e; exact hp
end Go.Proofs.Ytboeeaekhijboaa
namespace Go.Proofs.Ytboeeaekhijboaa
open Go.RowKit
set_option linter.unusedVariables false
set_option linter.unusedSimpArgs false

section
variable {ts : List Tok} {s : ByteArray}
theorem moreW_len : ∀ (f : Nat) (l : List ByteArray) (k : Nat) (q : List ByteArray × Nat), moreW ts s f l k = .ok q → q.1.length ≤ l.length + f
 | 0, l, k, q, h => by cases h; exact Nat.le_add_right _ _
 | f + 1, l, k, q, h => by
   simp only [moreW] at h
   split at h
   ·
    have := moreW_len f _ _ q h
    rw [List.length_append, List.length_singleton] at this
    omega
   ·
    cases h; exact Nat.le_add_right _ _
theorem moreC_len : ∀ (f : Nat) (l : List ByteArray) (k : Nat) (q : List ByteArray × Nat), moreC ts s f l k = .ok q → q.1.length ≤ l.length + f
 | 0, l, k, q, h => by cases h; exact Nat.le_add_right _ _
 | f + 1, l, k, q, h => by
   simp only [moreC] at h
   split at h
   ·
    cases e : tokS ts s 1 (k + 1) with
    | error x => rw [e] at h; cases h
    | ok p =>
      rw [e] at h
      have := moreC_len f _ _ q h
      rw [List.length_append, List.length_singleton] at this
      omega
   ·
    cases h; exact Nat.le_add_right _ _
/-- the words and the trees behind the word that begins an item -/
def OkB (x : List ByteArray × Ns × Int) : Prop := x.1.length ≤ 1000000 ∧ x.2.1.len ≤ 1000000 ∧ Slim x.2.1
theorem okb_nil {l : List ByteArray} (h : l.length ≤ 1000000) (n : Int) : OkB (l, .nil, n) := ⟨h, Nat.zero_le _, trivial⟩
theorem okb_one {l : List ByteArray} (h : l.length ≤ 1000000) {a : Nd} (ha : Ok1 a) (n : Int) : OkB (l, oneN a, n) := ⟨h, (by show (1 : Nat) ≤ 1000000; omega), ⟨ha.1, ha.2, trivial⟩⟩
theorem okb_two {l : List ByteArray} (h : l.length ≤ 1000000) {a b : Nd} (ha : Ok1 a) (hb : Ok1 b) (n : Int) : OkB (l, twoN a b, n) := ⟨h, (by show (2 : Nat) ≤ 1000000; omega), ⟨ha.1, ha.2, hb.1, hb.2, trivial⟩⟩
theorem bind_ok {α β : Type} {r : Rz α} {g : α → Nat → Rz β} {q : β × Nat} (h : r.bind g = .ok q) : ∃ p, r = .ok p ∧ g p.1 p.2 = .ok q := by
 cases r with
 | error x => cases h
 | ok p => exact ⟨p, rfl, h⟩
theorem sbind_ok {β : Type} {r : St} {g : Nat → Rz β} {q : β × Nat} (h : r.bind g = .ok q) : ∃ k, r = .ok k ∧ g k = .ok q := by
 cases r with
 | error x => cases h
 | ok k => exact ⟨k, rfl, h⟩
theorem wordsS_len (ht : ts.length ≤ 20000) {k : Nat} {q : List ByteArray × Nat} (h : wordsS ts s k = .ok q) : q.1.length ≤ 1000000 := by
 obtain ⟨p, _, h2⟩ := bind_ok h
 have := moreW_len _ _ _ q h2
 simp only [List.length_singleton] at this
 omega
theorem namedS_len {k : Nat} {q : List ByteArray × Nat} (h : namedS ts s k = .ok q) : q.1.length ≤ 1000000 := by
 obtain ⟨p, _, h2⟩ := bind_ok h
 obtain ⟨k2, _, h3⟩ := sbind_ok h2
 cases h3
 show (1 : Nat) ≤ 1000000; omega
theorem chainS_len (ht : ts.length ≤ 20000) {k : Nat} {q : List ByteArray × Nat} (h : chainS ts s k = .ok q) : q.1.length ≤ 1000000 := by
 obtain ⟨p, _, h2⟩ := bind_ok h
 obtain ⟨k2, _, h3⟩ := sbind_ok h2
 obtain ⟨p3, _, h4⟩ := bind_ok h3
 have := moreC_len _ _ _ q h4
 simp only [List.length_cons, List.length_nil] at this
 omega
theorem termsS_two {sg : ByteArray} {k : Nat} {q : Ns × Nat} (h : termsS ts s sg k = .ok q) : ∃ a b, q.1 = twoN a b ∧ Ok1 a ∧ Ok1 b := by
 obtain ⟨p, e1, h2⟩ := bind_ok h
 obtain ⟨k2, _, h3⟩ := sbind_ok h2
 obtain ⟨p3, e3, h4⟩ := bind_ok h3
 cases h4
 exact ⟨_, _, rfl, termS_ok ts s _ _ _ e1, termS_ok ts s _ _ _ e3⟩
theorem bodyS_ok (ht : ts.length ≤ 20000) (kd : Int) {k : Nat} {q : (List ByteArray × Ns × Int) × Nat} (h : bodyS ts s kd k = .ok q) : OkB q.1 := by
 unfold bodyS at h
 by_cases c1 : kd = 1
 ·
  rw [if_pos c1] at h
  obtain ⟨p, e1, h2⟩ := bind_ok h
  cases h2; exact okb_nil (wordsS_len ht e1) _
 rw [if_neg c1] at h
 by_cases c2 : kd = 2 ∨ kd = 3
 ·
  rw [if_pos c2] at h
  obtain ⟨p, e1, h2⟩ := bind_ok h
  obtain ⟨p2, e2, h3⟩ := bind_ok h2
  cases h3; exact okb_one (namedS_len e1) (typS_ok ts s _ _ _ e2) _
 rw [if_neg c2] at h
 by_cases c4 : kd = 4
 ·
  rw [if_pos c4] at h
  obtain ⟨p, e1, h2⟩ := bind_ok h
  obtain ⟨p2, e2, h3⟩ := bind_ok h2
  obtain ⟨a, b, e4, ha, hb⟩ := termsS_two e2
  cases h3; rw [e4]; exact okb_two (namedS_len e1) ha hb _
 rw [if_neg c4] at h
 by_cases c5 : kd = 5
 ·
  rw [if_pos c5] at h
  obtain ⟨p, e1, h2⟩ := bind_ok h
  obtain ⟨p2, e2, h3⟩ := bind_ok h2
  obtain ⟨a, b, e4, ha, hb⟩ := termsS_two e2
  cases h3; rw [e4]; exact okb_two (namedS_len e1) ha hb _
 rw [if_neg c5] at h
 by_cases c6 : kd = 6
 ·
  rw [if_pos c6] at h
  obtain ⟨p, e1, h2⟩ := bind_ok h
  cases h2; exact okb_nil (chainS_len ht e1) _
 rw [if_neg c6] at h
 by_cases c7 : kd = 7
 ·
  rw [if_pos c7] at h
  obtain ⟨p, e1, h2⟩ := bind_ok h
  obtain ⟨p2, e2, h3⟩ := bind_ok h2
  cases h3; exact okb_nil (by show (2 : Nat) ≤ 1000000; omega) _
 rw [if_neg c7] at h
 by_cases c9 : kd = 9
 ·
  rw [if_pos c9] at h
  obtain ⟨p, e1, h2⟩ := bind_ok h
  obtain ⟨p2, e2, h3⟩ := bind_ok h2
  cases h3; exact okb_one (Nat.zero_le _) (termS_ok ts s _ _ _ e2) _
 rw [if_neg c9] at h
 by_cases c10 : kd = 10
 ·
  rw [if_pos c10] at h
  obtain ⟨p, e1, h2⟩ := bind_ok h
  obtain ⟨p2, e2, h3⟩ := bind_ok h2
  obtain ⟨a, b, e4, ha, hb⟩ := termsS_two e2
  cases h3; rw [e4]; exact okb_two (Nat.zero_le _) ha hb _
 rw [if_neg c10] at h
 by_cases c12 : kd = 12
 ·
  rw [if_pos c12] at h
  obtain ⟨p, e1, h2⟩ := bind_ok h
  cases h2; exact okb_nil (by show (1 : Nat) ≤ 1000000; omega) _
 rw [if_neg c12] at h
 obtain ⟨p, e1, h2⟩ := bind_ok h
 cases h2; exact okb_nil (Nat.zero_le _) _
theorem itemS_ok (ht : ts.length ≤ 20000) {k : Nat} {q : It × Nat} (h : itemS ts s k = .ok q) : Ok2 q.1 := by
 unfold itemS at h
 split at h
 ·
  cases h
 ·
  obtain ⟨p, e1, h2⟩ := bind_ok h
  obtain ⟨k2, _, h3⟩ := sbind_ok h2
  cases h3
  exact bodyS_ok ht _ e1
theorem itemsS_ok (ht : ts.length ≤ 20000) : ∀ (n : Nat) (l : List It) (k : Nat) (q : List It × Nat), (∀ x ∈ l, Ok2 x) → itemsS ts s n l k = .ok q → (∀ x ∈ q.1, Ok2 x) ∧ q.1.length ≤ l.length + n
 | 0, l, k, q, hl, h => by
   simp only [itemsS] at h
   split at h
   ·
    cases h
   ·
    cases h; exact ⟨hl, Nat.le_refl _⟩
 | n + 1, l, k, q, hl, h => by
   simp only [itemsS] at h
   split at h
   ·
    obtain ⟨p, e1, h2⟩ := bind_ok h
    have := itemsS_ok ht n _ _ q (fun x hx => by
     rcases List.mem_append.1 hx with hx | hx
     ·
      exact hl x hx
     ·
      rw [List.mem_singleton.1 hx]; exact itemS_ok ht e1) h2
    rw [List.length_append, List.length_singleton] at this
    exact ⟨this.1, by omega⟩
   ·
    cases h; exact ⟨hl, Nat.le_add_right _ _⟩
end
/-- what a text's items are: short rows, no more than a thousand -/
theorem text_ok (s : ByteArray) (hs : s.size ≤ 20000) : (∀ x ∈ (resS [] s (itemsS (lexT s) s 1000 [] 0)).2, Ok2 x) ∧ (resS [] s (itemsS (lexT s) s 1000 [] 0)).2.length ≤ 1000 := by
 have ht : (lexT s).length ≤ 20000 := by have := lexT_len s; omega
 unfold resS
 split
 ·
  exact ⟨fun x hx => by simp at hx, by simp⟩
 ·
  cases e : endS (lexT s) (itemsS (lexT s) s 1000 [] 0) with
  | error x => exact ⟨fun x hx => by simp at hx, by simp⟩
  | ok q =>
    obtain ⟨p, e1, h2⟩ := bind_ok e
    have hq := itemsS_ok ht _ _ _ p (fun x hx => by simp at hx) e1
    split at h2
    ·
     cases h2
    ·
     cases h2
     exact ⟨hq.1, by have := hq.2; simp only [List.length_nil] at this; dsimp only; omega⟩
end Go.Proofs.Ytboeeaekhijboaa
