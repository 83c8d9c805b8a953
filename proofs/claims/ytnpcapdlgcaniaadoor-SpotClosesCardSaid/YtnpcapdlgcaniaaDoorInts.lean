/- Rows of ints as they lie in memory; which of two is ahead. -/
import Derived.Test.YtnpcapdlgcaniaaDoorBase
namespace Go.Proofs.YtnpcapdlgcaniaaDoor
open Go.RowKit
set_option linter.unusedVariables false
set_option linter.unusedSimpArgs false

/-- The value is the row of ints l. -/
def Il (w : World) (X : Nat → Prop) (v : Value) (l : List Int) : Prop :=
  ∃ a cap, v = .slice a l.length cap ∧ (l = [] ∨ ∃ g off, a = some ⟨g, off, none⟩ ∧ X g ∧ ∀ i (h : i < l.length), w.cell? ⟨g, off + i, none⟩ = some (.int .i64 l[i]))
theorem Il.nil (w : World) (X : Nat → Prop) : Il w X (.slice none 0 0) [] := ⟨none, 0, rfl, Or.inl rfl⟩
theorem Il.chg {w w' : World} {X : Nat → Prop} {v : Value} {l : List Int} (h : Il w X v l) {S : Nat → Prop} (g : Chg S w w') (hn : ∀ x, X x → ¬ S x) : Il w' X v l := by
  obtain ⟨a, cap, e, h1⟩ := h
  refine ⟨a, cap, e, ?_⟩
  rcases h1 with h1 | ⟨b, off, e1, h2, h3⟩
  · exact Or.inl h1
  · exact Or.inr ⟨b, off, e1, h2, fun i hi => g.cell (hn b h2) (h3 i hi)⟩
theorem Il.up {w : World} {X Y : Nat → Prop} {v : Value} {l : List Int} (h : Il w X v l) (hb : ∀ x, X x → Y x) : Il w Y v l := by
  obtain ⟨a, cap, e, h1⟩ := h
  refine ⟨a, cap, e, ?_⟩
  rcases h1 with h1 | ⟨b, off, e1, h2, h3⟩
  · exact Or.inl h1
  · exact Or.inr ⟨b, off, e1, hb b h2, h3⟩
/-- a row of one's own is a row of ints -/
theorem il_own {w : World} {base : Nat} {E : TypeId} {v : Value} {l : List Int} (h : w.ownsRow base E 1 v l.length (l.map (.int .i64))) {X : Nat → Prop} (hX : ∀ r, v.ownBlock = some r → X r) : Il w X v l := by
  obtain ⟨h1, h2⟩ := id h
  rcases h2 with ⟨rfl, h3⟩ | ⟨g, cap, cur, rfl, h3⟩
  · have : l = [] := List.eq_nil_of_length_eq_zero h3
    subst this
    exact Il.nil _ _
  · refine ⟨_, cap, rfl, Or.inr ⟨g, 0, rfl, hX g rfl, fun i hi => ?_⟩⟩
    have hc := World.ownsRow.cells h (g := g) rfl
    have := hc i (.int .i64 l[i]) (by simp [hi])
    rw [add_at] at this
    exact this
/-- the first n of a row -/
theorem Il.take {w : World} {X : Nat → Prop} {a : Option Addr} {len cap : Nat} {l : List Int} (h : Il w X (.slice a len cap) l) (n c : Nat) (hn : n ≤ len) : Il w X (.slice a n c) (l.take n) := by
  obtain ⟨a', c', e, h1⟩ := h
  injection e with e1 e2 e3
  subst e1 e2
  refine ⟨a, c, by rw [List.length_take]; congr 1; omega, ?_⟩
  rcases h1 with h1 | ⟨b, off, e1, h2, h3⟩
  · exact Or.inl (by rw [h1]; simp)
  · exact Or.inr ⟨b, off, e1, h2, fun i hi => by
      rw [List.length_take] at hi
      rw [List.getElem_take]
      exact h3 i (by omega)⟩

/-- which of two rows is ahead -/
def cmpL : List Int → List Int → Int
  | [], [] => 0
  | [], _ :: _ => -1
  | _ :: _, [] => 1
  | x :: l, y :: m => if x < y then -1 else if y < x then 1 else cmpL l m
theorem cmpL_anti : ∀ l m, cmpL m l = - cmpL l m
  | [], [] => rfl
  | [], _ :: _ => rfl
  | _ :: _, [] => rfl
  | x :: l, y :: m => by
    simp only [cmpL]
    by_cases h1 : x < y
    · rw [if_pos h1, if_neg (show ¬ y < x by omega), if_pos h1]; rfl
    · by_cases h2 : y < x
      · rw [if_pos h2, if_neg h1, if_pos h2]
      · rw [if_neg h2, if_neg h1, if_neg h1, if_neg h2]; exact cmpL_anti l m
theorem cmpL_self : ∀ l, cmpL l l = 0
  | [] => rfl
  | x :: l => by simp only [cmpL]; rw [if_neg (by omega), if_neg (by omega)]; exact cmpL_self l
/-- the same row -/
def intsEq : List Int → List Int → Bool
  | [], [] => true
  | x :: l, y :: m => (x == y) && intsEq l m
  | _, _ => false
theorem intsEq_iff : ∀ {l m : List Int}, intsEq l m = true ↔ l = m
  | [], [] => by simp [intsEq]
  | [], _ :: _ => by simp [intsEq]
  | _ :: _, [] => by simp [intsEq]
  | x :: l, y :: m => by simp [intsEq, intsEq_iff (l := l) (m := m)]
theorem cmpL_eq : ∀ {l m : List Int}, cmpL l m = 0 ↔ l = m
  | [], [] => by simp [cmpL]
  | [], _ :: _ => by simp [cmpL]
  | _ :: _, [] => by simp [cmpL]
  | x :: l, y :: m => by
    simp only [cmpL]
    by_cases h1 : x < y
    · rw [if_pos h1]; simp; omega
    · rw [if_neg h1]
      by_cases h2 : y < x
      · rw [if_pos h2]; simp; omega
      · rw [if_neg h2, cmpL_eq (l := l) (m := m)]
        have : x = y := by omega
        simp [this]
/-- from the i-th on, both being the same ahead of it -/
theorem cmpL_drop {l m : List Int} {i : Nat} (h1 : i < l.length) (h2 : i < m.length) : cmpL (l.drop i) (m.drop i) = if l[i] < m[i] then -1 else if m[i] < l[i] then 1 else cmpL (l.drop (i + 1)) (m.drop (i + 1)) := by
  rw [List.drop_eq_getElem_cons h1, List.drop_eq_getElem_cons h2]; rfl
end Go.Proofs.YtnpcapdlgcaniaaDoor
