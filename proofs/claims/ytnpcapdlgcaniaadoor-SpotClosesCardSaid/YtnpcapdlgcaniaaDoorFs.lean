/- Types as they lie in memory: rows of types, each with its own row of arguments. -/
import Derived.Test.YtnpcapdlgcaniaaDoorBase
namespace Go.Proofs.YtnpcapdlgcaniaaDoor
open Go.RowKit
set_option linter.unusedVariables false
set_option linter.unusedSimpArgs false

/-- a row of types -/
inductive Fs where
  | nil : Fs
  | cons (k : Fs) (b : Int) (r : Fs) : Fs

def Fs.len : Fs → Nat
  | .nil => 0
  | .cons _ _ r => r.len + 1
def Fs.toL : Fs → List (Fs × Int)
  | .nil => []
  | .cons k b r => (k, b) :: r.toL
def Fs.ofL : List (Fs × Int) → Fs
  | [] => .nil
  | (k, b) :: r => .cons k b (ofL r)
/-- how many types -/
def Fs.size : Fs → Nat
  | .nil => 0
  | .cons k _ r => k.size + r.size + 1

theorem Fs.toL_len (f : Fs) : f.toL.length = f.len := by
  induction f with
  | nil => rfl
  | cons k b r _ ih => simp only [toL, len, List.length_cons, ih]
theorem Fs.ofL_toL (f : Fs) : ofL f.toL = f := by
  induction f with
  | nil => rfl
  | cons k b r _ ih => simp only [toL, ofL, ih]
theorem Fs.toL_ofL (l : List (Fs × Int)) : (ofL l).toL = l := by
  induction l with
  | nil => rfl
  | cons x r ih => simp only [ofL, toL, ih]
theorem Fs.len_nil {f : Fs} (h : f.len = 0) : f = .nil := by
  cases f with
  | nil => rfl
  | cons k b r => simp [len] at h
theorem Fs.kid_size : ∀ (f : Fs) (i : Nat) (h : i < f.toL.length), (f.toL[i]).1.size < f.size
  | .nil, i, h => absurd h (Nat.not_lt_zero _)
  | .cons k b r, 0, h => by simp only [toL, size, List.getElem_cons_zero]; omega
  | .cons k b r, i + 1, h => by
    have := Fs.kid_size r i (by simpa [toL] using h)
    simp only [toL, size, List.getElem_cons_succ]
    omega
theorem Fs.len_size (f : Fs) : f.len ≤ f.size := by
  induction f with
  | nil => exact Nat.le_refl _
  | cons k b r _ ih => simp only [len, size]; omega

/-- The row f lies at this place. -/
def Lies (w : World) (X : Nat → Prop) : Fs → Nat → Nat → Prop
  | .nil, _, _ => True
  | .cons k b r, g, off =>
    (∃ a cap, w.cell? ⟨g, off, none⟩ = some (.slice a k.len cap) ∧ (k = .nil ∨ ∃ g' off', a = some ⟨g', off', none⟩ ∧ X g' ∧ Lies w X k g' off')) ∧
    w.cell? ⟨g, off + 1, none⟩ = some (.int .i64 b) ∧ Lies w X r g (off + 2)
/-- The value is the row f. -/
def Ts (w : World) (X : Nat → Prop) (v : Value) (f : Fs) : Prop :=
  ∃ a cap, v = .slice a f.len cap ∧ (f = .nil ∨ ∃ g off, a = some ⟨g, off, none⟩ ∧ X g ∧ Lies w X f g off)

theorem lies_cons {w : World} {X : Nat → Prop} {k r : Fs} {b : Int} {g off : Nat} : Lies w X (.cons k b r) g off ↔ (∃ v, w.cell? ⟨g, off, none⟩ = some v ∧ Ts w X v k) ∧ w.cell? ⟨g, off + 1, none⟩ = some (.int .i64 b) ∧ Lies w X r g (off + 2) := by
  constructor
  · rintro ⟨⟨a, cap, h1, h2⟩, h3, h4⟩
    exact ⟨⟨_, h1, a, cap, rfl, h2⟩, h3, h4⟩
  · rintro ⟨⟨v, h1, a, cap, rfl, h2⟩, h3, h4⟩
    exact ⟨⟨a, cap, h1, h2⟩, h3, h4⟩

theorem Ts.nil (w : World) (X : Nat → Prop) : Ts w X (.slice none 0 0) .nil := ⟨none, 0, rfl, Or.inl rfl⟩

theorem lies_get {w : World} {X : Nat → Prop} : ∀ {f : Fs} {g off : Nat}, Lies w X f g off → ∀ i (hi : i < f.toL.length), (∃ v, w.cell? ⟨g, off + i * 2, none⟩ = some v ∧ Ts w X v (f.toL[i]).1) ∧ w.cell? ⟨g, off + i * 2 + 1, none⟩ = some (.int .i64 (f.toL[i]).2)
  | .nil, g, off, _, i, hi => absurd hi (Nat.not_lt_zero _)
  | .cons k b r, g, off, h, 0, hi => by
    obtain ⟨h1, h2, _⟩ := lies_cons.1 h
    simp only [Nat.zero_mul, Nat.add_zero, Fs.toL, List.getElem_cons_zero]
    exact ⟨h1, h2⟩
  | .cons k b r, g, off, h, i + 1, hi => by
    obtain ⟨_, _, h3⟩ := lies_cons.1 h
    have := lies_get h3 i (by simpa [Fs.toL] using hi)
    simp only [Fs.toL, List.getElem_cons_succ]
    rw [show off + (i + 1) * 2 = off + 2 + i * 2 by omega]
    exact this

theorem lies_mk {w : World} {X : Nat → Prop} : ∀ {f : Fs} {g off : Nat}, (∀ i (hi : i < f.toL.length), (∃ v, w.cell? ⟨g, off + i * 2, none⟩ = some v ∧ Ts w X v (f.toL[i]).1) ∧ w.cell? ⟨g, off + i * 2 + 1, none⟩ = some (.int .i64 (f.toL[i]).2)) → Lies w X f g off
  | .nil, g, off, _ => trivial
  | .cons k b r, g, off, h => by
    have h0 := h 0 (by simp [Fs.toL])
    simp only [Nat.zero_mul, Nat.add_zero, Fs.toL, List.getElem_cons_zero] at h0
    refine lies_cons.2 ⟨h0.1, h0.2, lies_mk (fun i hi => ?_)⟩
    have := h (i + 1) (by simpa [Fs.toL] using hi)
    simp only [Fs.toL, List.getElem_cons_succ] at this
    rw [show off + (i + 1) * 2 = off + 2 + i * 2 by omega] at this
    exact this

theorem lies_chg {w w' : World} {S : Nat → Prop} (gc : Chg S w w') {X : Nat → Prop} (hn : ∀ x, X x → ¬ S x) : ∀ {f : Fs} {g off : Nat}, X g → Lies w X f g off → Lies w' X f g off
  | .nil, g, off, _, _ => trivial
  | .cons k b r, g, off, hg, ⟨⟨a, cap, h1, h2⟩, h3, h4⟩ => by
    refine ⟨⟨a, cap, gc.cell (hn g hg) h1, ?_⟩, gc.cell (hn g hg) h3, lies_chg gc hn hg h4⟩
    rcases h2 with h2 | ⟨g', off', e, hg', hl⟩
    · exact Or.inl h2
    · exact Or.inr ⟨g', off', e, hg', lies_chg gc hn hg' hl⟩
theorem Ts.chg {w w' : World} {X : Nat → Prop} {v : Value} {f : Fs} (h : Ts w X v f) {S : Nat → Prop} (g : Chg S w w') (hn : ∀ x, X x → ¬ S x) : Ts w' X v f := by
  obtain ⟨a, cap, e, h1⟩ := h
  refine ⟨a, cap, e, ?_⟩
  rcases h1 with h1 | ⟨g1, off, e1, h2, h3⟩
  · exact Or.inl h1
  · exact Or.inr ⟨g1, off, e1, h2, lies_chg g hn h2 h3⟩
theorem lies_up {w : World} {X Y : Nat → Prop} (hb : ∀ x, X x → Y x) : ∀ {f : Fs} {g off : Nat}, Lies w X f g off → Lies w Y f g off
  | .nil, g, off, _ => trivial
  | .cons k b r, g, off, ⟨⟨a, cap, h1, h2⟩, h3, h4⟩ => by
    refine ⟨⟨a, cap, h1, ?_⟩, h3, lies_up hb h4⟩
    rcases h2 with h2 | ⟨g', off', e, hg', hl⟩
    · exact Or.inl h2
    · exact Or.inr ⟨g', off', e, hb _ hg', lies_up hb hl⟩
theorem Ts.up {w : World} {X Y : Nat → Prop} {v : Value} {f : Fs} (h : Ts w X v f) (hb : ∀ x, X x → Y x) : Ts w Y v f := by
  obtain ⟨a, cap, e, h1⟩ := h
  refine ⟨a, cap, e, ?_⟩
  rcases h1 with h1 | ⟨g1, off, e1, h2, h3⟩
  · exact Or.inl h1
  · exact Or.inr ⟨g1, off, e1, hb _ h2, lies_up hb h3⟩

/-- The cells of a row: each type's arguments and base. -/
def cellsV (us : List (Value × Int)) : List Value := us.flatMap fun p => [p.1, .int .i64 p.2]
theorem cellsV_cons (p : Value × Int) (r : List (Value × Int)) : cellsV (p :: r) = [p.1, .int .i64 p.2] ++ cellsV r := rfl
theorem cellsV_len (l : List (Value × Int)) : (cellsV l).length = l.length * 2 := by
  induction l with
  | nil => rfl
  | cons p r ih => rw [cellsV_cons, List.length_append, ih]; simp; omega
theorem cellsV_app (l r : List (Value × Int)) : cellsV (l ++ r) = cellsV l ++ cellsV r := by simp [cellsV]
theorem cellsV_get (l : List (Value × Int)) (i : Nat) (h : i < l.length) : (cellsV l)[i * 2]? = some l[i].1 ∧ (cellsV l)[i * 2 + 1]? = some (.int .i64 l[i].2) := by
  induction l generalizing i with
  | nil => simp at h
  | cons p r ih =>
    cases i with
    | zero => rw [cellsV_cons]; simp
    | succ i =>
      obtain ⟨a, b⟩ := ih i (by simpa using h)
      have l2 : ([p.1, .int .i64 p.2] : List Value).length = 2 := rfl
      rw [cellsV_cons, List.getElem?_append_right (by rw [l2]; omega), List.getElem?_append_right (by rw [l2]; omega), l2]
      rw [show (i + 1) * 2 - 2 = i * 2 by omega, show (i + 1) * 2 + 1 - 2 = i * 2 + 1 by omega]
      simpa using ⟨a, b⟩

/-- An own row of types. -/
def TAcc (w : World) (base : Nat) (v : Value) (us : List (Value × Int)) : Prop := w.ownsRow base 73 2 v us.length (cellsV us)

/-- An own row whose types lie is a row of types. -/
theorem tacc_ts {w : World} {base : Nat} {v : Value} {us : List (Value × Int)} (h : TAcc w base v us) {X : Nat → Prop} (hX : ∀ r, v.ownBlock = some r → X r) {f : Fs} (hl : f.toL.length = us.length)
    (he : ∀ i (h1 : i < f.toL.length) (h2 : i < us.length), (f.toL[i]).2 = (us[i]).2 ∧ Ts w X (us[i]).1 (f.toL[i]).1) : Ts w X v f := by
  have hlen := Fs.toL_len f
  obtain ⟨h1, h2⟩ := id h
  rcases h2 with ⟨rfl, h3⟩ | ⟨g, cap, cur, rfl, h3⟩
  · have : f = .nil := Fs.len_nil (by omega)
    subst this
    exact Ts.nil _ _
  · refine ⟨_, cap, by rw [← hlen, hl], Or.inr ⟨g, 0, rfl, hX g rfl, lies_mk (fun i hi => ?_)⟩⟩
    obtain ⟨a, b⟩ := cellsV_get us i (by omega)
    have hc := World.ownsRow.cells h (g := g) rfl
    have ha := hc _ _ a
    have hb := hc _ _ b
    rw [add_at, Nat.zero_add] at ha hb
    obtain ⟨e1, e2⟩ := he i hi (by omega)
    exact ⟨⟨_, by rw [Nat.zero_add]; exact ha, e2⟩, by rw [Nat.zero_add, e1]; exact hb⟩

/-- What is copied so far: not in the row itself. -/
def Same1 (w : World) (B : Nat) (u : Value) (f : Fs) (us : List (Value × Int)) : Prop :=
  us.length ≤ f.toL.length ∧ ∀ j (h1 : j < f.toL.length) (h2 : j < us.length), (f.toL[j]).2 = (us[j]).2 ∧ Ts w (fun x => B ≤ x ∧ x < w.heap.size ∧ u.ownBlock ≠ some x) (us[j]).1 (f.toL[j]).1
theorem Same1.nil (w : World) (B : Nat) (u : Value) (f : Fs) : Same1 w B u f [] := ⟨Nat.zero_le _, fun j h1 h2 => absurd h2 (Nat.not_lt_zero _)⟩
theorem Same1.chg {w w' : World} {B : Nat} {u : Value} {f : Fs} {us : List (Value × Int)} (h : Same1 w B u f us) {S : Nat → Prop} (g : Chg S w w') (hn : ∀ x, B ≤ x → x < w.heap.size → u.ownBlock ≠ some x → ¬ S x) : Same1 w' B u f us :=
  ⟨h.1, fun j h1 h2 => ⟨(h.2 j h1 h2).1, ((h.2 j h1 h2).2.chg g (fun x hx => hn x hx.1 hx.2.1 hx.2.2)).up (fun x hx => ⟨hx.1, Nat.lt_of_lt_of_le hx.2.1 g.size, hx.2.2⟩)⟩⟩
/-- The row has grown. -/
theorem Same1.grown {w w' : World} {B : Nat} {u u' : Value} {f : Fs} {us : List (Value × Int)} (h : Same1 w B u f us) (hg : w.grownBy w' u.ownBlock) (hu : u'.ownBlock = u.ownBlock ∨ u'.ownBlock = some w.heap.size) : Same1 w' B u' f us :=
  ⟨h.1, fun j h1 h2 => ⟨(h.2 j h1 h2).1, ((h.2 j h1 h2).2.chg ((Chg.refl (fun x => u.ownBlock = some x) w).grown hg (fun r e => Or.inl e)) (fun x hx e => hx.2.2 e)).up (fun x hx => ⟨hx.1, Nat.lt_of_lt_of_le hx.2.1 hg.size, fun e => by
    rcases hu with hu | hu
    · rw [hu] at e; exact hx.2.2 e
    · rw [hu] at e; have := Option.some.inj e; omega⟩)⟩⟩
theorem Same1.snoc {w : World} {B : Nat} {u : Value} {f : Fs} {us : List (Value × Int)} (h : Same1 w B u f us) {i : Nat} (hi : i < f.toL.length) (hl : us.length = i) {v : Value} {b : Int} (hb : (f.toL[i]).2 = b) (hv : Ts w (fun x => B ≤ x ∧ x < w.heap.size ∧ u.ownBlock ≠ some x) v (f.toL[i]).1) : Same1 w B u f (us ++ [(v, b)]) := by
  refine ⟨by rw [List.length_append, hl]; exact hi, fun j h1 h2 => ?_⟩
  by_cases e : j < us.length
  · rw [List.getElem_append_left e]; exact h.2 j h1 e
  · have : j = i := by rw [List.length_append, List.length_singleton] at h2; omega
    subst this
    subst hl
    simp only [List.getElem_append_right (Nat.le_refl _), Nat.sub_self, List.getElem_cons_zero]
    exact ⟨hb, hv⟩
theorem tacc_snoc {w : World} {base : Nat} {v : Value} {us : List (Value × Int)} {x : Value} {b : Int} (h : w.ownsRow base 73 2 v (us.length + 1) (cellsV us ++ [x, .int .i64 b])) : TAcc w base v (us ++ [(x, b)]) := by
  unfold TAcc
  rw [List.length_append, cellsV_app]
  exact h
end Go.Proofs.YtnpcapdlgcaniaaDoor
