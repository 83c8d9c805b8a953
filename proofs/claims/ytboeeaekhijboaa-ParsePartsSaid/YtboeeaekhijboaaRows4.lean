/- Rows of nodes that are being made. -/
import Derived.Test.YtboeeaekhijboaaPwords2
import Derived.Deep.AppendLies
namespace Go.Proofs.Ytboeeaekhijboaa
open Go.RowKit
set_option linter.unusedVariables false
set_option linter.unusedSimpArgs false

/-- a cell stays, when an order is drawn (the unifier takes a minute for this behind four stores) -/
theorem drc {w : World} {a : Addr} {v : Value} (h : w.cell? a = some v) : w.drew.cell? a = some v := h
/-- a node's cells -/
abbrev Nc := Int × ByteArray × Int × Value
def cellsN (us : List Nc) : List Value := us.flatMap fun p => [.int .i64 p.1, .string p.2.1, .int .i64 p.2.2.1, p.2.2.2]
theorem cellsN_len (us : List Nc) : (cellsN us).length = us.length * 4 := by
  induction us with
  | nil => rfl
  | cons p r ih =>
    have e : cellsN (p :: r) = [.int .i64 p.1, .string p.2.1, .int .i64 p.2.2.1, p.2.2.2] ++ cellsN r := rfl
    rw [e, List.length_append, ih]; simp; omega
theorem cellsN_app (l r : List Nc) : cellsN (l ++ r) = cellsN l ++ cellsN r := by simp [cellsN]
theorem cellsN_get (l : List Nc) (i : Nat) (h : i < l.length) : (cellsN l)[i * 4]? = some (.int .i64 l[i].1) ∧ (cellsN l)[i * 4 + 1]? = some (.string l[i].2.1) ∧ (cellsN l)[i * 4 + 2]? = some (.int .i64 l[i].2.2.1) ∧ (cellsN l)[i * 4 + 3]? = some l[i].2.2.2 := by
  induction l generalizing i with
  | nil => simp at h
  | cons p r ih =>
    have e : cellsN (p :: r) = [.int .i64 p.1, .string p.2.1, .int .i64 p.2.2.1, p.2.2.2] ++ cellsN r := rfl
    cases i with
    | zero => rw [e]; simp
    | succ i =>
      obtain ⟨a, b, c, d⟩ := ih i (by simpa using h)
      have l5 : ([.int .i64 p.1, .string p.2.1, .int .i64 p.2.2.1, p.2.2.2] : List Value).length = 4 := rfl
      rw [e]
      refine ⟨?_, ?_, ?_, ?_⟩
      · rw [List.getElem?_append_right (by rw [l5]; omega), l5, show (i + 1) * 4 - 4 = i * 4 by omega]; simpa using a
      · rw [List.getElem?_append_right (by rw [l5]; omega), l5, show (i + 1) * 4 + 1 - 4 = i * 4 + 1 by omega]; simpa using b
      · rw [List.getElem?_append_right (by rw [l5]; omega), l5, show (i + 1) * 4 + 2 - 4 = i * 4 + 2 by omega]; simpa using c
      · rw [List.getElem?_append_right (by rw [l5]; omega), l5, show (i + 1) * 4 + 3 - 4 = i * 4 + 3 by omega]; simpa using d
/-- the cells are the node's -/
def NL (w : World) (X : Nat → Prop) (p : Nc) (n : Nd) : Prop := p.1 = n.kind ∧ p.2.1 = n.word ∧ p.2.2.1 = n.at ∧ Ts w X p.2.2.2 n.kids
theorem NL.chg {w w' : World} {X : Nat → Prop} {p : Nc} {n : Nd} (h : NL w X p n) {S : Nat → Prop} (g : Chg S w w') (hn : ∀ x, X x → ¬ S x) : NL w' X p n := ⟨h.1, h.2.1, h.2.2.1, h.2.2.2.chg g hn⟩
theorem NL.up {w : World} {X Y : Nat → Prop} {p : Nc} {n : Nd} (h : NL w X p n) (hb : ∀ x, X x → Y x) : NL w Y p n := ⟨h.1, h.2.1, h.2.2.1, h.2.2.2.up hb⟩

/-- An own row whose kids lie is a row of nodes. -/
theorem nacc_ts {w : World} {base : Nat} {E : TypeId} {v : Value} {us : List Nc} (h : w.ownsRow base E 4 v us.length (cellsN us)) {X : Nat → Prop} (hX : ∀ r, v.ownBlock = some r → X r) {f : Ns} (hl : f.toL.length = us.length)
    (he : ∀ i (h1 : i < f.toL.length) (h2 : i < us.length), NL w X us[i] f.toL[i]) : Ts w X v f := by
  have hlen := Ns.toL_len f
  obtain ⟨h1, h2⟩ := id h
  rcases h2 with ⟨rfl, h3⟩ | ⟨g, cap, cur, rfl, h3⟩
  · have : f = .nil := Ns.len_nil (by omega)
    subst this
    exact Ts.nil _ _
  · refine ⟨_, cap, by rw [← hlen, hl], Or.inr ⟨g, 0, rfl, hX g rfl, lies_mk (fun i hi => ?_)⟩⟩
    obtain ⟨a, b, c, d⟩ := cellsN_get us i (by omega)
    have hc := World.ownsRow.cells h (g := g) rfl
    have ha := hc _ _ a
    have hb := hc _ _ b
    have hcc := hc _ _ c
    have hd := hc _ _ d
    rw [add_at', Nat.zero_add] at ha hb hcc hd
    obtain ⟨e1, e2, e3, e4⟩ := he i hi (by omega)
    refine ⟨?_, ?_, ?_, us[i].2.2.2, ?_, e4⟩
    · rw [Nat.zero_add, ← e1]; exact ha
    · rw [Nat.zero_add, ← e2]; exact hb
    · rw [Nat.zero_add, ← e3]; exact hcc
    · rw [Nat.zero_add]; exact hd

/-- What is made so far: not in the row itself. -/
def Same4 (w : World) (B : Nat) (u : Value) (f : Ns) (us : List Nc) : Prop :=
  us.length ≤ f.toL.length ∧ ∀ j (h1 : j < f.toL.length) (h2 : j < us.length), NL w (fun x => B ≤ x ∧ x < w.heap.size ∧ u.ownBlock ≠ some x) us[j] f.toL[j]
theorem Same4.nil (w : World) (B : Nat) (u : Value) (f : Ns) : Same4 w B u f [] := ⟨Nat.zero_le _, fun j h1 h2 => absurd h2 (Nat.not_lt_zero _)⟩
theorem Same4.chg {w w' : World} {B : Nat} {u : Value} {f : Ns} {us : List Nc} (h : Same4 w B u f us) {S : Nat → Prop} (g : Chg S w w') (hn : ∀ x, B ≤ x → x < w.heap.size → u.ownBlock ≠ some x → ¬ S x) : Same4 w' B u f us :=
  ⟨h.1, fun j h1 h2 => (((h.2 j h1 h2)).chg g (fun x hx => hn x hx.1 hx.2.1 hx.2.2)).up (fun x hx => ⟨hx.1, Nat.lt_of_lt_of_le hx.2.1 g.size, hx.2.2⟩)⟩
/-- The row has grown. -/
theorem Same4.grown {w w' : World} {B : Nat} {u u' : Value} {f : Ns} {us : List Nc} (h : Same4 w B u f us) (hg : w.grownBy w' u.ownBlock) (hu : u'.ownBlock = u.ownBlock ∨ u'.ownBlock = some w.heap.size) : Same4 w' B u' f us :=
  ⟨h.1, fun j h1 h2 => ((h.2 j h1 h2).chg ((Chg.refl (fun x => u.ownBlock = some x) w).grown hg (fun r e => Or.inl e)) (fun x hx e => hx.2.2 e)).up (fun x hx => ⟨hx.1, Nat.lt_of_lt_of_le hx.2.1 hg.size, fun e => by
    rcases hu with hu | hu
    · rw [hu] at e; exact hx.2.2 e
    · rw [hu] at e; have := Option.some.inj e; omega⟩)⟩
theorem Same4.snoc {w : World} {B : Nat} {u : Value} {f : Ns} {us : List Nc} (h : Same4 w B u f us) {i : Nat} (hi : i < f.toL.length) (hl : us.length = i) {p : Nc} (hv : NL w (fun x => B ≤ x ∧ x < w.heap.size ∧ u.ownBlock ≠ some x) p (f.toL[i])) : Same4 w B u f (us ++ [p]) := by
  refine ⟨by rw [List.length_append, hl]; exact hi, fun j h1 h2 => ?_⟩
  by_cases e : j < us.length
  · rw [List.getElem_append_left e]; exact h.2 j h1 e
  · have : j = i := by rw [List.length_append, List.length_singleton] at h2; omega
    subst this
    subst hl
    simp only [List.getElem_append_right (Nat.le_refl _), Nat.sub_self, List.getElem_cons_zero]
    exact hv
theorem nacc_snoc {w : World} {base : Nat} {E : TypeId} {v : Value} {us : List Nc} {p : Nc} (h : w.ownsRow base E 4 v (us.length + 1) (cellsN us ++ [.int .i64 p.1, .string p.2.1, .int .i64 p.2.2.1, p.2.2.2])) : w.ownsRow base E 4 v (us ++ [p]).length (cellsN (us ++ [p])) := by
  rw [List.length_append, cellsN_app]
  exact h
end Go.Proofs.Ytboeeaekhijboaa
