/- Terms as they lie in memory: rows of terms, each with its row of types and its own row of arguments. -/
import Derived.Test.YtnpcapdlgcaniaaDoorFs
namespace Go.Proofs.YtnpcapdlgcaniaaDoor
open Go.RowKit
set_option linter.unusedVariables false
set_option linter.unusedSimpArgs false

/-- a row of terms: the first one's binders, head (kind, index), arguments; the others -/
inductive Tms where
  | nil : Tms
  | cons (bs : Fs) (k i : Int) (ag : Tms) (r : Tms) : Tms
/-- a term -/
abbrev Tm := Fs × Int × Int × Tms
abbrev Tm.bs (t : Tm) : Fs := t.1
abbrev Tm.kd (t : Tm) : Int := t.2.1
abbrev Tm.ix (t : Tm) : Int := t.2.2.1
abbrev Tm.ag (t : Tm) : Tms := t.2.2.2
def Tms.len : Tms → Nat
  | .nil => 0
  | .cons _ _ _ _ r => r.len + 1
def Tms.toL : Tms → List Tm
  | .nil => []
  | .cons b k i a r => (b, k, i, a) :: r.toL
def Tms.ofL : List Tm → Tms
  | [] => .nil
  | (b, k, i, a) :: r => .cons b k i a (ofL r)
/-- how many terms and types -/
def Tms.size : Tms → Nat
  | .nil => 0
  | .cons b _ _ a r => b.size + a.size + r.size + 1
theorem Tms.toL_len (f : Tms) : f.toL.length = f.len := by
  induction f with
  | nil => rfl
  | cons b k i a r _ ih => simp only [toL, len, List.length_cons, ih]
theorem Tms.ofL_toL (f : Tms) : ofL f.toL = f := by
  induction f with
  | nil => rfl
  | cons b k i a r _ ih => simp only [toL, ofL, ih]
theorem Tms.toL_ofL (l : List Tm) : (ofL l).toL = l := by
  induction l with
  | nil => rfl
  | cons x r ih => simp only [ofL, toL, ih]
theorem Tms.kid_size : ∀ (f : Tms) (i : Nat) (h : i < f.toL.length), (f.toL[i]).ag.size < f.size ∧ (f.toL[i]).bs.size < f.size
  | .nil, i, h => absurd h (Nat.not_lt_zero _)
  | .cons b k j a r, 0, h => by simp only [toL, size, List.getElem_cons_zero, Tm.ag, Tm.bs]; omega
  | .cons b k j a r, i + 1, h => by
    have := Tms.kid_size r i (by simpa [toL] using h)
    simp only [toL, size, List.getElem_cons_succ]
    omega
theorem Tms.len_size (f : Tms) : f.len ≤ f.size := by
  induction f with
  | nil => exact Nat.le_refl _
  | cons b k i a r _ ih => simp only [len, size]; omega
/-- the row without its first i terms -/
def Tms.drop : Tms → Nat → Tms
  | f, 0 => f
  | .nil, _ + 1 => .nil
  | .cons _ _ _ _ r, i + 1 => r.drop i
theorem Tms.drop_zero (f : Tms) : f.drop 0 = f := by cases f <;> rfl
theorem Tms.drop_get : ∀ (f : Tms) (i : Nat) (h : i < f.toL.length), f.drop i = .cons (f.toL[i]).1 (f.toL[i]).2.1 (f.toL[i]).2.2.1 (f.toL[i]).2.2.2 (f.drop (i + 1))
  | .nil, i, h => absurd h (Nat.not_lt_zero _)
  | .cons b k j a r, 0, h => by simp only [Tms.drop, Tms.toL, List.getElem_cons_zero, Tms.drop_zero]
  | .cons b k j a r, i + 1, h => by
    have := Tms.drop_get r i (by simpa [Tms.toL] using h)
    simp only [Tms.drop, Tms.toL, List.getElem_cons_succ]
    exact this
theorem Tms.drop_all : ∀ f : Tms, f.drop f.len = .nil
  | .nil => rfl
  | .cons b k i a r => by simp only [Tms.len, Tms.drop]; exact Tms.drop_all r

/-- The row f lies at this place. -/
def TLies (w : World) (X : Nat → Prop) : Tms → Nat → Nat → Prop
  | .nil, _, _ => True
  | .cons b k i x r, g, off =>
    (∃ v, w.cell? ⟨g, off, none⟩ = some v ∧ Ts w X v b) ∧ w.cell? ⟨g, off + 1, none⟩ = some (.int .i64 k) ∧ w.cell? ⟨g, off + 2, none⟩ = some (.int .i64 i) ∧
    (∃ ad cap, w.cell? ⟨g, off + 3, none⟩ = some (.slice ad x.len cap) ∧ (x = .nil ∨ ∃ g' off', ad = some ⟨g', off', none⟩ ∧ X g' ∧ TLies w X x g' off')) ∧
    TLies w X r g (off + 4)
/-- The value is the row f. -/
def Tr (w : World) (X : Nat → Prop) (v : Value) (f : Tms) : Prop :=
  ∃ a cap, v = .slice a f.len cap ∧ (f = .nil ∨ ∃ g off, a = some ⟨g, off, none⟩ ∧ X g ∧ TLies w X f g off)
theorem tlies_cons {w : World} {X : Nat → Prop} {k i : Int} {b : Fs} {x r : Tms} {g off : Nat} : TLies w X (.cons b k i x r) g off ↔
    (∃ v, w.cell? ⟨g, off, none⟩ = some v ∧ Ts w X v b) ∧ w.cell? ⟨g, off + 1, none⟩ = some (.int .i64 k) ∧ w.cell? ⟨g, off + 2, none⟩ = some (.int .i64 i) ∧ (∃ v, w.cell? ⟨g, off + 3, none⟩ = some v ∧ Tr w X v x) ∧ TLies w X r g (off + 4) := by
  constructor
  · rintro ⟨h1, h2, h3, ⟨ad, cap, h4, h5⟩, h6⟩
    exact ⟨h1, h2, h3, ⟨_, h4, ad, cap, rfl, h5⟩, h6⟩
  · rintro ⟨h1, h2, h3, ⟨v, h4, ad, cap, rfl, h5⟩, h6⟩
    exact ⟨h1, h2, h3, ⟨ad, cap, h4, h5⟩, h6⟩
theorem Tr.nil (w : World) (X : Nat → Prop) : Tr w X (.slice none 0 0) .nil := ⟨none, 0, rfl, Or.inl rfl⟩
/-- One term of a row, as it lies. -/
def TermAt (w : World) (X : Nat → Prop) (n : Tm) (g off : Nat) : Prop :=
  (∃ v, w.cell? ⟨g, off, none⟩ = some v ∧ Ts w X v n.bs) ∧ w.cell? ⟨g, off + 1, none⟩ = some (.int .i64 n.kd) ∧ w.cell? ⟨g, off + 2, none⟩ = some (.int .i64 n.ix) ∧ ∃ v, w.cell? ⟨g, off + 3, none⟩ = some v ∧ Tr w X v n.ag
theorem tlies_get {w : World} {X : Nat → Prop} : ∀ {f : Tms} {g off : Nat}, TLies w X f g off → ∀ i (hi : i < f.toL.length), TermAt w X (f.toL[i]) g (off + i * 4)
  | .nil, g, off, _, i, hi => absurd hi (Nat.not_lt_zero _)
  | .cons b k j x r, g, off, h, 0, hi => by
    obtain ⟨h1, h2, h3, h4, _⟩ := tlies_cons.1 h
    simp only [Nat.zero_mul, Nat.add_zero, Tms.toL, List.getElem_cons_zero]
    exact ⟨h1, h2, h3, h4⟩
  | .cons b k j x r, g, off, h, i + 1, hi => by
    obtain ⟨_, _, _, _, h3⟩ := tlies_cons.1 h
    have := tlies_get h3 i (by simpa [Tms.toL] using hi)
    simp only [Tms.toL, List.getElem_cons_succ]
    rw [show off + (i + 1) * 4 = off + 4 + i * 4 by omega]
    exact this
theorem tlies_mk {w : World} {X : Nat → Prop} : ∀ {f : Tms} {g off : Nat}, (∀ i (hi : i < f.toL.length), TermAt w X (f.toL[i]) g (off + i * 4)) → TLies w X f g off
  | .nil, g, off, _ => trivial
  | .cons b k j x r, g, off, h => by
    have h0 := h 0 (by simp [Tms.toL])
    simp only [Nat.zero_mul, Nat.add_zero, Tms.toL, List.getElem_cons_zero] at h0
    refine tlies_cons.2 ⟨h0.1, h0.2.1, h0.2.2.1, h0.2.2.2, tlies_mk (fun i hi => ?_)⟩
    have := h (i + 1) (by simpa [Tms.toL] using hi)
    simp only [Tms.toL, List.getElem_cons_succ] at this
    rw [show off + (i + 1) * 4 = off + 4 + i * 4 by omega] at this
    exact this
theorem tlies_chg {w w' : World} {S : Nat → Prop} (gc : Chg S w w') {X : Nat → Prop} (hn : ∀ x, X x → ¬ S x) : ∀ {f : Tms} {g off : Nat}, X g → TLies w X f g off → TLies w' X f g off
  | .nil, g, off, _, _ => trivial
  | .cons b k i x r, g, off, hg, ⟨⟨v, h0, h1⟩, h2, h3, ⟨ad, cap, h4, h5⟩, h6⟩ => by
    refine ⟨⟨v, gc.cell (hn g hg) h0, h1.chg gc hn⟩, gc.cell (hn g hg) h2, gc.cell (hn g hg) h3, ⟨ad, cap, gc.cell (hn g hg) h4, ?_⟩, tlies_chg gc hn hg h6⟩
    rcases h5 with h5 | ⟨g', off', e, hg', hl⟩
    · exact Or.inl h5
    · exact Or.inr ⟨g', off', e, hg', tlies_chg gc hn hg' hl⟩
theorem Tr.chg {w w' : World} {X : Nat → Prop} {v : Value} {f : Tms} (h : Tr w X v f) {S : Nat → Prop} (g : Chg S w w') (hn : ∀ x, X x → ¬ S x) : Tr w' X v f := by
  obtain ⟨a, cap, e, h1⟩ := h
  refine ⟨a, cap, e, ?_⟩
  rcases h1 with h1 | ⟨g1, off, e1, h2, h3⟩
  · exact Or.inl h1
  · exact Or.inr ⟨g1, off, e1, h2, tlies_chg g hn h2 h3⟩
theorem tlies_up {w : World} {X Y : Nat → Prop} (hb : ∀ x, X x → Y x) : ∀ {f : Tms} {g off : Nat}, TLies w X f g off → TLies w Y f g off
  | .nil, g, off, _ => trivial
  | .cons b k i x r, g, off, ⟨⟨v, h0, h1⟩, h2, h3, ⟨ad, cap, h4, h5⟩, h6⟩ => by
    refine ⟨⟨v, h0, h1.up hb⟩, h2, h3, ⟨ad, cap, h4, ?_⟩, tlies_up hb h6⟩
    rcases h5 with h5 | ⟨g', off', e, hg', hl⟩
    · exact Or.inl h5
    · exact Or.inr ⟨g', off', e, hb _ hg', tlies_up hb hl⟩
theorem Tr.up {w : World} {X Y : Nat → Prop} {v : Value} {f : Tms} (h : Tr w X v f) (hb : ∀ x, X x → Y x) : Tr w Y v f := by
  obtain ⟨a, cap, e, h1⟩ := h
  refine ⟨a, cap, e, ?_⟩
  rcases h1 with h1 | ⟨g1, off, e1, h2, h3⟩
  · exact Or.inl h1
  · exact Or.inr ⟨g1, off, e1, hb _ h2, tlies_up hb h3⟩
/-- The value is the term n. -/
def TV (w : World) (X : Nat → Prop) (v : Value) (n : Tm) : Prop :=
  ∃ ba bc a cap, v = .agg #[.slice ba n.bs.len bc, .int .i64 n.kd, .int .i64 n.ix, .slice a n.ag.len cap] ∧ Ts w X (.slice ba n.bs.len bc) n.bs ∧ Tr w X (.slice a n.ag.len cap) n.ag
theorem TV.chg {w w' : World} {X : Nat → Prop} {v : Value} {n : Tm} (h : TV w X v n) {S : Nat → Prop} (g : Chg S w w') (hn : ∀ x, X x → ¬ S x) : TV w' X v n := by
  obtain ⟨ba, bc, a, cap, e, h1, h2⟩ := h
  exact ⟨ba, bc, a, cap, e, h1.chg g hn, h2.chg g hn⟩
theorem TV.up {w : World} {X Y : Nat → Prop} {v : Value} {n : Tm} (h : TV w X v n) (hb : ∀ x, X x → Y x) : TV w Y v n := by
  obtain ⟨ba, bc, a, cap, e, h1, h2⟩ := h
  exact ⟨ba, bc, a, cap, e, h1.up hb, h2.up hb⟩
theorem TV.zero (w : World) (X : Nat → Prop) : TV w X (.agg #[.slice none 0 0, .int .i64 0, .int .i64 0, .slice none 0 0]) (.nil, 0, 0, .nil) := ⟨none, 0, none, 0, rfl, Ts.nil _ _, Tr.nil _ _⟩
/-- a term's cells in a row that is made -/
abbrev Tc := Value × Int × Int × Value
def cellsT (us : List Tc) : List Value := us.flatMap fun p => [p.1, .int .i64 p.2.1, .int .i64 p.2.2.1, p.2.2.2]
theorem cellsT_len (us : List Tc) : (cellsT us).length = us.length * 4 := by
  induction us with
  | nil => rfl
  | cons p r ih =>
    have e : cellsT (p :: r) = [p.1, .int .i64 p.2.1, .int .i64 p.2.2.1, p.2.2.2] ++ cellsT r := rfl
    rw [e, List.length_append, ih]; simp; omega
theorem cellsT_app (l r : List Tc) : cellsT (l ++ r) = cellsT l ++ cellsT r := by simp [cellsT]
theorem cellsT_get (l : List Tc) (i : Nat) (h : i < l.length) : (cellsT l)[i * 4]? = some l[i].1 ∧ (cellsT l)[i * 4 + 1]? = some (.int .i64 l[i].2.1) ∧ (cellsT l)[i * 4 + 2]? = some (.int .i64 l[i].2.2.1) ∧ (cellsT l)[i * 4 + 3]? = some l[i].2.2.2 := by
  induction l generalizing i with
  | nil => simp at h
  | cons p r ih =>
    have e : cellsT (p :: r) = [p.1, .int .i64 p.2.1, .int .i64 p.2.2.1, p.2.2.2] ++ cellsT r := rfl
    cases i with
    | zero => rw [e]; simp
    | succ i =>
      obtain ⟨a, b, c, d⟩ := ih i (by simpa using h)
      have l4 : ([p.1, .int .i64 p.2.1, .int .i64 p.2.2.1, p.2.2.2] : List Value).length = 4 := rfl
      rw [e]
      refine ⟨?_, ?_, ?_, ?_⟩
      · rw [List.getElem?_append_right (by rw [l4]; omega), l4, show (i + 1) * 4 - 4 = i * 4 by omega]; simpa using a
      · rw [List.getElem?_append_right (by rw [l4]; omega), l4, show (i + 1) * 4 + 1 - 4 = i * 4 + 1 by omega]; simpa using b
      · rw [List.getElem?_append_right (by rw [l4]; omega), l4, show (i + 1) * 4 + 2 - 4 = i * 4 + 2 by omega]; simpa using c
      · rw [List.getElem?_append_right (by rw [l4]; omega), l4, show (i + 1) * 4 + 3 - 4 = i * 4 + 3 by omega]; simpa using d
/-- the cells p are the term n -/
def TL (w : World) (X : Nat → Prop) (p : Tc) (n : Tm) : Prop := Ts w X p.1 n.bs ∧ p.2.1 = n.kd ∧ p.2.2.1 = n.ix ∧ Tr w X p.2.2.2 n.ag
theorem TL.chg {w w' : World} {X : Nat → Prop} {p : Tc} {n : Tm} (h : TL w X p n) {S : Nat → Prop} (g : Chg S w w') (hn : ∀ x, X x → ¬ S x) : TL w' X p n := ⟨h.1.chg g hn, h.2.1, h.2.2.1, h.2.2.2.chg g hn⟩
theorem TL.up {w : World} {X Y : Nat → Prop} {p : Tc} {n : Tm} (h : TL w X p n) (hb : ∀ x, X x → Y x) : TL w Y p n := ⟨h.1.up hb, h.2.1, h.2.2.1, h.2.2.2.up hb⟩
theorem Tms.len_nil {f : Tms} (h : f.len = 0) : f = .nil := by
  cases f with
  | nil => rfl
  | cons b k i a r => simp [len] at h
theorem add_atT (g off j : Nat) : (⟨g, off, none⟩ : Addr).add j = ⟨g, off + j, none⟩ := by unfold Addr.add; split <;> simp_all
/-- An own row whose terms lie is a row of terms. -/
theorem tmacc_tr {w : World} {base : Nat} {E : TypeId} {v : Value} {us : List Tc} (h : w.ownsRow base E 4 v us.length (cellsT us)) {X : Nat → Prop} (hX : ∀ r, v.ownBlock = some r → X r) {f : Tms} (hl : f.toL.length = us.length)
    (he : ∀ i (h1 : i < f.toL.length) (h2 : i < us.length), TL w X us[i] f.toL[i]) : Tr w X v f := by
  have hlen := Tms.toL_len f
  obtain ⟨h1, h2⟩ := id h
  rcases h2 with ⟨rfl, h3⟩ | ⟨g, cap, cur, rfl, h3⟩
  · have : f = .nil := Tms.len_nil (by omega)
    subst this
    exact Tr.nil _ _
  · refine ⟨_, cap, by rw [← hlen, hl], Or.inr ⟨g, 0, rfl, hX g rfl, tlies_mk (fun i hi => ?_)⟩⟩
    obtain ⟨a, b, c, d⟩ := cellsT_get us i (by omega)
    have hc := World.ownsRow.cells h (g := g) rfl
    have ha := hc _ _ a
    have hb := hc _ _ b
    have hcc := hc _ _ c
    have hd := hc _ _ d
    rw [add_atT, Nat.zero_add] at ha hb hcc hd
    obtain ⟨e1, e2, e3, e4⟩ := he i hi (by omega)
    refine ⟨⟨us[i].1, ?_, e1⟩, ?_, ?_, us[i].2.2.2, ?_, e4⟩
    · rw [Nat.zero_add]; exact ha
    · rw [Nat.zero_add, ← e2]; exact hb
    · rw [Nat.zero_add, ← e3]; exact hcc
    · rw [Nat.zero_add]; exact hd
/-- What is made so far: not in the row itself. -/
def SameT (w : World) (B : Nat) (u : Value) (f : Tms) (us : List Tc) : Prop :=
  us.length ≤ f.toL.length ∧ ∀ j (h1 : j < f.toL.length) (h2 : j < us.length), TL w (fun x => B ≤ x ∧ x < w.heap.size ∧ u.ownBlock ≠ some x) us[j] f.toL[j]
theorem SameT.nil (w : World) (B : Nat) (u : Value) (f : Tms) : SameT w B u f [] := ⟨Nat.zero_le _, fun j h1 h2 => absurd h2 (Nat.not_lt_zero _)⟩
theorem SameT.chg {w w' : World} {B : Nat} {u : Value} {f : Tms} {us : List Tc} (h : SameT w B u f us) {S : Nat → Prop} (g : Chg S w w') (hn : ∀ x, B ≤ x → x < w.heap.size → u.ownBlock ≠ some x → ¬ S x) : SameT w' B u f us :=
  ⟨h.1, fun j h1 h2 => (((h.2 j h1 h2)).chg g (fun x hx => hn x hx.1 hx.2.1 hx.2.2)).up (fun x hx => ⟨hx.1, Nat.lt_of_lt_of_le hx.2.1 g.size, hx.2.2⟩)⟩
theorem SameT.grown {w w' : World} {B : Nat} {u u' : Value} {f : Tms} {us : List Tc} (h : SameT w B u f us) (hg : w.grownBy w' u.ownBlock) (hu : u'.ownBlock = u.ownBlock ∨ u'.ownBlock = some w.heap.size) : SameT w' B u' f us :=
  ⟨h.1, fun j h1 h2 => ((h.2 j h1 h2).chg ((Chg.refl (fun x => u.ownBlock = some x) w).grown hg (fun r e => Or.inl e)) (fun x hx e => hx.2.2 e)).up (fun x hx => ⟨hx.1, Nat.lt_of_lt_of_le hx.2.1 hg.size, fun e => by
    rcases hu with hu | hu
    · rw [hu] at e; exact hx.2.2 e
    · rw [hu] at e; have := Option.some.inj e; omega⟩)⟩
theorem SameT.snoc {w : World} {B : Nat} {u : Value} {f : Tms} {us : List Tc} (h : SameT w B u f us) {i : Nat} (hi : i < f.toL.length) (hl : us.length = i) {p : Tc} (hv : TL w (fun x => B ≤ x ∧ x < w.heap.size ∧ u.ownBlock ≠ some x) p (f.toL[i])) : SameT w B u f (us ++ [p]) := by
  refine ⟨by rw [List.length_append, hl]; exact hi, fun j h1 h2 => ?_⟩
  by_cases e : j < us.length
  · rw [List.getElem_append_left e]; exact h.2 j h1 e
  · have : j = i := by rw [List.length_append, List.length_singleton] at h2; omega
    subst this
    subst hl
    simp only [List.getElem_append_right (Nat.le_refl _), Nat.sub_self, List.getElem_cons_zero]
    exact hv
theorem tmacc_snoc {w : World} {base : Nat} {E : TypeId} {v : Value} {us : List Tc} {p : Tc} (h : w.ownsRow base E 4 v (us.length + 1) (cellsT us ++ [p.1, .int .i64 p.2.1, .int .i64 p.2.2.1, p.2.2.2])) : w.ownsRow base E 4 v (us ++ [p]).length (cellsT (us ++ [p])) := by
  rw [List.length_append, cellsT_app]
  exact h
end Go.Proofs.YtnpcapdlgcaniaaDoor
