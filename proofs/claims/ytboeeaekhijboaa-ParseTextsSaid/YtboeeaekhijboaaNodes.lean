/- Trees as they lie in memory: rows of nodes, each with its own row of kids. -/
import Derived.Test.YtboeeaekhijboaaReadE
namespace Go.Proofs.Ytboeeaekhijboaa
open Go.RowKit
set_option linter.unusedVariables false
set_option linter.unusedSimpArgs false

theorem al_size (w : World) (o : Obj) : w.heap.size + 1 ≤ (w.alloc o).heap.size := by simp
theorem al_sz (w : World) (o : Obj) : (w.alloc o).heap.size = w.heap.size + 1 := by simp
theorem add_at' (g off j : Nat) : (⟨g, off, none⟩ : Addr).add j = ⟨g, off + j, none⟩ := by unfold Addr.add; split <;> simp_all
theorem Chg.blkS {S : Nat → Prop} {w w' : World} (g : Chg S w w') {A : Nat} {o : Obj} (hn : ¬ S A) (h : w.heap[A]? = some o) : w'.heap[A]? = some o := (g.block A (Array.getElem?_eq_some_iff.1 h).1 hn).trans h
theorem Chg.set (w : World) (b i : Nat) (v : Value) : Chg (fun k => k = b) w (w.setCell ⟨b, i, .none⟩ v) := by
 have h : Chg (fun k => k = b) w w := Chg.refl _ _
 exact h.setCell (p := ⟨b, i, .none⟩) (Or.inl rfl) v
theorem olt {w : World} {b : Nat} {o : Obj} (h : w.heap[b]? = some o) : b < w.heap.size := (Array.getElem?_eq_some_iff.1 h).1

/-- a row of nodes: the first one's kind, word, place, kids; the others -/
inductive Ns where
 | nil : Ns
 | cons (k : Int) (s : ByteArray) (a : Int) (kids : Ns) (r : Ns) : Ns

def Ns.len : Ns → Nat
 | .nil => 0
 | .cons _ _ _ _ r => r.len + 1
/-- a node: its kind, its word, its place, its kids -/
abbrev Nd := Int × ByteArray × Int × Ns
abbrev Nd.kind (n : Nd) : Int := n.1
abbrev Nd.word (n : Nd) : ByteArray := n.2.1
abbrev Nd.at (n : Nd) : Int := n.2.2.1
abbrev Nd.kids (n : Nd) : Ns := n.2.2.2
def Ns.toL : Ns → List Nd
 | .nil => []
 | .cons k s a x r => (k, s, a, x) :: r.toL
def Ns.ofL : List Nd → Ns
 | [] => .nil
 | (k, s, a, x) :: r => .cons k s a x (ofL r)
/-- how many nodes -/
def Ns.size : Ns → Nat
 | .nil => 0
 | .cons _ _ _ x r => x.size + r.size + 1

theorem Ns.toL_len (f : Ns) : f.toL.length = f.len := by
 induction f with
 | nil => rfl
 | cons k s a x r _ ih => simp only [toL, len, List.length_cons, ih]
theorem Ns.ofL_toL (f : Ns) : ofL f.toL = f := by
 induction f with
 | nil => rfl
 | cons k s a x r _ ih => simp only [toL, ofL, ih]
theorem Ns.toL_ofL (l : List Nd) : (ofL l).toL = l := by
 induction l with
 | nil => rfl
 | cons x r ih => simp only [ofL, toL, ih]
theorem Ns.len_nil {f : Ns} (h : f.len = 0) : f = .nil := by
 cases f with
 | nil => rfl
 | cons k s a x r => simp [len] at h
theorem Ns.kid_size : ∀ (f : Ns) (i : Nat) (h : i < f.toL.length), (f.toL[i]).kids.size < f.size
 | .nil, i, h => absurd h (Nat.not_lt_zero _)
 | .cons k s a x r, 0, h => by simp only [toL, size, List.getElem_cons_zero, Nd.kids]; omega
 | .cons k s a x r, i + 1, h => by
   have := Ns.kid_size r i (by simpa [toL] using h)
   simp only [toL, size, List.getElem_cons_succ]
   omega
theorem Ns.len_size (f : Ns) : f.len ≤ f.size := by
 induction f with
 | nil => exact Nat.le_refl _
 | cons k s a x r _ ih => simp only [len, size]; omega

/-- The row f lies at this place. -/
def Lies (w : World) (X : Nat → Prop) : Ns → Nat → Nat → Prop
 | .nil, _, _ => True
 | .cons k s a x r, g, off =>
   w.cell? ⟨g, off, none⟩ = some (.int .i64 k) ∧ w.cell? ⟨g, off + 1, none⟩ = some (.string s) ∧ w.cell? ⟨g, off + 2, none⟩ = some (.int .i64 a) ∧
   (∃ ad cap, w.cell? ⟨g, off + 3, none⟩ = some (.slice ad x.len cap) ∧ (x = .nil ∨ ∃ g' off', ad = some ⟨g', off', none⟩ ∧ X g' ∧ Lies w X x g' off')) ∧
   Lies w X r g (off + 4)
/-- The value is the row f. -/
def Ts (w : World) (X : Nat → Prop) (v : Value) (f : Ns) : Prop :=
 ∃ a cap, v = .slice a f.len cap ∧ (f = .nil ∨ ∃ g off, a = some ⟨g, off, none⟩ ∧ X g ∧ Lies w X f g off)

theorem lies_cons {w : World} {X : Nat → Prop} {k a : Int} {s : ByteArray} {x r : Ns} {g off : Nat} : Lies w X (.cons k s a x r) g off ↔
  w.cell? ⟨g, off, none⟩ = some (.int .i64 k) ∧ w.cell? ⟨g, off + 1, none⟩ = some (.string s) ∧ w.cell? ⟨g, off + 2, none⟩ = some (.int .i64 a) ∧ (∃ v, w.cell? ⟨g, off + 3, none⟩ = some v ∧ Ts w X v x) ∧ Lies w X r g (off + 4) := by
 constructor
 ·
  rintro ⟨h1, h2, h3, ⟨ad, cap, h4, h5⟩, h6⟩
  exact ⟨h1, h2, h3, ⟨_, h4, ad, cap, rfl, h5⟩, h6⟩
 ·
  rintro ⟨h1, h2, h3, ⟨v, h4, ad, cap, rfl, h5⟩, h6⟩
  exact ⟨h1, h2, h3, ⟨ad, cap, h4, h5⟩, h6⟩

theorem Ts.nil (w : World) (X : Nat → Prop) : Ts w X (.slice none 0 0) .nil := ⟨none, 0, rfl, Or.inl rfl⟩

/-- One node of a row, as it lies. -/
def NodeAt (w : World) (X : Nat → Prop) (n : Nd) (g off : Nat) : Prop :=
 w.cell? ⟨g, off, none⟩ = some (.int .i64 n.kind) ∧ w.cell? ⟨g, off + 1, none⟩ = some (.string n.word) ∧ w.cell? ⟨g, off + 2, none⟩ = some (.int .i64 n.at) ∧ ∃ v, w.cell? ⟨g, off + 3, none⟩ = some v ∧ Ts w X v n.kids

theorem lies_get {w : World} {X : Nat → Prop} : ∀ {f : Ns} {g off : Nat}, Lies w X f g off → ∀ i (hi : i < f.toL.length), NodeAt w X (f.toL[i]) g (off + i * 4)
 | .nil, g, off, _, i, hi => absurd hi (Nat.not_lt_zero _)
 | .cons k s a x r, g, off, h, 0, hi => by
   obtain ⟨h1, h2, h3, h4, _⟩ := lies_cons.1 h
   simp only [Nat.zero_mul, Nat.add_zero, Ns.toL, List.getElem_cons_zero]
   exact ⟨h1, h2, h3, h4⟩
 | .cons k s a x r, g, off, h, i + 1, hi => by
   obtain ⟨_, _, _, _, h3⟩ := lies_cons.1 h
   have := lies_get h3 i (by simpa [Ns.toL] using hi)
   simp only [Ns.toL, List.getElem_cons_succ]
   rw [show off + (i + 1) * 4 = off + 4 + i * 4 by omega]
   exact this

theorem lies_mk {w : World} {X : Nat → Prop} : ∀ {f : Ns} {g off : Nat}, (∀ i (hi : i < f.toL.length), NodeAt w X (f.toL[i]) g (off + i * 4)) → Lies w X f g off
 | .nil, g, off, _ => trivial
 | .cons k s a x r, g, off, h => by
   have h0 := h 0 (by simp [Ns.toL])
   simp only [Nat.zero_mul, Nat.add_zero, Ns.toL, List.getElem_cons_zero] at h0
   refine lies_cons.2 ⟨h0.1, h0.2.1, h0.2.2.1, h0.2.2.2, lies_mk (fun i hi => ?_)⟩
   have := h (i + 1) (by simpa [Ns.toL] using hi)
   simp only [Ns.toL, List.getElem_cons_succ] at this
   rw [show off + (i + 1) * 4 = off + 4 + i * 4 by omega] at this
   exact this

theorem lies_chg {w w' : World} {S : Nat → Prop} (gc : Chg S w w') {X : Nat → Prop} (hn : ∀ x, X x → ¬ S x) : ∀ {f : Ns} {g off : Nat}, X g → Lies w X f g off → Lies w' X f g off
 | .nil, g, off, _, _ => trivial
 | .cons k s a x r, g, off, hg, ⟨h1, h2, h3, ⟨ad, cap, h4, h5⟩, h6⟩ => by
   refine ⟨gc.cell (hn g hg) h1, gc.cell (hn g hg) h2, gc.cell (hn g hg) h3, ⟨ad, cap, gc.cell (hn g hg) h4, ?_⟩, lies_chg gc hn hg h6⟩
   rcases h5 with h5 | ⟨g', off', e, hg', hl⟩
   ·
    exact Or.inl h5
   ·
    exact Or.inr ⟨g', off', e, hg', lies_chg gc hn hg' hl⟩
theorem Ts.chg {w w' : World} {X : Nat → Prop} {v : Value} {f : Ns} (h : Ts w X v f) {S : Nat → Prop} (g : Chg S w w') (hn : ∀ x, X x → ¬ S x) : Ts w' X v f := by
 obtain ⟨a, cap, e, h1⟩ := h
 refine ⟨a, cap, e, ?_⟩
 rcases h1 with h1 | ⟨g1, off, e1, h2, h3⟩
 ·
  exact Or.inl h1
 ·
  exact Or.inr ⟨g1, off, e1, h2, lies_chg g hn h2 h3⟩
theorem lies_up {w : World} {X Y : Nat → Prop} (hb : ∀ x, X x → Y x) : ∀ {f : Ns} {g off : Nat}, Lies w X f g off → Lies w Y f g off
 | .nil, g, off, _ => trivial
 | .cons k s a x r, g, off, ⟨h1, h2, h3, ⟨ad, cap, h4, h5⟩, h6⟩ => by
   refine ⟨h1, h2, h3, ⟨ad, cap, h4, ?_⟩, lies_up hb h6⟩
   rcases h5 with h5 | ⟨g', off', e, hg', hl⟩
   ·
    exact Or.inl h5
   ·
    exact Or.inr ⟨g', off', e, hb _ hg', lies_up hb hl⟩
theorem Ts.up {w : World} {X Y : Nat → Prop} {v : Value} {f : Ns} (h : Ts w X v f) (hb : ∀ x, X x → Y x) : Ts w Y v f := by
 obtain ⟨a, cap, e, h1⟩ := h
 refine ⟨a, cap, e, ?_⟩
 rcases h1 with h1 | ⟨g1, off, e1, h2, h3⟩
 ·
  exact Or.inl h1
 ·
  exact Or.inr ⟨g1, off, e1, hb _ h2, lies_up hb h3⟩

/-- The value is the node n. -/
def NV (w : World) (X : Nat → Prop) (v : Value) (n : Nd) : Prop :=
 ∃ a cap, v = .agg #[.int .i64 n.kind, .string n.word, .int .i64 n.at, .slice a n.kids.len cap] ∧ Ts w X (.slice a n.kids.len cap) n.kids
theorem NV.chg {w w' : World} {X : Nat → Prop} {v : Value} {n : Nd} (h : NV w X v n) {S : Nat → Prop} (g : Chg S w w') (hn : ∀ x, X x → ¬ S x) : NV w' X v n := by
 obtain ⟨a, cap, e, h1⟩ := h
 exact ⟨a, cap, e, h1.chg g hn⟩
theorem NV.up {w : World} {X Y : Nat → Prop} {v : Value} {n : Nd} (h : NV w X v n) (hb : ∀ x, X x → Y x) : NV w Y v n := by
 obtain ⟨a, cap, e, h1⟩ := h
 exact ⟨a, cap, e, h1.up hb⟩
theorem NV.leaf (w : World) (X : Nat → Prop) (k : Int) (s : ByteArray) (a : Int) : NV w X (.agg #[.int .i64 k, .string s, .int .i64 a, .slice none 0 0]) (k, s, a, .nil) := ⟨none, 0, rfl, Ts.nil _ _⟩
/-- Two nodes, side by side in a block of their own. -/
theorem ts_two {w : World} {X : Nat → Prop} {g T : Nat} {n m : Nd} {a b : Value} (hg : X g) (h : w.heap[g]? = some (.cells #[.int .i64 n.kind, .string n.word, .int .i64 n.at, a, .int .i64 m.kind, .string m.word, .int .i64 m.at, b] T)) (ha : Ts w X a n.kids) (hb : Ts w X b m.kids) :
  Ts w X (.slice (some ⟨g, 0, none⟩) 2 2) (.cons n.kind n.word n.at n.kids (.cons m.kind m.word m.at m.kids .nil)) := by
 refine ⟨_, _, rfl, Or.inr ⟨g, 0, rfl, hg, lies_cons.2 ⟨blk_cell h 0, blk_cell h 1, blk_cell h 2, ⟨a, blk_cell h 3, ha⟩, lies_cons.2 ⟨blk_cell h 4, blk_cell h 5, blk_cell h 6, ⟨b, blk_cell h 7, hb⟩, trivial⟩⟩⟩⟩
end Go.Proofs.Ytboeeaekhijboaa
