/- Base facts of the vocab seat: blocks of memory, what may change. -/
import Derived.Test.YtnpcapdlgcaniaaDoorProg
import Derived.WalkKit
import Derived.Handy
import Derived.Deep.QuietTactic
import Derived.Deep.RegionHeld3
namespace Go.Proofs.YtnpcapdlgcaniaaDoor
open Go.RowKit
set_option linter.unusedVariables false
set_option linter.unusedSimpArgs false

/-- A fact kept from the walk. -/
theorem hide {p : Prop} (h : p) : Hid p := h

theorem blk_cell {w : World} {b : Nat} {c : Array Value} {t : TypeId} (h : w.heap[b]? = some (.cells c t)) (i : Nat) : w.cell? ⟨b, i, none⟩ = c[i]? := by
  simp [World.cell?, h]
theorem blk_free {w : World} {b : Nat} {c : Array Value} {t : TypeId} (h : w.heap[b]? = some (.cells c t)) (i : Nat) : w.frozen? ⟨b, i, none⟩ = false := by
  simp [World.frozen?, h]
theorem blk_lt {w : World} {b : Nat} {o : Obj} (h : w.heap[b]? = some o) : b < w.heap.size := (Array.getElem?_eq_some_iff.1 h).1
theorem blk_set {w : World} {b : Nat} {c : Array Value} {t : TypeId} (h : w.heap[b]? = some (.cells c t)) (i : Nat) (v : Value) :
    (w.setCell ⟨b, i, none⟩ v).heap[b]? = some (.cells (c.setIfInBounds i v) t) := by
  simp [World.setCell, Array.getElem?_modify, h]
theorem blk_other {w : World} {b b' : Nat} {o : Obj} (h : w.heap[b]? = some o) (hne : b ≠ b') (i : Nat) (v : Value) : (w.setCell ⟨b', i, none⟩ v).heap[b]? = some o := by
  rw [Below.heap_setCell _ _ _ _ hne]; exact h
theorem blk_alloc {w : World} {b : Nat} {o o' : Obj} (h : w.heap[b]? = some o) : (w.alloc o').heap[b]? = some o := by
  rw [Below.heap_alloc _ _ _ (Array.getElem?_eq_some_iff.1 h).1]; exact h
theorem blk_new (w : World) (o : Obj) : (w.alloc o).heap[w.heap.size]? = some o := heap_alloc_new w o

/-- Of the blocks that were there only those in S may have changed; the streams are as they were. -/
structure Chg (S : Nat → Prop) (w w' : World) : Prop where
  os : w'.os = w.os
  tape : w'.tape = w.tape
  output : w'.output = w.output
  size : w.heap.size ≤ w'.heap.size
  block : ∀ k, k < w.heap.size → ¬ S k → w'.heap[k]? = w.heap[k]?

theorem Chg.refl (S : Nat → Prop) (w : World) : Chg S w w := ⟨rfl, rfl, rfl, Nat.le_refl _, fun _ _ _ => rfl⟩
theorem Chg.trans {S : Nat → Prop} {a b c : World} (h : Chg S a b) (k : Chg S b c) : Chg S a c :=
  ⟨k.os.trans h.os, k.tape.trans h.tape, k.output.trans h.output, Nat.le_trans h.size k.size,
    fun i hi hn => (k.block i (Nat.lt_of_lt_of_le hi h.size) hn).trans (h.block i hi hn)⟩
theorem Chg.mono {S T : Nat → Prop} {a b : World} (h : Chg S a b) (hs : ∀ k, k < a.heap.size → S k → T k) : Chg T a b :=
  ⟨h.os, h.tape, h.output, h.size, fun i hi hn => h.block i hi (fun hS => hn (hs i hi hS))⟩
theorem Chg.none {S : Nat → Prop} {w w' : World} (h : Chg (fun _ => False) w w') : Chg S w w' := h.mono (fun _ _ h => h.elim)
theorem Chg.drew {S : Nat → Prop} {a b : World} (h : Chg S a b) : Chg S a b.drew := ⟨h.os, h.tape, h.output, h.size, h.block⟩
theorem Chg.drewN {S : Nat → Prop} {a b : World} (h : Chg S a b) (n : Nat) : Chg S a (b.drewN n) := ⟨h.os, h.tape, h.output, h.size, h.block⟩
theorem Chg.alloc {S : Nat → Prop} {a b : World} (h : Chg S a b) (o : Obj) : Chg S a (b.alloc o) :=
  h.trans ⟨rfl, rfl, rfl, by simp, fun i hi _ => Below.heap_alloc _ _ _ hi⟩
theorem al (w : World) (o : Obj) : Chg (fun _ => False) w (w.alloc o) := (Chg.refl _ _).alloc _
theorem Chg.setCell {S : Nat → Prop} {a b : World} (h : Chg S a b) {p : Addr} (hp : S p.block ∨ a.heap.size ≤ p.block) (v : Value) : Chg S a (b.setCell p v) :=
  ⟨h.os, h.tape, h.output, by have := h.size; simp only [World.setCell, Array.size_modify]; exact this, fun i hi hn => by
    rw [Below.heap_setCell _ _ _ _ (by rintro rfl; rcases hp with hp | hp; exact hn hp; omega)]; exact h.block i hi hn⟩
theorem Chg.set (w : World) (b i : Nat) (v : Value) : Chg (fun k => k = b) w (w.setCell ⟨b, i, .none⟩ v) := by
  have h : Chg (fun k => k = b) w w := Chg.refl _ _
  exact h.setCell (p := ⟨b, i, .none⟩) (Or.inl rfl) v
theorem Chg.grown {S : Nat → Prop} {a b c : World} {row : Option Nat} (h : Chg S a b) (hg : b.grownBy c row) (hr : ∀ r, row = some r → S r ∨ a.heap.size ≤ r) : Chg S a c :=
  ⟨hg.os.trans h.os, hg.tape.trans h.tape, hg.output.trans h.output, Nat.le_trans h.size hg.size, fun i hi hn =>
    (hg.block i (Nat.lt_of_lt_of_le hi h.size) (fun e => by rcases hr i e.symm with h1 | h1; exact hn h1; omega)).trans (h.block i hi hn)⟩
theorem Chg.below {S : Nat → Prop} {a b : World} (h : Chg S a b) {B : Nat} (hB : B ≤ a.heap.size) (hs : ∀ k, S k → B ≤ k) : Below B a b :=
  ⟨h.os, h.tape, h.output, h.size, fun i hi => h.block i (by omega) (fun hS => by have := hs i hS; omega)⟩
theorem Chg.of_below {a b : World} {B : Nat} (h : Below B a b) : Chg (fun k => B ≤ k) a b :=
  ⟨h.os, h.tape, h.output, h.size, fun i _ hn => h.block i (by omega)⟩
theorem Chg.cell {S : Nat → Prop} {w w' : World} (h : Chg S w w') {g i : Nat} {v : Value} (hn : ¬ S g) (hc : w.cell? ⟨g, i, .none⟩ = some v) : w'.cell? ⟨g, i, .none⟩ = some v :=
  (World.cell?_of_block (w := w) (a := ⟨g, i, .none⟩) (h.block g (World.block_lt_of_cell? w _ hc) hn)).trans hc
theorem Chg.blk {S : Nat → Prop} {w w' : World} (g : Chg S w w') {A : Nat} {o : Obj} (hn : ¬ S A) (h : w.heap[A]? = some o) : w'.heap[A]? = some o := (g.block A (Array.getElem?_eq_some_iff.1 h).1 hn).trans h

theorem al_size (w : World) (o : Obj) : w.heap.size + 1 ≤ (w.alloc o).heap.size := blk_lt (blk_new w o)
theorem al_sz (w : World) (o : Obj) : (w.alloc o).heap.size = w.heap.size + 1 := by simp
theorem add_at (g off j : Nat) : (⟨g, off, none⟩ : Addr).add j = ⟨g, off + j, none⟩ := by unfold Addr.add; split <;> simp_all

theorem own_chg {w w' : World} {base : Nat} {e : TypeId} {size n : Nat} {v : Value} {xs : List Value} (h : w.ownsRow base e size v n xs) {S : Nat → Prop} (g : Chg S w w') (hn : ∀ x, base ≤ x → ¬ S x) : w'.ownsRow base e size v n xs := by
  obtain ⟨h1, h2⟩ := h
  refine ⟨h1, ?_⟩
  rcases h2 with h2 | ⟨gg, cap, cur, e1, h3, h4, h5⟩
  · exact Or.inl h2
  · exact Or.inr ⟨gg, cap, cur, e1, h3, g.blk (hn gg h3) h4, h5⟩
theorem own_grown {w w' : World} {base : Nat} {e : TypeId} {size n : Nat} {v : Value} {xs : List Value} (h : w.ownsRow base e size v n xs) (hg : w.grownBy w' v.ownBlock) : Chg (fun x => base ≤ x) w w' :=
  (Chg.refl _ _).grown hg (fun r e => Or.inl (h.lt r e).1)
theorem own_grownT {w w' : World} {base1 base2 : Nat} {T1 T2 : TypeId} {s1 s2 n1 n2 : Nat} {v1 v2 : Value} {xs1 xs2 : List Value} (h1 : w.ownsRow base1 T1 s1 v1 n1 xs1) (h2 : w.ownsRow base2 T2 s2 v2 n2 xs2) (hT : T1 ≠ T2) (hg : w.grownBy w' v2.ownBlock) : w'.ownsRow base1 T1 s1 v1 n1 xs1 := by
  obtain ⟨k1, k2⟩ := h1
  refine ⟨k1, ?_⟩
  rcases k2 with k2 | ⟨g, cap, cur, e1, h3, h4, h5⟩
  · exact Or.inl k2
  · refine Or.inr ⟨g, cap, cur, e1, h3, (hg.block g (blk_lt h4) (fun e => ?_)).trans h4, h5⟩
    rcases h2.2 with ⟨rfl, _⟩ | ⟨g2, cap2, cur2, rfl, _, h7, _⟩
    · cases e
    · have e' : g = g2 := by injection e
      subst e'
      rw [h4] at h7
      injection h7 with h7
      injection h7 with _ h8
      exact hT h8
theorem own_shrink {w : World} {base n : Nat} {T : TypeId} {s : Nat} {v : Value} {xs : List Value} (h : w.ownsRow base T s v n xs) {B : Nat} (hb : B ≤ base) : w.ownsRow B T s v n xs := by
  obtain ⟨h1, h2⟩ := h
  refine ⟨h1, ?_⟩
  rcases h2 with h2 | ⟨g, cap, cur, e, h3, h4⟩
  · exact Or.inl h2
  · exact Or.inr ⟨g, cap, cur, e, by omega, h4⟩
end Go.Proofs.YtnpcapdlgcaniaaDoor
