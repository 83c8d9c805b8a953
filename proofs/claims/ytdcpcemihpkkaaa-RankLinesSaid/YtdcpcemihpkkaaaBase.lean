/- Base facts of the rank seat: blocks of memory, what may change, bits of words. -/
import Derived.Test.YtdcpcemihpkkaaaProg
import Derived.WalkKit
import Derived.Handy
import Derived.Laws.BitsAllLaws
import Derived.Deep.QuietTactic
import Derived.Deep.RegionHeld3
namespace Go.Proofs.Ytdcpcemihpkkaaa
open Go.RowKit
set_option linter.unusedVariables false
set_option linter.unusedSimpArgs false

/-- A fact kept from the walk. -/
theorem hide {p : Prop} (h : p) : Hid p := h

theorem blk_cell {w : World} {b : Nat} {c : Array Value} {t : TypeId} (h : w.heap[b]? = some (.cells c t)) (i : Nat) : w.cell? ⟨b, i, none⟩ = c[i]? := by
  simp [World.cell?, h]
theorem blk_free {w : World} {b : Nat} {c : Array Value} {t : TypeId} (h : w.heap[b]? = some (.cells c t)) (i : Nat) : w.frozen? ⟨b, i, none⟩ = false := by
  simp [World.frozen?, h]
theorem blk_lt {w : World} {b : Nat} {o : Obj} (h : w.heap[b]? = some o) : b < w.heap.size := (Array.getElem?_eq_some_iff.1 h).1
theorem blk_set {w : World} {b : Nat} {c : Array Value} {t : TypeId} (h : w.heap[b]? = some (.cells c t)) (i : Nat) (v : Value) :
    (w.setCell ⟨b, i, none⟩ v).heap[b]? = some (.cells (c.setIfInBounds i v) t) := by
  simp [World.setCell, Array.getElem?_modify, h]
theorem blk_other {w : World} {b b' : Nat} {o : Obj} (h : w.heap[b]? = some o) (hne : b ≠ b') (i : Nat) (v : Value) : (w.setCell ⟨b', i, none⟩ v).heap[b]? = some o := by
  rw [Below.heap_setCell _ _ _ _ hne]; exact h
theorem blk_alloc {w : World} {b : Nat} {o o' : Obj} (h : w.heap[b]? = some o) : (w.alloc o').heap[b]? = some o := by
  rw [Below.heap_alloc _ _ _ (Array.getElem?_eq_some_iff.1 h).1]; exact h
theorem blk_new (w : World) (o : Obj) : (w.alloc o).heap[w.heap.size]? = some o := heap_alloc_new w o

/-- Of the blocks that were there only those in S may have changed; the streams are as they were. -/
structure Chg (S : Nat → Prop) (w w' : World) : Prop where
  os : w'.os = w.os
  tape : w'.tape = w.tape
  output : w'.output = w.output
  size : w.heap.size ≤ w'.heap.size
  block : ∀ k, k < w.heap.size → ¬ S k → w'.heap[k]? = w.heap[k]?

theorem Chg.refl (S : Nat → Prop) (w : World) : Chg S w w := ⟨rfl, rfl, rfl, Nat.le_refl _, fun _ _ _ => rfl⟩
theorem Chg.trans {S : Nat → Prop} {a b c : World} (h : Chg S a b) (k : Chg S b c) : Chg S a c :=
  ⟨k.os.trans h.os, k.tape.trans h.tape, k.output.trans h.output, Nat.le_trans h.size k.size,
    fun i hi hn => (k.block i (Nat.lt_of_lt_of_le hi h.size) hn).trans (h.block i hi hn)⟩
theorem Chg.mono {S T : Nat → Prop} {a b : World} (h : Chg S a b) (hs : ∀ k, k < a.heap.size → S k → T k) : Chg T a b :=
  ⟨h.os, h.tape, h.output, h.size, fun i hi hn => h.block i hi (fun hS => hn (hs i hi hS))⟩
theorem Chg.none {S : Nat → Prop} {w w' : World} (h : Chg (fun _ => False) w w') : Chg S w w' := h.mono (fun _ _ h => h.elim)
theorem Chg.drew {S : Nat → Prop} {a b : World} (h : Chg S a b) : Chg S a b.drew := ⟨h.os, h.tape, h.output, h.size, h.block⟩
theorem Chg.drewN {S : Nat → Prop} {a b : World} (h : Chg S a b) (n : Nat) : Chg S a (b.drewN n) := ⟨h.os, h.tape, h.output, h.size, h.block⟩
theorem Chg.alloc {S : Nat → Prop} {a b : World} (h : Chg S a b) (o : Obj) : Chg S a (b.alloc o) :=
  h.trans ⟨rfl, rfl, rfl, by simp, fun i hi _ => Below.heap_alloc _ _ _ hi⟩
theorem al (w : World) (o : Obj) : Chg (fun _ => False) w (w.alloc o) := (Chg.refl _ _).alloc _
theorem Chg.setCell {S : Nat → Prop} {a b : World} (h : Chg S a b) {p : Addr} (hp : S p.block ∨ a.heap.size ≤ p.block) (v : Value) : Chg S a (b.setCell p v) :=
  ⟨h.os, h.tape, h.output, by have := h.size; simp only [World.setCell, Array.size_modify]; exact this, fun i hi hn => by
    rw [Below.heap_setCell _ _ _ _ (by rintro rfl; rcases hp with hp | hp; exact hn hp; omega)]; exact h.block i hi hn⟩
theorem Chg.set (w : World) (b i : Nat) (v : Value) : Chg (fun k => k = b) w (w.setCell ⟨b, i, .none⟩ v) := by
  have h : Chg (fun k => k = b) w w := Chg.refl _ _
  exact h.setCell (p := ⟨b, i, .none⟩) (Or.inl rfl) v
theorem Chg.grown {S : Nat → Prop} {a b c : World} {row : Option Nat} (h : Chg S a b) (hg : b.grownBy c row) (hr : ∀ r, row = some r → S r ∨ a.heap.size ≤ r) : Chg S a c :=
  ⟨hg.os.trans h.os, hg.tape.trans h.tape, hg.output.trans h.output, Nat.le_trans h.size hg.size, fun i hi hn =>
    (hg.block i (Nat.lt_of_lt_of_le hi h.size) (fun e => by rcases hr i e.symm with h1 | h1; exact hn h1; omega)).trans (h.block i hi hn)⟩
theorem Chg.below {S : Nat → Prop} {a b : World} (h : Chg S a b) {B : Nat} (hB : B ≤ a.heap.size) (hs : ∀ k, S k → B ≤ k) : Below B a b :=
  ⟨h.os, h.tape, h.output, h.size, fun i hi => h.block i (by omega) (fun hS => by have := hs i hS; omega)⟩
theorem Chg.of_below {a b : World} {B : Nat} (h : Below B a b) : Chg (fun k => B ≤ k) a b :=
  ⟨h.os, h.tape, h.output, h.size, fun i _ hn => h.block i (by omega)⟩
theorem Chg.cell {S : Nat → Prop} {w w' : World} (h : Chg S w w') {g i : Nat} {v : Value} (hn : ¬ S g) (hc : w.cell? ⟨g, i, .none⟩ = some v) : w'.cell? ⟨g, i, .none⟩ = some v :=
  (World.cell?_of_block (w := w) (a := ⟨g, i, .none⟩) (h.block g (World.block_lt_of_cell? w _ hc) hn)).trans hc
theorem Chg.blk {S : Nat → Prop} {w w' : World} (g : Chg S w w') {A : Nat} {o : Obj} (hn : ¬ S A) (h : w.heap[A]? = some o) : w'.heap[A]? = some o := (g.block A (Array.getElem?_eq_some_iff.1 h).1 hn).trans h

/-! ### Words of bits -/
/-- The block g holds these m words. -/
def Row (w : World) (g m : Nat) (ws : Nat → Nat) : Prop :=
  ∃ c : Array Value, w.heap[g]? = some (.cells c 94) ∧ c.size = m ∧ ∀ q, q < m → c[q]? = some (.int .u64 (ws q : Int)) ∧ ws q < 18446744073709551616

theorem Row.cell {w : World} {g m : Nat} {ws : Nat → Nat} (h : Row w g m ws) {q : Nat} (hq : q < m) : w.cell? ⟨g, q, none⟩ = some (.int .u64 (ws q : Int)) := by
  obtain ⟨c, h1, h2, h3⟩ := h
  rw [blk_cell h1]; exact (h3 q hq).1
theorem Row.free {w : World} {g m : Nat} {ws : Nat → Nat} (h : Row w g m ws) (q : Nat) : w.frozen? ⟨g, q, none⟩ = false := by
  obtain ⟨c, h1, _⟩ := h
  exact blk_free h1 q
theorem Row.bd {w : World} {g m : Nat} {ws : Nat → Nat} (h : Row w g m ws) {q : Nat} (hq : q < m) : ws q < 18446744073709551616 := by
  obtain ⟨c, h1, h2, h3⟩ := h
  exact (h3 q hq).2
theorem Row.lt {w : World} {g m : Nat} {ws : Nat → Nat} (h : Row w g m ws) : g < w.heap.size := by
  obtain ⟨c, h1, _⟩ := h
  exact blk_lt h1
theorem Row.chg {w w' : World} {g m : Nat} {ws : Nat → Nat} (h : Row w g m ws) {S : Nat → Prop} (k : Chg S w w') (hn : ¬ S g) : Row w' g m ws := by
  obtain ⟨c, h1, h2⟩ := h
  exact ⟨c, k.blk hn h1, h2⟩
theorem Row.set {w : World} {g m : Nat} {ws : Nat → Nat} (h : Row w g m ws) (q x : Nat) (hx : x < 18446744073709551616) :
    Row (w.setCell ⟨g, q, none⟩ (.int .u64 (x : Int))) g m (fun k => if k = q then x else ws k) := by
  obtain ⟨c, h1, h2, h3⟩ := h
  refine ⟨_, blk_set h1 q _, by simp [h2], fun k hk => ?_⟩
  rw [Array.getElem?_setIfInBounds]
  by_cases e : q = k
  · subst e
    simp [h2, hk, hx]
  · rw [if_neg e]
    have e' : ¬ k = q := fun h => e h.symm
    simp only [if_neg e']
    exact h3 k hk

/-- is the bit of i there? -/
def bitAt (ws : Nat → Nat) (i : Nat) : Bool := (ws (i / 64)).testBit (i % 64)

theorem bit_shift (x r : Nat) : ((x / 2 ^ r) % 2 == 1) = x.testBit r := by
  rw [Nat.testBit_eq_decide_div_mod_eq]
  cases h : decide (x / 2 ^ r % 2 = 1)
  · simpa using h
  · simpa using h

end Go.Proofs.Ytdcpcemihpkkaaa
