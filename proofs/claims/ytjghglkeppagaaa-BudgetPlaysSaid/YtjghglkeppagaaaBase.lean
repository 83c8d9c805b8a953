/- Base facts: a budget's block in memory, and the plain functions of layer 2's program. -/
import Derived.Test.YtjghglkeppagaaaProg
import Derived.WalkKit
import Derived.Handy
namespace Go.Proofs.Ytjghglkeppagaaa
open Go.RowKit

/-- The block b holds a budget: left, used, dry. -/
def Bud (w : World) (b : Nat) (l u : Int) (d : Int) : Prop :=
  w.heap[b]? = some (.cells #[.int .i64 l, .int .i64 u, .int .u32 d, .int .i32 0, .int .u32 0, .int .u32 d] 60)

theorem Bud.cell {w : World} {b : Nat} {l u d : Int} (h : Bud w b l u d) (i : Nat) :
    w.cell? ⟨b, i, none⟩ = (#[.int .i64 l, .int .i64 u, .int .u32 d, .int .i32 0, .int .u32 0, .int .u32 d] : Array Value)[i]? := by
  unfold Bud at h
  simp [World.cell?, h]

theorem Bud.free {w : World} {b : Nat} {l u d : Int} (h : Bud w b l u d) (i : Nat) : w.frozen? ⟨b, i, none⟩ = false := by
  unfold Bud at h
  simp [World.frozen?, h]

theorem Bud.lt {w : World} {b : Nat} {l u d : Int} (h : Bud w b l u d) : b < w.heap.size := (Array.getElem?_eq_some_iff.1 h).1

theorem setCell_at {w : World} {b : Nat} {c : Array Value} {t : TypeId} (h : w.heap[b]? = some (.cells c t)) (i : Nat) (v : Value) :
    (w.setCell ⟨b, i, none⟩ v).heap[b]? = some (.cells (c.setIfInBounds i v) t) := by
  simp [World.setCell, Array.getElem?_modify, h]

theorem grownBy_setCell (w : World) (a : Addr) (v : Value) : w.grownBy (w.setCell a v) (some a.block) :=
  ⟨rfl, rfl, rfl, by simp [World.setCell], fun k _ hne => Below.heap_setCell _ _ _ _ (fun e => hne (by rw [e]))⟩

theorem grownBy_trans {a b c : World} {r : Option Nat} (h : a.grownBy b r) (k : b.grownBy c r) : a.grownBy c r :=
  ⟨k.os.trans h.os, k.tape.trans h.tape, k.output.trans h.output, Nat.le_trans h.size k.size,
    fun i hi hne => (k.block i (Nat.lt_of_lt_of_le hi h.size) hne).trans (h.block i hi hne)⟩

theorem grownBy_refl (a : World) (r : Option Nat) : a.grownBy a r := ⟨rfl, rfl, rfl, Nat.le_refl _, fun _ _ _ => rfl⟩

theorem grownBy_drew {a b : World} {r : Option Nat} (h : a.grownBy b r) : a.grownBy b.drew r := ⟨h.os, h.tape, h.output, h.size, h.block⟩

theorem Bud.kept {w w' : World} {b : Nat} {l u d : Int} (h : Bud w b l u d) {r : Nat} (g : w.grownBy w' (some r)) (hne : b ≠ r) : Bud w' b l u d := by
  unfold Bud
  rw [g.block b h.lt (fun e => hne (by injection e))]
  exact h

/-- Of the blocks that were there only those in S may have changed; the streams are as they were. -/
structure Chg (S : Nat → Prop) (w w' : World) : Prop where
  os : w'.os = w.os
  tape : w'.tape = w.tape
  output : w'.output = w.output
  size : w.heap.size ≤ w'.heap.size
  block : ∀ k, k < w.heap.size → ¬ S k → w'.heap[k]? = w.heap[k]?

theorem Chg.refl (S : Nat → Prop) (w : World) : Chg S w w := ⟨rfl, rfl, rfl, Nat.le_refl _, fun _ _ _ => rfl⟩
theorem Chg.trans {S : Nat → Prop} {a b c : World} (h : Chg S a b) (k : Chg S b c) : Chg S a c :=
  ⟨k.os.trans h.os, k.tape.trans h.tape, k.output.trans h.output, Nat.le_trans h.size k.size,
    fun i hi hn => (k.block i (Nat.lt_of_lt_of_le hi h.size) hn).trans (h.block i hi hn)⟩
theorem Chg.mono {S T : Nat → Prop} {a b : World} (h : Chg S a b) (hs : ∀ k, k < a.heap.size → S k → T k) : Chg T a b :=
  ⟨h.os, h.tape, h.output, h.size, fun i hi hn => h.block i hi (fun hS => hn (hs i hi hS))⟩
theorem Chg.of_grown {a b : World} {r : Nat} (h : a.grownBy b (some r)) : Chg (fun k => k = r) a b :=
  ⟨h.os, h.tape, h.output, h.size, fun i hi hn => h.block i hi (fun e => hn (by injection e))⟩
theorem Chg.drew {S : Nat → Prop} {a b : World} (h : Chg S a b) : Chg S a b.drew := ⟨h.os, h.tape, h.output, h.size, h.block⟩
theorem Chg.alloc {S : Nat → Prop} {a b : World} (h : Chg S a b) (o : Obj) : Chg S a (b.alloc o) :=
  h.trans ⟨rfl, rfl, rfl, by simp, fun i hi _ => Below.heap_alloc _ _ _ hi⟩
theorem Chg.setCell {S : Nat → Prop} {a b : World} (h : Chg S a b) {p : Addr} (hp : S p.block ∨ a.heap.size ≤ p.block) (v : Value) : Chg S a (b.setCell p v) :=
  ⟨h.os, h.tape, h.output, by have := h.size; simp only [World.setCell, Array.size_modify]; exact this, fun i hi hn => by
    rw [Below.heap_setCell _ _ _ _ (by rintro rfl; rcases hp with hp | hp; exact hn hp; omega)]; exact h.block i hi hn⟩
theorem Chg.below {S : Nat → Prop} {a b : World} (h : Chg S a b) {B : Nat} (hB : B ≤ a.heap.size) (hs : ∀ k, S k → B ≤ k) : Below B a b :=
  ⟨h.os, h.tape, h.output, h.size, fun i hi => h.block i (by omega) (fun hS => by have := hs i hS; omega)⟩
theorem Chg.of_below {a b : World} {B : Nat} (h : Below B a b) : Chg (fun k => B ≤ k) a b :=
  ⟨h.os, h.tape, h.output, h.size, fun i _ hn => h.block i (by omega)⟩

theorem Bud.chg {w w' : World} {b : Nat} {l u d : Int} (h : Bud w b l u d) {S : Nat → Prop} (g : Chg S w w') (hne : ¬ S b) : Bud w' b l u d := by
  unfold Bud
  rw [g.block b h.lt hne]
  exact h

/-- A fact kept from the walk. -/
theorem hide {p : Prop} (h : p) : Hid p := h

end Go.Proofs.Ytjghglkeppagaaa
