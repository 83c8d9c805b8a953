/- A rank's rows in memory: a row of slices of words. -/
import Derived.Test.YtdcpcemihpkkaaaOnce
import Derived.Test.YtdcpcemihpkkaaaRankLaw
namespace Go.Proofs.Ytdcpcemihpkkaaa
open Go.RowKit
set_option linter.unusedVariables false
set_option linter.unusedSimpArgs false

/-- The function f, but v at x. -/
def up {α : Type} (f : Nat → α) (x : Nat) (v : α) : Nat → α := fun k => if k = x then v else f k
theorem up_at {α : Type} (f : Nat → α) (x : Nat) (v : α) : up f x v x = v := by simp [up]
theorem up_ne {α : Type} (f : Nat → α) {x k : Nat} (v : α) (h : k ≠ x) : up f x v k = f k := by simp [up, h]

/-- The block L holds n slices of m words; the first k of them have their rows. -/
structure Grid (w : World) (B L n m k : Nat) (gs : Nat → Nat) (W : Nat → Nat → Nat) : Prop where
  c : ∃ c : Array Value, w.heap[L]? = some (.cells c 76) ∧ c.size = n ∧ ∀ i, i < k → c[i]? = some (.slice (some ⟨gs i, 0, none⟩) m m)
  rows : ∀ i, i < k → Row w (gs i) m (W i)
  ne : ∀ i, i < k → gs i ≠ L
  inj : ∀ i j, i < k → j < k → i ≠ j → gs i ≠ gs j
  bl : B ≤ L
  bg : ∀ i, i < k → B ≤ gs i

theorem Grid.cell {w : World} {B L n m k : Nat} {gs : Nat → Nat} {W : Nat → Nat → Nat} (h : Grid w B L n m k gs W) {i : Nat} (hi : i < k) : w.cell? ⟨L, i, none⟩ = some (.slice (some ⟨gs i, 0, none⟩) m m) := by
  obtain ⟨c, h1, h2, h3⟩ := h.c
  rw [blk_cell h1]; exact h3 i hi
theorem Grid.free {w : World} {B L n m k : Nat} {gs : Nat → Nat} {W : Nat → Nat → Nat} (h : Grid w B L n m k gs W) (i : Nat) : w.frozen? ⟨L, i, none⟩ = false := by
  obtain ⟨c, h1, h2, h3⟩ := h.c
  exact blk_free h1 i
theorem Grid.some {w : World} {B L n m k : Nat} {gs : Nat → Nat} {W : Nat → Nat → Nat} (h : Grid w B L n m k gs W) {i : Nat} (hi : i < n) : ∃ v, w.cell? ⟨L, i, none⟩ = some v := by
  obtain ⟨c, h1, h2, h3⟩ := h.c
  exact ⟨c[i]'(by omega), by rw [blk_cell h1, Array.getElem?_eq_getElem (by omega)]⟩
theorem Grid.lt {w : World} {B L n m k : Nat} {gs : Nat → Nat} {W : Nat → Nat → Nat} (h : Grid w B L n m k gs W) : L < w.heap.size := by
  obtain ⟨c, h1, h2, h3⟩ := h.c
  exact blk_lt h1
theorem Grid.chg {w w' : World} {B L n m k : Nat} {gs : Nat → Nat} {W : Nat → Nat → Nat} (h : Grid w B L n m k gs W) {S : Nat → Prop} (g : Chg S w w') (hn : ∀ b, B ≤ b → b < w.heap.size → ¬ S b) : Grid w' B L n m k gs W where
  c := by
    obtain ⟨c, h1, h2, h3⟩ := h.c
    exact ⟨c, g.blk (hn L h.bl (blk_lt h1)) h1, h2, h3⟩
  rows := fun i hi => (h.rows i hi).chg g (hn _ (h.bg i hi) (h.rows i hi).lt)
  ne := h.ne
  inj := h.inj
  bl := h.bl
  bg := h.bg

/-- One row is changed. -/
theorem Grid.row {w w' : World} {B L n m k : Nat} {gs : Nat → Nat} {W : Nat → Nat → Nat} (h : Grid w B L n m k gs W) {i : Nat} (hi : i < k) {ws : Nat → Nat} (hr : Row w' (gs i) m ws) (g : Chg (fun b => b = gs i) w w') :
    Grid w' B L n m k gs (up W i ws) where
  c := by
    obtain ⟨c, h1, h2, h3⟩ := h.c
    exact ⟨c, g.blk (fun e => h.ne i hi e.symm) h1, h2, h3⟩
  rows := fun j hj => by
    by_cases e : j = i
    · subst e; rw [up_at]; exact hr
    · rw [up_ne _ _ e]; exact (h.rows j hj).chg g (h.inj j i hj hi e)
  ne := h.ne
  inj := h.inj
  bl := h.bl
  bg := h.bg

/-- A row is made. -/
theorem Grid.make {w w1 : World} {B L n m k : Nat} {gs : Nat → Nat} {W : Nat → Nat → Nat} (h : Grid w B L n m k gs W) (hk : k < n) (s : Nat) (hs : w.heap.size ≤ s) (hr : Row w1 s m (fun _ => 0)) (g : Chg (fun _ => False) w w1) :
    Grid (w1.setCell ⟨L, k, none⟩ (.slice (Option.some ⟨s, 0, none⟩) m m)) B L n m (k + 1) (up gs k s) (up W k (fun _ => 0)) := by
  have hL := h.lt
  have g2 := Chg.set w1 L k (.slice (Option.some ⟨s, 0, none⟩) m m)
  obtain ⟨c, h1, h2, h3⟩ := h.c
  have h1' := g.blk (fun h => h) h1
  have hgl : ∀ i, i < k → gs i < w.heap.size := fun i hi => (h.rows i hi).lt
  exact {
    c := by
      refine ⟨_, blk_set h1' k _, by simp [h2], fun i hi => ?_⟩
      rw [Array.getElem?_setIfInBounds]
      by_cases e : k = i
      · subst e
        simp [h2, hk, up]
      · rw [if_neg e, up_ne _ _ (Ne.symm e)]
        exact h3 i (by omega)
    rows := fun i hi => by
      by_cases e : i = k
      · subst e; rw [up_at, up_at]; exact hr.chg g2 (by omega)
      · rw [up_ne _ _ e, up_ne _ _ e]
        exact ((h.rows i (by omega)).chg g (fun h => h)).chg g2 (h.ne i (by omega))
    ne := fun i hi => by
      by_cases e : i = k
      · subst e; rw [up_at]; omega
      · rw [up_ne _ _ e]; exact h.ne i (by omega)
    inj := fun i j hi hj hij => by
      by_cases e : i = k
      · subst e
        rw [up_at, up_ne _ _ (Ne.symm hij)]
        have := hgl j (by omega)
        omega
      · by_cases e2 : j = k
        · subst e2
          rw [up_at, up_ne _ _ e]
          have := hgl i (by omega)
          omega
        · rw [up_ne _ _ e, up_ne _ _ e2]
          exact h.inj i j (by omega) (by omega) hij
    bl := h.bl
    bg := fun i hi => by
      by_cases e : i = k
      · subst e; rw [up_at]; have := h.bl; omega
      · rw [up_ne _ _ e]; exact h.bg i (by omega) }

/-- The pairs that came in, or were made: a row of twos. -/
def PRow (w : World) (B : Nat) (v : Value) (ps : Pairs) : Prop :=
  ∃ a cap, v = .slice a ps.length cap ∧ (ps = [] ∨ ∃ g off, a = some ⟨g, off, none⟩ ∧ g < B ∧ ∀ i (h : i < ps.length), w.cell? ⟨g, off + i * 2, none⟩ = some (.int .i64 ((ps[i]'h).1 : Int)) ∧ w.cell? ⟨g, off + i * 2 + 1, none⟩ = some (.int .i64 ((ps[i]'h).2 : Int)))

end Go.Proofs.Ytdcpcemihpkkaaa
