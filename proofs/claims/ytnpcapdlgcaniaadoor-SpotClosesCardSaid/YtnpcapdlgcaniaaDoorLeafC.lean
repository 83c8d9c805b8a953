/- Two new blocks are written: what is known behind it. -/
import Derived.Test.YtnpcapdlgcaniaaDoorBehind
namespace Go.Proofs.YtnpcapdlgcaniaaDoor
open Go.RowKit
set_option linter.unusedVariables false
set_option linter.unusedSimpArgs false

/-- what is known behind the stores of a world into A and of a term into X -/
structure LeafS (w3 u : World) (A X : Nat) (a0 a1 a2 x0 x1 x2 x3 : Value) (u1 u2 : World) : Prop where
  e1 : ((u.setCell ⟨A, 0, none⟩ a0).setCell ⟨A, 1, none⟩ a1).setCell ⟨A, 2, none⟩ a2 = u1
  e2 : (((u1.setCell ⟨X, 0, none⟩ x0).setCell ⟨X, 1, none⟩ x1).setCell ⟨X, 2, none⟩ x2).setCell ⟨X, 3, none⟩ x3 = u2
  ca : u.cell? ⟨A, 0, none⟩ = some (.int .i64 0) ∧ u.cell? ⟨A, 1, none⟩ = some (.slice none 0 0) ∧ u.cell? ⟨A, 2, none⟩ = some (.slice none 0 0) ∧ u.frozen? ⟨A, 0, none⟩ = false ∧ u.frozen? ⟨A, 1, none⟩ = false ∧ u.frozen? ⟨A, 2, none⟩ = false
  cx : u1.cell? ⟨X, 0, none⟩ = some (.slice none 0 0) ∧ u1.cell? ⟨X, 1, none⟩ = some (.int .i64 0) ∧ u1.cell? ⟨X, 2, none⟩ = some (.int .i64 0) ∧ u1.cell? ⟨X, 3, none⟩ = some (.slice none 0 0) ∧ u1.frozen? ⟨X, 0, none⟩ = false ∧ u1.frozen? ⟨X, 1, none⟩ = false ∧ u1.frozen? ⟨X, 2, none⟩ = false ∧ u1.frozen? ⟨X, 3, none⟩ = false
  g1 : Hid (Chg (fun _ => False) w3 u1)
  g2 : Hid (Chg (fun _ => False) w3 u2)
  b1 : Hid (u2.heap[A]? = some (.cells #[a0, a1, a2] 66))
  b2 : Hid (u2.heap[X]? = some (.cells #[x0, x1, x2, x3] 35))
  mv : ∀ v f (Y : Nat → Prop), Ts u Y v f → (∀ x, Y x → x < u.heap.size ∧ x ≠ A ∧ x ≠ X) → Hid (Ts u2 (fun x => x < u2.heap.size) v f)
  mvt : ∀ v t (Y : Nat → Prop), TV u Y v t → (∀ x, Y x → x < u.heap.size ∧ x ≠ A ∧ x ≠ X) → Hid (TV u2 (fun x => x < u2.heap.size) v t)
theorem leaf_st {w3 u : World} {A X : Nat} (a0 a1 a2 x0 x1 x2 x3 : Value) (hA : w3.heap.size ≤ A) (hX : w3.heap.size ≤ X) (hne : A ≠ X) (bA : u.heap[A]? = some (.cells #[.int .i64 0, .slice none 0 0, .slice none 0 0] 66))
    (bX : u.heap[X]? = some (.cells #[.slice none 0 0, .int .i64 0, .int .i64 0, .slice none 0 0] 35)) (g : Chg (fun _ => False) w3 u) : ∃ u1 u2, LeafS w3 u A X a0 a1 a2 x0 x1 x2 x3 u1 u2 := by
  have C1 := (((Chg.refl (fun x => x = A) u).setCell (p := ⟨A, 0, none⟩) (Or.inl rfl) a0).setCell (p := ⟨A, 1, none⟩) (Or.inl rfl) a1).setCell (p := ⟨A, 2, none⟩) (Or.inl rfl) a2
  have S1 := blk_set (blk_set (blk_set bA 0 a0) 1 a1) 2 a2
  simp only [List.setIfInBounds_toArray, List.set_cons_zero, List.set_cons_succ] at S1
  obtain ⟨u1, hu1⟩ : ∃ u1, ((u.setCell ⟨A, 0, none⟩ a0).setCell ⟨A, 1, none⟩ a1).setCell ⟨A, 2, none⟩ a2 = u1 := ⟨_, rfl⟩
  rw [hu1] at C1 S1
  have bX1 := C1.blk (fun e => hne e.symm) bX
  have C2 := ((((Chg.refl (fun x => x = X) u1).setCell (p := ⟨X, 0, none⟩) (Or.inl rfl) x0).setCell (p := ⟨X, 1, none⟩) (Or.inl rfl) x1).setCell (p := ⟨X, 2, none⟩) (Or.inl rfl) x2).setCell (p := ⟨X, 3, none⟩) (Or.inl rfl) x3
  have S2 := blk_set (blk_set (blk_set (blk_set bX1 0 x0) 1 x1) 2 x2) 3 x3
  simp only [List.setIfInBounds_toArray, List.set_cons_zero, List.set_cons_succ] at S2
  obtain ⟨u2, hu2⟩ : ∃ u2, (((u1.setCell ⟨X, 0, none⟩ x0).setCell ⟨X, 1, none⟩ x1).setCell ⟨X, 2, none⟩ x2).setCell ⟨X, 3, none⟩ x3 = u2 := ⟨_, rfl⟩
  rw [hu2] at C2 S2
  have G1 : Chg (fun _ => False) w3 u1 := (g.none.trans (C1.mono (T := fun x => w3.heap.size ≤ x) (fun x _ e => by omega))).mono (fun x hx e => by omega)
  have G2 : Chg (fun _ => False) w3 u2 := (G1.none.trans (C2.mono (T := fun x => w3.heap.size ≤ x) (fun x _ e => by omega))).mono (fun x hx e => by omega)
  refine ⟨u1, u2, hu1, hu2, ⟨blk_cell bA 0, blk_cell bA 1, blk_cell bA 2, blk_free bA 0, blk_free bA 1, blk_free bA 2⟩,
    ⟨blk_cell bX1 0, blk_cell bX1 1, blk_cell bX1 2, blk_cell bX1 3, blk_free bX1 0, blk_free bX1 1, blk_free bX1 2, blk_free bX1 3⟩, hide G1, hide G2, hide (C2.blk (fun e => hne e) S1), hide S2, fun v f Y h hy => hide ?_, fun v t Y h hy => hide ?_⟩
  · exact ((h.chg C1 (fun x hx e => (hy x hx).2.1 e)).chg C2 (fun x hx e => (hy x hx).2.2 e)).up (fun x hx => Nat.lt_of_lt_of_le (hy x hx).1 (Nat.le_trans C1.size C2.size))
  · exact ((h.chg C1 (fun x hx e => (hy x hx).2.1 e)).chg C2 (fun x hx e => (hy x hx).2.2 e)).up (fun x hx => Nat.lt_of_lt_of_le (hy x hx).1 (Nat.le_trans C1.size C2.size))
end Go.Proofs.YtnpcapdlgcaniaaDoor
