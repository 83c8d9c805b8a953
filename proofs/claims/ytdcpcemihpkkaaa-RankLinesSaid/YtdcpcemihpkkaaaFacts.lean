/- Plain facts on what a rank that may be answers. -/
import Derived.Test.YtdcpcemihpkkaaaTo
namespace Go.Proofs.Ytdcpcemihpkkaaa
open Go.RowKit Go.Maps
set_option linter.unusedVariables false
set_option linter.unusedSimpArgs false

theorem newCode_zero {N : Int} {rp rs : List (Int × Int)} (h : newCode N rp rs = 0) : 0 ≤ N ∧ N ≤ 1000 ∧ rp.any (outP N) = false ∧ rs.any (outS N) = false ∧ dup rs = false ∧ cyc N.toNat (nats rp) = false := by
  unfold newCode at h
  by_cases h1 : N < 0 ∨ N > 1000
  · rw [if_pos h1] at h; exact absurd h (by decide)
  rw [if_neg h1] at h
  cases h2 : rp.any (outP N)
  · rw [h2, if_neg (by decide)] at h
    cases h3 : rs.any (outS N)
    · rw [h3, if_neg (by decide)] at h
      cases h4 : dup rs
      · rw [h4, if_neg (by decide)] at h
        cases h5 : cyc N.toNat (nats rp)
        · exact ⟨by omega, by omega, rfl, rfl, rfl, rfl⟩
        · rw [h5, if_pos rfl] at h; exact absurd h (by decide)
      · rw [h4, if_pos rfl] at h; exact absurd h (by decide)
    · rw [h3, if_pos rfl] at h; exact absurd h (by decide)
  · rw [h2, if_pos rfl] at h; exact absurd h (by decide)

theorem abv_iff {n : Nat} {ps : Pairs} {x y : Int} : abv n ps x y = true ↔ 0 ≤ x ∧ x < n ∧ 0 ≤ y ∧ y < n ∧ Reach ps x.toNat y.toNat := by
  unfold abv
  rw [← above_iff]
  simp only [Bool.and_eq_true, decide_eq_true_eq]

theorem abv_trans {n : Nat} {ps : Pairs} {x y z : Int} (h1 : abv n ps x y = true) (h2 : abv n ps y z = true) : abv n ps x z = true := by
  rw [abv_iff] at *
  obtain ⟨a1, a2, a3, a4, a5⟩ := h1
  obtain ⟨b1, b2, b3, b4, b5⟩ := h2
  exact ⟨a1, a2, b3, b4, a5.trans b5⟩

theorem abv_irr {n : Nat} {ps : Pairs} (h : cyc n ps = false) (x : Int) : abv n ps x x = false := by
  cases e : abv n ps x x
  · rfl
  · rw [abv_iff] at e
    obtain ⟨a1, a2, a3, a4, a5⟩ := e
    unfold cyc at h
    rw [List.any_eq_false] at h
    exact absurd ((above_iff _ _ _).2 a5) (h x.toNat (List.mem_range.2 (by omega)))

theorem abv_anti {n : Nat} {ps : Pairs} (h : cyc n ps = false) {x y : Int} (h1 : abv n ps x y = true) : abv n ps y x = false := by
  cases e : abv n ps y x
  · rfl
  · have := abv_trans h1 e
    rw [abv_irr h] at this
    cases this
end Go.Proofs.Ytdcpcemihpkkaaa
