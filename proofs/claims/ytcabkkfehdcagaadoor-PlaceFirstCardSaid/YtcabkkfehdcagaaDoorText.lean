/- place.Text: how a fault is told. -/
import Derived.Test.YtcabkkfehdcagaaDoorNumber
import Derived.Deep.RegionHeld3
namespace Go.Proofs.YtcabkkfehdcagaaDoor
open Go.RowKit
set_option linter.unusedVariables false
set_option linter.unusedSimpArgs false

theorem below_grow (w : World) (k : Nat) (os : Array Obj) : Below w.heap.size w (Sort.grow (w.drewN k) os) :=
  ⟨rfl, rfl, rfl, by show w.heap.size ≤ (w.heap ++ os).size; simp, fun j hj => by show (w.heap ++ os)[j]? = _; rw [Array.getElem?_append_left hj]⟩

theorem itoa_c (n : Int) (h0 : -9223372036854775808 ≤ n) (h1 : n ≤ 9223372036854775807) (w : World) (hT : Tabs w) :
    Calls Tryd.prog 26 #[.int .i64 n] w fun e w' => e = .returned (.string (numTxt n)) ∧ Below w.heap.size w w' := by
  refine (Tryd.strconv_Itoa n h0 h1 w hT.1).mono ?_
  rintro e w' ⟨he, k, os, rfl⟩
  exact ⟨he, below_grow w k os⟩

theorem num_size (n : Int) (h0 : -9223372036854775808 ≤ n) (h1 : n ≤ 9223372036854775807) : (numTxt n).size ≤ 21 := by
  have := Lib.itoa_length_le n h0 h1
  simpa [numTxt, ByteArray.size] using this
theorem name_size (n : Int) : (nameOf n).size ≤ 8 := by
  by_cases h : 0 ≤ n ∧ n < 14
  · rcases upto14 n h with rfl | rfl | rfl | rfl | rfl | rfl | rfl | rfl | rfl | rfl | rfl | rfl | rfl | rfl <;> decide
  · unfold nameOf; rw [if_neg h]; decide

theorem step_in {w w1 w2 : World} (h : Below w.heap.size w w1) (h2 : Below w1.heap.size w1 w2) : Below w.heap.size w w2 := h.trans (h2.mono h.size)
theorem step_on {w w1 w2 : World} (h : Below w.heap.size w w1) (h2 : Below w1.heap.size w1.drew w2) : Below w.heap.size w w2 := h.drew.trans (h2.mono (by show w.heap.size ≤ w1.heap.size; exact h.size))

def textOf (c l m : Int) (wd : ByteArray) : ByteArray :=
  if wd.toList = [] then numTxt l ++ ⟨#[58]⟩ ++ numTxt m ++ ⟨#[58, 32]⟩ ++ nameOf c else numTxt l ++ ⟨#[58]⟩ ++ numTxt m ++ ⟨#[58, 32]⟩ ++ nameOf c ++ (⟨#[32]⟩ ++ wd)

set_option maxRecDepth 100000 in
set_option maxHeartbeats 4000000 in
theorem text_any (c l m : Int) (wd : ByteArray) (hwd : wd.size ≤ 140737488355328) (l0 : -9223372036854775808 ≤ l) (l1 : l ≤ 9223372036854775807) (m0 : -9223372036854775808 ≤ m) (m1 : m ≤ 9223372036854775807) (w : World) (hT : Tabs w) :
    Calls Tryd.prog 11 #[.agg #[.int .i64 c, .int .i64 l, .int .i64 m, .string wd]] w fun e w' => e = .returned (.string (textOf c l m wd)) ∧ Below w.heap.size w w' := by
  have za := num_size l l0 l1
  have zb := num_size m m0 m1
  have zc := name_size c
  have s1 : ¬ 9223372036854775807 < (numTxt l).size + 1 := by omega
  have s2 : ¬ 9223372036854775807 < (numTxt l).size + 1 + (numTxt m).size := by omega
  have s3 : ¬ 9223372036854775807 < (numTxt l).size + 1 + (numTxt m).size + 2 := by omega
  have s4 : ¬ 9223372036854775807 < (numTxt l).size + 1 + (numTxt m).size + 2 + (nameOf c).size := by omega
  have s5 : ¬ 9223372036854775807 < 1 + wd.size := by omega
  have s6 : ¬ 9223372036854775807 < (numTxt l).size + 1 + (numTxt m).size + 2 + (nameOf c).size + (1 + wd.size) := by omega
  have hE1 : Hid (wd.toList = [] → numTxt l ++ ⟨#[58]⟩ ++ numTxt m ++ ⟨#[58, 32]⟩ ++ nameOf c = textOf c l m wd) := fun h => by unfold textOf; rw [if_pos h]
  have hE2 : Hid (¬ wd.toList = [] → numTxt l ++ ⟨#[58]⟩ ++ numTxt m ++ ⟨#[58, 32]⟩ ++ nameOf c ++ (⟨#[32]⟩ ++ wd) = textOf c l m wd) := fun h => by unfold textOf; rw [if_neg h]
  go_enter Tryd.func11, Tryd.ntmps11
  go_wp2_with fail
  obtain ⟨W0, hW0⟩ : ∃ W0, W0 = w.alloc (.cells #[.int .i64 c, .int .i64 l, .int .i64 m, .string wd] 33) := ⟨_, rfl⟩
  have k0 := blk_new w (.cells #[.int .i64 c, .int .i64 l, .int .i64 m, .string wd] 33)
  have qB : Below w.heap.size w W0 := by rw [hW0]; exact (Below.refl _ w).alloc (Nat.le_refl _) _
  have HT : Hid (Tabs W0) := hT.below qB
  rw [← hW0] at k0 ⊢
  clear hW0 hT
  have HB := hide qB
  obtain ⟨A, hA⟩ : ∃ A, w.heap.size = A := ⟨_, rfl⟩
  rw [hA] at k0 ⊢
  clear hA
  have A0 := blk_cell k0 0
  have A1 := blk_cell k0 1
  have A2 := blk_cell k0 2
  have A3 := blk_cell k0 3
  have lA := blk_lt k0
  have Hc : Hid (Below W0.heap.size W0 W0) := hide (Below.refl _ W0)
  clear qB k0
  go_wp2_with fail
  go_region_held3 (fun w' => w'.cell? ⟨A, 0, none⟩ = some (.int .i64 c) ∧ w'.cell? ⟨A, 1, none⟩ = some (.int .i64 l) ∧ w'.cell? ⟨A, 2, none⟩ = some (.int .i64 m) ∧ w'.cell? ⟨A, 3, none⟩ = some (.string wd))
    (go_keep)
    (first
      | (go_at_call 26; refine (itoa_c _ (by assumption) (by assumption) _ (HT.out.below (by first | exact Hc.out | exact Hc.out.drew))).mono ?_; rintro e w3 ⟨rfl, h3⟩; have Hd : Below W0.heap.size W0 w3 := (by first | exact step_on Hc.out h3 | exact step_in Hc.out h3); have DA0 := (Hd.cell (p := ⟨A, 0, none⟩) lA).trans A0; have DA1 := (Hd.cell (p := ⟨A, 1, none⟩) lA).trans A1; have DA2 := (Hd.cell (p := ⟨A, 2, none⟩) lA).trans A2; have DA3 := (Hd.cell (p := ⟨A, 3, none⟩) lA).trans A3; have hws := Hd.size; clear Hc; have Hc := hide Hd; clear Hd h3)
      | (go_at_call 13; refine (name_any _ _ (HT.out.below (by first | exact Hc.out | exact Hc.out.drew))).mono ?_; rintro e w3 ⟨rfl, h3⟩; have Hd : Below W0.heap.size W0 w3 := (by first | exact step_on Hc.out h3 | exact step_in Hc.out h3); have DA0 := (Hd.cell (p := ⟨A, 0, none⟩) lA).trans A0; have DA1 := (Hd.cell (p := ⟨A, 1, none⟩) lA).trans A1; have DA2 := (Hd.cell (p := ⟨A, 2, none⟩) lA).trans A2; have DA3 := (Hd.cell (p := ⟨A, 3, none⟩) lA).trans A3; have hws := Hd.size; clear Hc; have Hc := hide Hd; clear Hd h3))
  all_goals
    by_cases hw : wd.toList = []
    · have hw2 : wd.toList.isEmpty = true := by rw [hw]; rfl
      have E := hide (hE1.out hw)
      go_wp2_with fail
      go_ret
      exact ⟨by rw [← E.out]; rfl, HB.out.trans (Hc.out.mono HB.out.size)⟩
    · have hw2 : wd.toList.isEmpty = false := by cases h : wd.toList with | nil => exact absurd h hw | cons a r => rfl
      have E := hide (hE2.out hw)
      go_wp2_with fail
      go_ret
      exact ⟨by rw [← E.out]; rfl, HB.out.trans (Hc.out.mono HB.out.size)⟩
end Go.Proofs.YtcabkkfehdcagaaDoor
