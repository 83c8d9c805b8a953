/- The walk of PlaceTexts. -/
import Derived.Test.YtcabkkfehdcagaaDoorKnown
namespace Go.Proofs.YtcabkkfehdcagaaDoor
open Go.RowKit
set_option linter.unusedVariables false
set_option linter.unusedSimpArgs false

theorem to_any (a b : Int) (w : World) : Calls Tryd.prog 12 #[.agg #[.int .i64 a, .int .i64 b]] w fun e w' => e = .returned (.agg #[.int .i64 a, .int .i64 b]) ∧ Below w.heap.size w w' := by
  go_enter Tryd.func12, Tryd.ntmps12
  go_wp2_with fail
  refine bodyPost_ret (v := .agg #[.int .i64 a, .int .i64 b]) (by simp [results, Tryd.results12, go_sem]) rfl ⟨rfl, ?_⟩
  go_grown

set_option maxRecDepth 100000 in
set_option maxHeartbeats 8000000 in
theorem texts_walk (c l m : Int) (wd : ByteArray) (hwd : wd.size ≤ 140737488355328) (l0 : -9223372036854775808 ≤ l) (l1 : l ≤ 9223372036854775807) (m0 : -9223372036854775808 ≤ m) (m1 : m ≤ 9223372036854775807) (w : World) (hT : Tabs w) :
    Calls Tryd.prog 3 #[.agg #[.int .i64 c, .int .i64 l, .int .i64 m, .string wd]] w fun e w' => e = .returned (.bool true) ∧ Below w.heap.size w w' := by
  have za := num_size l l0 l1
  have zb := num_size m m0 m1
  have zc := name_size c
  have s1 : ¬ 9223372036854775807 < (numTxt l).size + 1 := by omega
  have s2 : ¬ 9223372036854775807 < (numTxt l).size + 1 + (numTxt m).size := by omega
  have s3 : ¬ 9223372036854775807 < (numTxt l).size + 1 + (numTxt m).size + 2 := by omega
  have s4 : ¬ 9223372036854775807 < (numTxt l).size + 1 + (numTxt m).size + 2 + (nameOf c).size := by omega
  have s5 : ¬ 9223372036854775807 < (numTxt l).size + 1 + (numTxt m).size + 2 + (nameOf c).size + 1 := by omega
  have s6 : ¬ 9223372036854775807 < (numTxt l).size + 1 + (numTxt m).size + 2 + (nameOf c).size + 1 + wd.size := by omega
  have hE1 : Hid (¬ 0 < wd.size → numTxt l ++ ⟨#[58]⟩ ++ numTxt m ++ ⟨#[58, 32]⟩ ++ nameOf c = textOf c l m wd) := fun h => by unfold textOf; rw [if_pos (empty_of wd h).2.1]
  have hE2 : Hid (0 < wd.size → numTxt l ++ ⟨#[58]⟩ ++ numTxt m ++ ⟨#[58, 32]⟩ ++ nameOf c ++ ⟨#[32]⟩ ++ wd = textOf c l m wd) := fun h => by unfold textOf; rw [if_neg (nonempty wd h).2, ByteArray.append_assoc]
  go_enter Tryd.func3, Tryd.ntmps3
  go_wp2_with fail
  obtain ⟨W0, hW0⟩ : ∃ W0, W0 = w.alloc (.cells #[.int .i64 c, .int .i64 l, .int .i64 m, .string wd] 25) := ⟨_, rfl⟩
  have k0 := blk_new w (.cells #[.int .i64 c, .int .i64 l, .int .i64 m, .string wd] 25)
  have qB : Below w.heap.size w W0 := by rw [hW0]; exact (Below.refl _ w).alloc (Nat.le_refl _) _
  have HT : Hid (Tabs W0) := hT.below qB
  rw [← hW0] at k0 ⊢
  clear hW0 hT
  have HB := hide qB
  obtain ⟨A, hA⟩ : ∃ A, w.heap.size = A := ⟨_, rfl⟩
  rw [hA] at k0 ⊢
  clear hA
  have A0 := blk_cell k0 0
  have A1 := blk_cell k0 1
  have A2 := blk_cell k0 2
  have A3 := blk_cell k0 3
  have lA := blk_lt k0
  have Hc : Hid (Below W0.heap.size W0 W0) := hide (Below.refl _ W0)
  clear qB k0
  go_wp2_with fail
  go_region_held3 (fun w' => w'.cell? ⟨A, 0, none⟩ = some (.int .i64 c) ∧ w'.cell? ⟨A, 1, none⟩ = some (.int .i64 l) ∧ w'.cell? ⟨A, 2, none⟩ = some (.int .i64 m) ∧ w'.cell? ⟨A, 3, none⟩ = some (.string wd))
    (go_keep)
    (first
      | (go_at_call 8; refine (number_any _ (by assumption) (by assumption) _).mono ?_; rintro e w3 ⟨rfl, h3⟩; have Hd : Below W0.heap.size W0 w3 := (by first | exact step_on Hc.out h3 | exact step_in Hc.out h3); have DA0 := (Hd.cell (p := ⟨A, 0, none⟩) lA).trans A0; have DA1 := (Hd.cell (p := ⟨A, 1, none⟩) lA).trans A1; have DA2 := (Hd.cell (p := ⟨A, 2, none⟩) lA).trans A2; have DA3 := (Hd.cell (p := ⟨A, 3, none⟩) lA).trans A3; have hws := Hd.size; clear Hc; have Hc := hide Hd; clear Hd h3)
      | (go_at_call 9; refine (refName_any _ _).mono ?_; rintro e w3 ⟨rfl, rfl⟩))
  all_goals
    by_cases hw : 0 < wd.size
    · have hwI : (0 : Int) < (wd.size : Int) := by omega
      have E := hE2.out hw
      go_wp2_with fail
      clear E s1 s2 s3 s4 s5 s6
      go_region_held3 (fun w' => w'.cell? ⟨A, 0, none⟩ = some (.int .i64 c) ∧ w'.cell? ⟨A, 1, none⟩ = some (.int .i64 l) ∧ w'.cell? ⟨A, 2, none⟩ = some (.int .i64 m) ∧ w'.cell? ⟨A, 3, none⟩ = some (.string wd))
        (go_keep)
        (first
          | (go_at_call 10; refine (known_any _ (HT.out.below (by first | exact Hc.out | exact Hc.out.drew))).mono ?_; rintro e w3 ⟨rfl, h3⟩; have Hd : Below W0.heap.size W0 w3 := (by first | exact step_on Hc.out h3 | exact step_in Hc.out h3); have DA0 := (Hd.cell (p := ⟨A, 0, none⟩) lA).trans A0; have DA1 := (Hd.cell (p := ⟨A, 1, none⟩) lA).trans A1; have DA2 := (Hd.cell (p := ⟨A, 2, none⟩) lA).trans A2; have DA3 := (Hd.cell (p := ⟨A, 3, none⟩) lA).trans A3; have hws := Hd.size; clear Hc; have Hc := hide Hd; clear Hd h3)
          | (go_at_call 12; refine (to_any _ _ _).mono ?_; rintro e w3 ⟨rfl, h3⟩; have Hd : Below W0.heap.size W0 w3 := (by first | exact step_on Hc.out h3 | exact step_in Hc.out h3); have DA0 := (Hd.cell (p := ⟨A, 0, none⟩) lA).trans A0; have DA1 := (Hd.cell (p := ⟨A, 1, none⟩) lA).trans A1; have DA2 := (Hd.cell (p := ⟨A, 2, none⟩) lA).trans A2; have DA3 := (Hd.cell (p := ⟨A, 3, none⟩) lA).trans A3; have hws := Hd.size; clear Hc; have Hc := hide Hd; clear Hd h3)
          | (go_at_call 11; refine (text_any _ _ _ _ (by assumption) (by assumption) (by assumption) (by assumption) (by assumption) _ (HT.out.below (by first | exact Hc.out | exact Hc.out.drew))).mono ?_; rintro e w3 ⟨rfl, h3⟩; have Hd : Below W0.heap.size W0 w3 := (by first | exact step_on Hc.out h3 | exact step_in Hc.out h3); have DA0 := (Hd.cell (p := ⟨A, 0, none⟩) lA).trans A0; have DA1 := (Hd.cell (p := ⟨A, 1, none⟩) lA).trans A1; have DA2 := (Hd.cell (p := ⟨A, 2, none⟩) lA).trans A2; have DA3 := (Hd.cell (p := ⟨A, 3, none⟩) lA).trans A3; have hws := Hd.size; clear Hc; have Hc := hide Hd; clear Hd h3)
          | (go_at_call 13; refine (name_any _ _ (HT.out.below (by first | exact Hc.out | exact Hc.out.drew))).mono ?_; rintro e w3 ⟨rfl, h3⟩; have Hd : Below W0.heap.size W0 w3 := (by first | exact step_on Hc.out h3 | exact step_in Hc.out h3); have DA0 := (Hd.cell (p := ⟨A, 0, none⟩) lA).trans A0; have DA1 := (Hd.cell (p := ⟨A, 1, none⟩) lA).trans A1; have DA2 := (Hd.cell (p := ⟨A, 2, none⟩) lA).trans A2; have DA3 := (Hd.cell (p := ⟨A, 3, none⟩) lA).trans A3; have hws := Hd.size; clear Hc; have Hc := hide Hd; clear Hd h3)
          | (go_at_call 9; refine (refName_any _ _).mono ?_; rintro e w3 ⟨rfl, rfl⟩))
      go_wp2_with fail
      go_ret
      exact ⟨rfl, HB.out.trans (Hc.out.mono HB.out.size)⟩
    · have hwI : ¬ (0 : Int) < (wd.size : Int) := by omega
      have E := hE1.out hw
      go_wp2_with fail
      clear E s1 s2 s3 s4 s5 s6
      go_region_held3 (fun w' => w'.cell? ⟨A, 0, none⟩ = some (.int .i64 c) ∧ w'.cell? ⟨A, 1, none⟩ = some (.int .i64 l) ∧ w'.cell? ⟨A, 2, none⟩ = some (.int .i64 m) ∧ w'.cell? ⟨A, 3, none⟩ = some (.string wd))
        (go_keep)
        (first
          | (go_at_call 10; refine (known_any _ (HT.out.below (by first | exact Hc.out | exact Hc.out.drew))).mono ?_; rintro e w3 ⟨rfl, h3⟩; have Hd : Below W0.heap.size W0 w3 := (by first | exact step_on Hc.out h3 | exact step_in Hc.out h3); have DA0 := (Hd.cell (p := ⟨A, 0, none⟩) lA).trans A0; have DA1 := (Hd.cell (p := ⟨A, 1, none⟩) lA).trans A1; have DA2 := (Hd.cell (p := ⟨A, 2, none⟩) lA).trans A2; have DA3 := (Hd.cell (p := ⟨A, 3, none⟩) lA).trans A3; have hws := Hd.size; clear Hc; have Hc := hide Hd; clear Hd h3)
          | (go_at_call 12; refine (to_any _ _ _).mono ?_; rintro e w3 ⟨rfl, h3⟩; have Hd : Below W0.heap.size W0 w3 := (by first | exact step_on Hc.out h3 | exact step_in Hc.out h3); have DA0 := (Hd.cell (p := ⟨A, 0, none⟩) lA).trans A0; have DA1 := (Hd.cell (p := ⟨A, 1, none⟩) lA).trans A1; have DA2 := (Hd.cell (p := ⟨A, 2, none⟩) lA).trans A2; have DA3 := (Hd.cell (p := ⟨A, 3, none⟩) lA).trans A3; have hws := Hd.size; clear Hc; have Hc := hide Hd; clear Hd h3)
          | (go_at_call 11; refine (text_any _ _ _ _ (by assumption) (by assumption) (by assumption) (by assumption) (by assumption) _ (HT.out.below (by first | exact Hc.out | exact Hc.out.drew))).mono ?_; rintro e w3 ⟨rfl, h3⟩; have Hd : Below W0.heap.size W0 w3 := (by first | exact step_on Hc.out h3 | exact step_in Hc.out h3); have DA0 := (Hd.cell (p := ⟨A, 0, none⟩) lA).trans A0; have DA1 := (Hd.cell (p := ⟨A, 1, none⟩) lA).trans A1; have DA2 := (Hd.cell (p := ⟨A, 2, none⟩) lA).trans A2; have DA3 := (Hd.cell (p := ⟨A, 3, none⟩) lA).trans A3; have hws := Hd.size; clear Hc; have Hc := hide Hd; clear Hd h3)
          | (go_at_call 13; refine (name_any _ _ (HT.out.below (by first | exact Hc.out | exact Hc.out.drew))).mono ?_; rintro e w3 ⟨rfl, h3⟩; have Hd : Below W0.heap.size W0 w3 := (by first | exact step_on Hc.out h3 | exact step_in Hc.out h3); have DA0 := (Hd.cell (p := ⟨A, 0, none⟩) lA).trans A0; have DA1 := (Hd.cell (p := ⟨A, 1, none⟩) lA).trans A1; have DA2 := (Hd.cell (p := ⟨A, 2, none⟩) lA).trans A2; have DA3 := (Hd.cell (p := ⟨A, 3, none⟩) lA).trans A3; have hws := Hd.size; clear Hc; have Hc := hide Hd; clear Hd h3)
          | (go_at_call 9; refine (refName_any _ _).mono ?_; rintro e w3 ⟨rfl, rfl⟩))
      go_wp2_with fail
      go_ret
      exact ⟨rfl, HB.out.trans (Hc.out.mono HB.out.size)⟩
end Go.Proofs.YtcabkkfehdcagaaDoor
