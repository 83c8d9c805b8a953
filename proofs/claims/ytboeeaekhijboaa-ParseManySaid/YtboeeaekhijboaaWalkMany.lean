/- The walk of ParseMany: as many items as may be, and more. -/
import Derived.Test.YtboeeaekhijboaaKnown
import Derived.Test.YtboeeaekhijboaaManyLaw
import Derived.Test.YtboeeaekhijboaaSame
namespace Go.Proofs.Ytboeeaekhijboaa
open Go.RowKit
set_option linter.unusedVariables false
set_option linter.unusedSimpArgs false

theorem many_call (n : Nat) (hn : n ≤ 1002) (w : World) : Calls Try.prog 8 #[.string (manyT n)] w fun e w' =>
    ∃ a cap f0 f1 f2 f3 len, e = .returned (.tuple #[.slice a len cap, .agg #[.int .i64 f0, .int .i64 f1, .int .i64 f2, .string f3]]) ∧ ((n ≤ 1000 ∧ f0 = 0 ∧ len = n) ∨ (1000 < n ∧ f0 = 2 ∧ f1 = 1 ∧ f2 = 7001 ∧ f3 = ⟨#[115, 111, 114, 116]⟩ ∧ len = 0)) ∧ Chg (fun _ => False) w w' := by
  refine (text_any (manyT n) (by rw [manyT_size]; omega) w).mono ?_
  rintro e w' ⟨⟨u, rfl, hu⟩, g⟩
  obtain ⟨a, cap, rfl, _⟩ := hu
  by_cases h : n ≤ 1000
  · obtain ⟨L, e1, e2⟩ := many_few n h
    rw [e1]
    exact ⟨a, cap, 0, 0, 0, ⟨#[]⟩, _, rfl, Or.inl ⟨h, rfl, e2⟩, g⟩
  · have e1 := many_long n (by omega)
    rw [e1]
    exact ⟨a, cap, 2, 1, 7001, bSort, _, rfl, Or.inr ⟨by omega, rfl, rfl, rfl, rfl, rfl⟩, g⟩

set_option maxRecDepth 100000 in
set_option maxHeartbeats 16000000 in
theorem many_walk (n : Int) (w : World) :
    Calls Try.prog 4 #[.int .i64 n] w fun e w' => e = .returned (.bool true) ∧ Chg (fun _ => False) w w' := by
  obtain ⟨M, hN, hM⟩ : ∃ M : Nat, wrap64 (998 + wrap64 ((IntKind.u64.wrap n).tmod 5)) = (M : Int) ∧ M ≤ 1002 := by
    have h1 : 0 ≤ IntKind.u64.wrap n := by rw [IntKind.wrap_u64]; omega
    have h2 := Int.tmod_nonneg (b := 5) h1
    have h3 := Int.tmod_lt_of_pos (IntKind.u64.wrap n) (b := 5) (by omega)
    have h4 : wrap64 ((IntKind.u64.wrap n).tmod 5) = (IntKind.u64.wrap n).tmod 5 := IntWalk.wrap64_in _ (by omega)
    rw [h4]
    refine ⟨(998 + (IntKind.u64.wrap n).tmod 5).toNat, ?_, by omega⟩
    rw [IntWalk.wrap64_in _ (by omega)]; omega
  have HM := hide hM
  go_enter Try.func4, Try.ntmps4
  go_wp2_with fail
  simp only [hN]
  clear hN
  go_loop [3, 4] (fun s i => ∃ k : Nat, k ≤ M ∧ s = .string (manyT k) ∧ i = .int .i64 k) (fun _ i => M - (intOf i).toNat)
  case atStart => exact ⟨0, Nat.zero_le _, rfl, rfl⟩
  case round =>
    obtain ⟨k, hk, rfl, rfl⟩ := hrel
    have sA : (manyT k).size ≤ 100000 := by rw [manyT_size]; omega
    by_cases hlt : k < M
    · have hltI : (k : Int) < (M : Int) := by omega
      go_wp2_with fail
      go_round
      case rel => exact ⟨k + 1, by omega, rfl, by go_num⟩
      case measure => simp [intOf]; omega
    · have hkM : k = M := by omega
      subst hkM
      have hltI : ¬ (k : Int) < (k : Int) := by omega
      have MC := hide (fun w => many_call k HM.out w)
      go_wp2_with fail
      refine (MC.out _).mono ?_
      rintro e w1 ⟨a, cap, f0, f1, f2, f3, len, rfl, hf, g1⟩
      have GA := al w1 (.cells #[.int .i64 f0, .int .i64 f1, .int .i64 f2, .string f3] 27)
      have BA := hide (blk_new w1 (.cells #[.int .i64 f0, .int .i64 f1, .int .i64 f2, .string f3] 27))
      have G2 := hide (g1.trans GA)
      clear MC sA hlt hltI g1 GA
      rcases hf with ⟨h1, rfl, rfl⟩ | ⟨h1, rfl, rfl, rfl, rfl, rfl⟩
      · have hI : (len : Int) ≤ 1000 := by omega
        go_wp2_with fail
        generalize w1.alloc (.cells #[.int .i64 0, .int .i64 f1, .int .i64 f2, .string f3] 27) = w2 at *
        generalize w1.heap.size = B at *
        refine (known_any _).mono ?_
        rintro e w3 ⟨rfl, g3⟩
        have b0 := blk_cell (g3.blk BA.out) 0
        simp only [List.getElem?_toArray, List.getElem?_cons_zero] at b0
        have G3 := hide (G2.out.trans g3)
        clear g3 BA G2
        go_wp2_with fail
        go_ret
        exact ⟨rfl, G3.out⟩
      · have hI : ¬ (k : Int) ≤ 1000 := by omega
        go_wp2_with fail
        generalize w1.alloc (.cells #[.int .i64 2, .int .i64 1, .int .i64 7001, .string ⟨#[115, 111, 114, 116]⟩] 27) = w2 at *
        generalize w1.heap.size = B at *
        refine (known_any _).mono ?_
        rintro e w3 ⟨rfl, g3⟩
        have b0 := blk_cell (g3.blk BA.out) 0
        have b1 := blk_cell (g3.blk BA.out) 1
        have b2 := blk_cell (g3.blk BA.out) 2
        have b3 := blk_cell (g3.blk BA.out) 3
        simp only [List.getElem?_toArray, List.getElem?_cons_zero, List.getElem?_cons_succ] at b0 b1 b2 b3
        have G3 := hide (G2.out.trans g3)
        clear g3 BA G2
        go_wp2_with fail
        refine (fault_any 2 1 7001 ⟨#[115, 111, 114, 116]⟩ _).mono ?_
        rintro e w4 ⟨rfl, g4⟩
        have G4 := hide (G3.out.trans (Chg.ofB g4))
        clear g4 G3
        go_wp2_with fail
        go_ret
        exact ⟨rfl, G4.out⟩
theorem many_below (n : Int) (w : World) : Calls Try.prog 4 #[.int .i64 n] w fun e w' => e = .returned (.bool true) ∧ Below w.heap.size w w' :=
  (many_walk n w).mono fun e w' h => ⟨h.1, h.2.below (Nat.le_refl _) (fun _ h => h.elim)⟩
end Go.Proofs.Ytboeeaekhijboaa
