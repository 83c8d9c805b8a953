/- The document's Above of a rank. -/
import Derived.Test.YtdcpcemihpkkaaaRefAbove
import Derived.Test.YtdcpcemihpkkaaaFacts
namespace Go.Proofs.Ytdcpcemihpkkaaa
open Go.RowKit Go.Maps
set_option linter.unusedVariables false
set_option linter.unusedSimpArgs false

set_option maxRecDepth 100000 in
set_option maxHeartbeats 4000000 in
theorem refAb_any (n : Nat) (x y : Int) (pa sa : Option Addr) (pl pc sl sc : Nat) (ps : Pairs) (hps : ps.length ≤ 1000) (B : Nat) (w : World) (hv : PRow w B (.slice pa pl pc) ps) (hB : B ≤ w.heap.size) :
    Calls Try.prog 14 #[.agg #[.int .i64 (n : Int), .slice pa pl pc, .slice sa sl sc], .int .i64 x, .int .i64 y] w fun e w' => e = .returned (.bool (abv n ps x y)) ∧ Chg (fun _ => False) w w' := by
  have C1 := hide (al w (.cells #[.int .i64 (n : Int), .slice pa pl pc, .slice sa sl sc] 25))
  have ab := hide (fun (a b : Nat) => aboveR_any _ ps hps a b B (w.alloc (.cells #[.int .i64 (n : Int), .slice pa pl pc, .slice sa sl sc] 25)) (hv.chg C1.out (fun _ _ h => h)) (Nat.le_trans hB C1.out.size))
  clear hv
  unfold abv
  by_cases h1 : 0 ≤ x
  · have b1 : decide (0 ≤ x) = true := by simp; omega
    rw [b1, Bool.true_and]
    by_cases h2 : x < (n : Int)
    · have b2 : decide (x < (n : Int)) = true := by simp; omega
      rw [b2, Bool.true_and]
      by_cases h3 : 0 ≤ y
      · have b3 : decide (0 ≤ y) = true := by simp; omega
        rw [b3, Bool.true_and]
        by_cases h4 : y < (n : Int)
        · have b4 : decide (y < (n : Int)) = true := by simp; omega
          rw [b4, Bool.true_and]
          have ab1 := hide (ab.out x.toNat y.toNat)
          rw [Int.toNat_of_nonneg h1, Int.toNat_of_nonneg h3] at ab1
          generalize above ps x.toNat y.toNat = R at *
          clear ab
          go_enter Try.func14, Try.ntmps14
          go_wp2_with fail
          refine ab1.out.mono ?_
          rintro e w1 ⟨rfl, g1⟩
          have C2 := hide (C1.out.trans g1)
          clear g1 ab1 C1
          go_wp2_with fail
          go_ret
          exact ⟨rfl, C2.out⟩
        · have b4 : decide (y < (n : Int)) = false := by simp; omega
          rw [b4, Bool.false_and]
          clear ab
          go_enter Try.func14, Try.ntmps14
          go_wp2_with fail
          go_ret
          exact ⟨rfl, C1.out⟩
      · have b3 : decide (0 ≤ y) = false := by simp; omega
        rw [b3, Bool.false_and]
        clear ab
        go_enter Try.func14, Try.ntmps14
        go_wp2_with fail
        go_ret
        exact ⟨rfl, C1.out⟩
    · have b2 : decide (x < (n : Int)) = false := by simp; omega
      rw [b2, Bool.false_and]
      clear ab
      go_enter Try.func14, Try.ntmps14
      go_wp2_with fail
      go_ret
      exact ⟨rfl, C1.out⟩
  · have b1 : decide (0 ≤ x) = false := by simp; omega
    rw [b1, Bool.false_and]
    clear ab
    go_enter Try.func14, Try.ntmps14
    go_wp2_with fail
    go_ret
    exact ⟨rfl, C1.out⟩
end Go.Proofs.Ytdcpcemihpkkaaa
