/- The walk of RankNil. -/
import Derived.Test.YtdcpcemihpkkaaaNils
namespace Go.Proofs.Ytdcpcemihpkkaaa
open Go.RowKit Go.Maps
set_option linter.unusedVariables false
set_option linter.unusedSimpArgs false

set_option maxRecDepth 100000 in
set_option maxHeartbeats 8000000 in
theorem nil_walk (a b : Int) (w : World) :
    Calls Try.prog 8 #[.int .i64 a, .int .i64 b] w fun e w' => e = .returned (.bool true) ∧ Below w.heap.size w w' := by
  have C1 := hide (al w (.cells #[.int .i64 a, .int .i64 b] 43))
  go_enter Try.func8, Try.ntmps8
  go_wp2_with fail
  refine (with_nil _ _).mono ?_
  rintro e w1 ⟨rfl, rfl⟩
  go_wp2_with fail
  refine (known_any _).mono ?_
  rintro e w1 ⟨rfl, g1⟩
  have C2 := hide (C1.out.trans g1)
  clear g1 C1
  go_wp2_with fail
  refine (len_nil _).mono ?_
  rintro e w2 ⟨rfl, rfl⟩
  go_wp2_with fail
  refine (above_nil _ _ _).mono ?_
  rintro e w2 ⟨rfl, rfl⟩
  go_wp2_with fail
  refine (Status_nil _ _).mono ?_
  rintro e w2 ⟨rfl, rfl⟩
  go_wp2_with fail
  refine (pairs_nil _).mono ?_
  rintro e w2 ⟨rfl, rfl⟩
  go_wp2_with fail
  refine (line_nil _).mono ?_
  rintro e w2 ⟨rfl, g2⟩
  have C3 := hide (C2.out.trans g2)
  clear g2 C2
  go_wp2_with fail
  refine (tops_nil _).mono ?_
  rintro e w3 ⟨rfl, g3⟩
  have C4 := hide (C3.out.trans g3)
  clear g3 C3
  go_wp2_with fail
  refine (under_nil _ _).mono ?_
  rintro e w4 ⟨rfl, rfl⟩
  go_wp2_with fail
  go_ret
  exact ⟨rfl, C4.out.below (Nat.le_refl _) (fun _ h => h.elim)⟩

end Go.Proofs.Ytdcpcemihpkkaaa
