/- What the document's Split tells. -/
import Derived.Test.YtboeeaekhijboaaToks
import Derived.Test.YtboeeaekhijboaaRsplit
namespace Go.Proofs.Ytboeeaekhijboaa
open Go.RowKit
set_option linter.unusedVariables false

theorem refSplit_told (s : ByteArray) (hs : s.size ≤ 20000) (w : World) (F : Int × Int × Int × ByteArray) (hF : F = flt s (lexG s (s.size + 1) 0 false)) :
    Calls Try.prog 35 #[.string s] w fun e w' => (∃ v, e = .returned (.tuple #[v, .agg #[.int .i64 F.1, .int .i64 F.2.1, .int .i64 F.2.2.1, .string F.2.2.2]]) ∧ IsToks w' v (toksOf (lexG s (s.size + 1) 0 false))) ∧ Below w.heap.size w w' := by
  subst hF
  refine (refSplit_any s hs w).mono ?_
  rintro e w' ⟨⟨v, he, ho⟩, hB⟩
  refine ⟨?_, hB⟩
  unfold outR at he ho
  unfold flt toksOf
  cases hT : (lexG s (s.size + 1) 0 false).2 with
  | none => rw [hT] at he ho; exact ⟨v, he, isToks_of _ _ _ _ _ ho⟩
  | some x => rw [hT] at he; exact ⟨_, he, isToks_nil _⟩

end Go.Proofs.Ytboeeaekhijboaa
