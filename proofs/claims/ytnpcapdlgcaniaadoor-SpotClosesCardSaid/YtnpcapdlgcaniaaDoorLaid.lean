/- What the listed variables hold when a call begins (the walks read none of them). -/
import Derived.Test.YtnpcapdlgcaniaaDoorRows
import Derived.ProofKit
import Derived.LaidMore
import Derived.LaidHandle
import Derived.Stop.LaidErr
import Derived.MakeChecks
import Derived.OpenShut
import Derived.Stop.Joined
namespace Go.Proofs.YtnpcapdlgcaniaaDoor
open Go.ChangeShapes Go.WideShapes Go.ChangeAt Go.RowKit
set_option linter.unusedVariables false

abbrev laid5 : List (String × DataW Unit) := Rows.spotOrdersRow.laid
theorem own : ownKnob Tryd.prog.godebug = none := by kernel_rfl
theorem laidOut : laidOutB Tryd.prog = true := by kernel_rfl
theorem door_met (os : Os) (args : Array Value) : laidMetH Tryd.prog laid5 ((World.doorLaid Tryd.prog 4000 os).forCall (fun _ _ => 0) ⟨#[], args, []⟩).memory :=
  laidMetH_of_parts3 (fuel := 8) (laidMet_of_run' 8 (by kernel_rfl) (by kernel_rfl)) (by kernel_rfl) (by kernel_rfl)
/-- Nothing of the listed variables is needed. -/
def Tabs (_ : World) : Prop := True
theorem of_laid {W : World} (_ : laidMetH Tryd.prog laid5 W) : Tabs W := trivial
end Go.Proofs.YtnpcapdlgcaniaaDoor
