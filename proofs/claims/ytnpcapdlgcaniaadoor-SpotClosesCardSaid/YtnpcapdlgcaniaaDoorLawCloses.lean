/- SpotCloses' walk, as the law wants it. -/
import Derived.Test.YtnpcapdlgcaniaaDoorWalkCloses
import Derived.Test.YtnpcapdlgcaniaaDoorLaid
namespace Go.Proofs.YtnpcapdlgcaniaaDoor
open Go.RowKit
set_option linter.unusedVariables false

theorem closes_law (W : World) (hT : Tabs W) (wl : Int × Fs × Fs) {v : Value} (hw : WldIs W v wl) (cx : Fs) {vx : Value} (hx : FsIs W vx cx) (t : Tm) {u : Value} (ht : TmC W u t) (q : Int) (hq : (Lit.int .i64 q).wf = true) :
    Calls Tryd.prog 7 #[v, vx, u, .int .i64 q] W fun e W' => e = .returned (.bool true) ∧ Below W.heap.size W W' :=
  (closes_walk wl cx t q v vx u W hw hx ht).mono fun e W' ⟨h, g⟩ => ⟨h, g.below (Nat.le_refl _) (fun _ h => h.elim)⟩
end Go.Proofs.YtnpcapdlgcaniaaDoor
