/- A nil rank. -/
import Derived.Test.YtdcpcemihpkkaaaKnown
namespace Go.Proofs.Ytdcpcemihpkkaaa
open Go.RowKit Go.Maps
set_option linter.unusedVariables false
set_option linter.unusedSimpArgs false

set_option maxRecDepth 100000 in
set_option maxHeartbeats 4000000 in
theorem under_nil (a : Int) (w : World) : Calls Try.prog 18 #[.pointer none, .int .i64 a] w fun e w' => e = .returned (.slice none 0 0) ∧ w = w' := by
  have ln := hide (len_nil w)
  go_enter Try.func18, Try.ntmps18
  go_wp2_with fail
  refine ln.out.mono ?_
  rintro e w1 ⟨rfl, rfl⟩
  go_wp2_with fail
  go_loopw [9, 5] (fun iv ov wr => iv = .int .i64 0 ∧ ov = .slice none 0 0 ∧ wr = w) (fun _ _ _ => 0)
  case atStart => exact ⟨rfl, rfl, rfl⟩
  case round =>
    obtain ⟨rfl, rfl, rfl⟩ := hrel
    go_wp2_with fail
    go_ret
    exact ⟨rfl, rfl⟩

set_option maxRecDepth 100000 in
set_option maxHeartbeats 4000000 in
theorem pairs_nil (w : World) : Calls Try.prog 20 #[.pointer none] w fun e w' => e = .returned (.slice none 0 0) ∧ w = w' := by
  have ln := hide (len_nil w)
  go_enter Try.func20, Try.ntmps20
  go_wp2_with fail
  refine ln.out.mono ?_
  rintro e w1 ⟨rfl, rfl⟩
  go_wp2_with fail
  go_loopw [9, 3] (fun iv ov wr => iv = .int .i64 0 ∧ ov = .slice none 0 0 ∧ wr = w) (fun _ _ _ => 0)
  case atStart => exact ⟨rfl, rfl, rfl⟩
  case round =>
    obtain ⟨rfl, rfl, rfl⟩ := hrel
    go_wp2_with fail
    go_ret
    exact ⟨rfl, rfl⟩

set_option maxRecDepth 100000 in
set_option maxHeartbeats 4000000 in
theorem over_nil (w : World) : Calls Try.prog 28 #[.pointer none] w fun e w' => (∃ a c, e = .returned (.slice a 0 c)) ∧ Chg (fun _ => False) w w' := by
  have hmk : ∀ W : World, (Instr.makeSlice 36 (.int .i64 0) (.int .i64 0)).run Try.prog W = .ok (.slice (some ⟨W.heap.size, 0, none⟩) 0 0) (W.alloc (.cells (madeCells #[.int .i64 0] 0) 3)) := fun W => run_make_row' (P := Try.prog) 36 3 (.int .i64 0) 8 (by kernel_rfl) (by kernel_rfl) rfl .i64 .i64 0 (by omega) (by omega) W
  have ln := hide (len_nil w)
  have pn := hide (pairs_nil)
  have C1 := hide (al w (.cells (madeCells #[.int .i64 0] 0) 3))
  go_enter Try.func28, Try.ntmps28
  go_wp2_with fail
  refine ln.out.mono ?_
  rintro e w1 ⟨rfl, rfl⟩
  go_wp2_with fail
  refine (pn.out _).mono ?_
  rintro e w2 ⟨rfl, rfl⟩
  go_wp2_with fail
  go_loopw [12] (fun iv wr => iv = .int .i64 0 ∧ Hid (Chg (fun _ => False) w wr)) (fun _ _ => 0)
  case atStart => exact ⟨rfl, C1⟩
  case round =>
    obtain ⟨rfl, hC⟩ := hrel
    go_wp2_with fail
    go_ret
    exact ⟨⟨_, _, rfl⟩, hC.out⟩

set_option maxRecDepth 100000 in
set_option maxHeartbeats 4000000 in
theorem tops_nil (w : World) : Calls Try.prog 22 #[.pointer none] w fun e w' => e = .returned (.slice none 0 0) ∧ Chg (fun _ => False) w w' := by
  have ov := hide (over_nil w)
  go_enter Try.func22, Try.ntmps22
  go_wp2_with fail
  refine ov.out.mono ?_
  rintro e w1 ⟨⟨a, c, rfl⟩, hC⟩
  have C1 := hide hC
  clear hC
  go_wp2_with fail
  go_loopw [9, 3] (fun iv ov wr => iv = .int .i64 0 ∧ ov = .slice none 0 0 ∧ Hid (Chg (fun _ => False) w wr)) (fun _ _ _ => 0)
  case atStart => exact ⟨rfl, rfl, C1⟩
  case round =>
    obtain ⟨rfl, rfl, hC⟩ := hrel
    go_wp2_with fail
    go_ret
    exact ⟨rfl, hC.out⟩

set_option maxRecDepth 100000 in
set_option maxHeartbeats 4000000 in
theorem line_nil (w : World) : Calls Try.prog 19 #[.pointer none] w fun e w' => e = .returned (.slice none 0 0) ∧ Chg (fun _ => False) w w' := by
  have ov := hide (over_nil w)
  go_enter Try.func19, Try.ntmps19
  go_wp2_with fail
  refine ov.out.mono ?_
  rintro e w1 ⟨⟨a, c, rfl⟩, hC⟩
  have C1 := hide hC
  clear hC
  go_wp2_with fail
  go_loopw [12, 3] (fun iv ov wr => iv = .int .i64 0 ∧ ov = .slice none 0 0 ∧ Hid (Chg (fun _ => False) w wr)) (fun _ _ _ => 0)
  case atStart => exact ⟨rfl, rfl, C1⟩
  case round =>
    obtain ⟨rfl, rfl, hC⟩ := hrel
    go_wp2_with fail
    go_ret
    exact ⟨rfl, hC.out⟩

set_option maxRecDepth 100000 in
set_option maxHeartbeats 4000000 in
theorem with_nil (v : Value) (w : World) : Calls Try.prog 23 #[.pointer none, v] w fun e w' => e = .returned (.tuple #[.pointer none, .int .i64 13]) ∧ w = w' := by
  go_enter Try.func23, Try.ntmps23
  go_wp2_with fail
  go_ret2
  exact ⟨rfl, rfl⟩

end Go.Proofs.Ytdcpcemihpkkaaa
