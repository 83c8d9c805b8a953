/- Types, terms and parentheses in one another, in plain words: functions. -/
import Derived.Test.YtboeeaekhijboaaDeepA
namespace Go.Proofs.Ytboeeaekhijboaa
open Go.RowKit
set_option linter.unusedVariables false
set_option linter.unusedSimpArgs false

set_option maxRecDepth 1000000 in
theorem deep_1_55 : deepF true ⟨(deepL 1 55).toArray⟩ = 0 := by kernel_rfl
set_option maxRecDepth 1000000 in
theorem deep_1_56 : deepF true ⟨(deepL 1 56).toArray⟩ = 0 := by kernel_rfl
set_option maxRecDepth 1000000 in
theorem deep_1_57 : deepF true ⟨(deepL 1 57).toArray⟩ = 0 := by kernel_rfl
set_option maxRecDepth 1000000 in
theorem deep_1_58 : deepF true ⟨(deepL 1 58).toArray⟩ = 0 := by kernel_rfl
set_option maxRecDepth 1000000 in
theorem deep_1_59 : deepF true ⟨(deepL 1 59).toArray⟩ = 0 := by kernel_rfl
set_option maxRecDepth 1000000 in
theorem deep_1_60 : deepF true ⟨(deepL 1 60).toArray⟩ = 2 := by kernel_rfl
set_option maxRecDepth 1000000 in
theorem deep_1_61 : deepF true ⟨(deepL 1 61).toArray⟩ = 2 := by kernel_rfl
set_option maxRecDepth 1000000 in
theorem deep_1_62 : deepF true ⟨(deepL 1 62).toArray⟩ = 2 := by kernel_rfl
set_option maxRecDepth 1000000 in
theorem deep_1_63 : deepF true ⟨(deepL 1 63).toArray⟩ = 2 := by kernel_rfl
set_option maxRecDepth 1000000 in
theorem deep_1_64 : deepF true ⟨(deepL 1 64).toArray⟩ = 2 := by kernel_rfl
set_option maxRecDepth 1000000 in
theorem deep_1_65 : deepF true ⟨(deepL 1 65).toArray⟩ = 2 := by kernel_rfl
set_option maxRecDepth 1000000 in
theorem deep_1_66 : deepF true ⟨(deepL 1 66).toArray⟩ = 2 := by kernel_rfl

theorem deep_law (kd N : Nat) (hk : kd < 3) (hN : N < 12) : deepF (kd != 2) (deepT kd (55 + N)) = if 55 + N < 60 then 0 else 2 := by
  rw [deepT_list]
  match kd, hk, N, hN with
  | 0, _, 0, _ => exact deep_0_55
  | 0, _, 1, _ => exact deep_0_56
  | 0, _, 2, _ => exact deep_0_57
  | 0, _, 3, _ => exact deep_0_58
  | 0, _, 4, _ => exact deep_0_59
  | 0, _, 5, _ => exact deep_0_60
  | 0, _, 6, _ => exact deep_0_61
  | 0, _, 7, _ => exact deep_0_62
  | 0, _, 8, _ => exact deep_0_63
  | 0, _, 9, _ => exact deep_0_64
  | 0, _, 10, _ => exact deep_0_65
  | 0, _, 11, _ => exact deep_0_66
  | 1, _, 0, _ => exact deep_1_55
  | 1, _, 1, _ => exact deep_1_56
  | 1, _, 2, _ => exact deep_1_57
  | 1, _, 3, _ => exact deep_1_58
  | 1, _, 4, _ => exact deep_1_59
  | 1, _, 5, _ => exact deep_1_60
  | 1, _, 6, _ => exact deep_1_61
  | 1, _, 7, _ => exact deep_1_62
  | 1, _, 8, _ => exact deep_1_63
  | 1, _, 9, _ => exact deep_1_64
  | 1, _, 10, _ => exact deep_1_65
  | 1, _, 11, _ => exact deep_1_66
  | 2, _, 0, _ => exact deep_2_55
  | 2, _, 1, _ => exact deep_2_56
  | 2, _, 2, _ => exact deep_2_57
  | 2, _, 3, _ => exact deep_2_58
  | 2, _, 4, _ => exact deep_2_59
  | 2, _, 5, _ => exact deep_2_60
  | 2, _, 6, _ => exact deep_2_61
  | 2, _, 7, _ => exact deep_2_62
  | 2, _, 8, _ => exact deep_2_63
  | 2, _, 9, _ => exact deep_2_64
  | 2, _, 10, _ => exact deep_2_65
  | 2, _, 11, _ => exact deep_2_66
  | kd + 3, h, _, _ => omega
  | _, _, N + 12, h => omega
end Go.Proofs.Ytboeeaekhijboaa
