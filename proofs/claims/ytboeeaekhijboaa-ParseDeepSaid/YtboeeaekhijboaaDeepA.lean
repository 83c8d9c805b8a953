/- Types, terms and parentheses in one another, in plain words: parentheses, arrows. -/
import Derived.Test.YtboeeaekhijboaaPterm14
namespace Go.Proofs.Ytboeeaekhijboaa
open Go.RowKit
set_option linter.unusedVariables false
set_option linter.unusedSimpArgs false

/-- a text, so many times -/
def rep (x : ByteArray) : Nat → ByteArray
  | 0 => ⟨#[]⟩
  | n + 1 => rep x n ++ x
theorem rep_size (x : ByteArray) (n : Nat) : (rep x n).size = n * x.size := by
  induction n with
  | zero => simp only [rep, Nat.zero_mul]; rfl
  | succ n ih => simp only [rep, ByteArray.size_append, ih]; rw [Nat.succ_mul]
def repL (x : List UInt8) : Nat → List UInt8
  | 0 => []
  | n + 1 => x ++ repL x n
theorem repL_end (x : List UInt8) (n : Nat) : x ++ repL x n = repL x n ++ x := by
  induction n with
  | zero => simp [repL]
  | succ n ih => simp only [repL]; rw [List.append_assoc, ih]
theorem app_list (a b : List UInt8) : (⟨a.toArray⟩ : ByteArray) ++ ⟨b.toArray⟩ = ⟨(a ++ b).toArray⟩ := by
  apply ByteArray.ext; simp
theorem rep_list (x : List UInt8) (n : Nat) : rep ⟨x.toArray⟩ n = ⟨(repL x n).toArray⟩ := by
  induction n with
  | zero => rfl
  | succ n ih => simp only [rep, repL, ih]; rw [app_list, repL_end]
def deepLA (kd : Nat) : List UInt8 := if kd = 0 then [40] else if kd = 1 then [92, 120, 58, 97, 46, 32] else [97, 32, 45, 62, 32]
def deepLB (kd : Nat) : List UInt8 := if kd = 0 then [41] else []
def deepL (kd n : Nat) : List UInt8 := repL (deepLA kd) n ++ 97 :: repL (deepLB kd) n
/-- the text: so many openings, a name, as many ends -/
def deepT (kd n : Nat) : ByteArray := (rep ⟨(deepLA kd).toArray⟩ n ++ ⟨#[97]⟩) ++ rep ⟨(deepLB kd).toArray⟩ n
theorem deepT_list (kd n : Nat) : deepT kd n = ⟨(deepL kd n).toArray⟩ := by
  unfold deepT deepL
  have h : (⟨#[97]⟩ : ByteArray) = ⟨[97].toArray⟩ := rfl
  rw [rep_list, rep_list, h, app_list, app_list, List.append_assoc]
  rfl
/-- the number of its fault -/
def deepF (term : Bool) (s : ByteArray) : Int := if term = true then (resS zN s (termS (lexT s) s 60 0)).1.1 else (resS zN s (typS (lexT s) s 60 0)).1.1

set_option maxRecDepth 1000000 in
theorem deep_0_55 : deepF true ⟨(deepL 0 55).toArray⟩ = 0 := by kernel_rfl
set_option maxRecDepth 1000000 in
theorem deep_0_56 : deepF true ⟨(deepL 0 56).toArray⟩ = 0 := by kernel_rfl
set_option maxRecDepth 1000000 in
theorem deep_0_57 : deepF true ⟨(deepL 0 57).toArray⟩ = 0 := by kernel_rfl
set_option maxRecDepth 1000000 in
theorem deep_0_58 : deepF true ⟨(deepL 0 58).toArray⟩ = 0 := by kernel_rfl
set_option maxRecDepth 1000000 in
theorem deep_0_59 : deepF true ⟨(deepL 0 59).toArray⟩ = 0 := by kernel_rfl
set_option maxRecDepth 1000000 in
theorem deep_0_60 : deepF true ⟨(deepL 0 60).toArray⟩ = 2 := by kernel_rfl
set_option maxRecDepth 1000000 in
theorem deep_0_61 : deepF true ⟨(deepL 0 61).toArray⟩ = 2 := by kernel_rfl
set_option maxRecDepth 1000000 in
theorem deep_0_62 : deepF true ⟨(deepL 0 62).toArray⟩ = 2 := by kernel_rfl
set_option maxRecDepth 1000000 in
theorem deep_0_63 : deepF true ⟨(deepL 0 63).toArray⟩ = 2 := by kernel_rfl
set_option maxRecDepth 1000000 in
theorem deep_0_64 : deepF true ⟨(deepL 0 64).toArray⟩ = 2 := by kernel_rfl
set_option maxRecDepth 1000000 in
theorem deep_0_65 : deepF true ⟨(deepL 0 65).toArray⟩ = 2 := by kernel_rfl
set_option maxRecDepth 1000000 in
theorem deep_0_66 : deepF true ⟨(deepL 0 66).toArray⟩ = 2 := by kernel_rfl
set_option maxRecDepth 1000000 in
theorem deep_2_55 : deepF false ⟨(deepL 2 55).toArray⟩ = 0 := by kernel_rfl
set_option maxRecDepth 1000000 in
theorem deep_2_56 : deepF false ⟨(deepL 2 56).toArray⟩ = 0 := by kernel_rfl
set_option maxRecDepth 1000000 in
theorem deep_2_57 : deepF false ⟨(deepL 2 57).toArray⟩ = 0 := by kernel_rfl
set_option maxRecDepth 1000000 in
theorem deep_2_58 : deepF false ⟨(deepL 2 58).toArray⟩ = 0 := by kernel_rfl
set_option maxRecDepth 1000000 in
theorem deep_2_59 : deepF false ⟨(deepL 2 59).toArray⟩ = 0 := by kernel_rfl
set_option maxRecDepth 1000000 in
theorem deep_2_60 : deepF false ⟨(deepL 2 60).toArray⟩ = 2 := by kernel_rfl
set_option maxRecDepth 1000000 in
theorem deep_2_61 : deepF false ⟨(deepL 2 61).toArray⟩ = 2 := by kernel_rfl
set_option maxRecDepth 1000000 in
theorem deep_2_62 : deepF false ⟨(deepL 2 62).toArray⟩ = 2 := by kernel_rfl
set_option maxRecDepth 1000000 in
theorem deep_2_63 : deepF false ⟨(deepL 2 63).toArray⟩ = 2 := by kernel_rfl
set_option maxRecDepth 1000000 in
theorem deep_2_64 : deepF false ⟨(deepL 2 64).toArray⟩ = 2 := by kernel_rfl
set_option maxRecDepth 1000000 in
theorem deep_2_65 : deepF false ⟨(deepL 2 65).toArray⟩ = 2 := by kernel_rfl
set_option maxRecDepth 1000000 in
theorem deep_2_66 : deepF false ⟨(deepL 2 66).toArray⟩ = 2 := by kernel_rfl
end Go.Proofs.Ytboeeaekhijboaa
