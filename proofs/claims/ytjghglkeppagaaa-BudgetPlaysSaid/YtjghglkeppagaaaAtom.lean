/- Contracts of the atomic methods and of budget's readers and take. -/
import Derived.Test.YtjghglkeppagaaaBase
namespace Go.Proofs.Ytjghglkeppagaaa
open Go.RowKit

theorem int64Load (a : Addr) (n : Int) (w : World) (h : w.cell? a = some (.int .i64 n)) :
    Calls Try.prog 23 #[.pointer (some a)] w fun e w' => e = .returned (.int .i64 n) ∧ w = w' := by
  have hl := run_call_load (P := Try.prog) Try.func28 (by kernel_rfl) (by kernel_rfl) (by kernel_rfl) .i64 (by kernel_rfl) h
  go_enter Try.func23, Try.ntmps23
  go_wp2
  go_ret
  exact ⟨rfl, rfl⟩

theorem boolLoad (a : Addr) (n : Int) (w : World) (h : w.cell? a = some (.int .u32 n)) :
    Calls Try.prog 24 #[.pointer (some a)] w fun e w' => e = .returned (.bool (n != 0)) ∧ w = w' := by
  have hl := run_call_load (P := Try.prog) Try.func29 (by kernel_rfl) (by kernel_rfl) (by kernel_rfl) .u32 (by kernel_rfl) h
  go_enter Try.func24, Try.ntmps24
  go_wp2
  go_ret
  exact ⟨rfl, rfl⟩

theorem int64Store (a : Addr) (v : Value) (n : Int) (w : World) (h : w.cell? a = some v) (hz : w.frozen? a = false) :
    Calls Try.prog 22 #[.pointer (some a), .int .i64 n] w fun e w' => e = .returned (.tuple #[]) ∧ w' = w.setCell a (.int .i64 n) := by
  have hl := run_call_store (P := Try.prog) Try.func27 (by kernel_rfl) (by kernel_rfl) (by kernel_rfl) (by kernel_rfl) (k := .i64) (y := n) h hz
  go_enter Try.func22, Try.ntmps22
  go_wp2
  go_end0
  exact ⟨rfl, rfl⟩

theorem int64Add (a : Addr) (n m : Int) (w : World) (h : w.cell? a = some (.int .i64 n)) (hz : w.frozen? a = false) :
    Calls Try.prog 30 #[.pointer (some a), .int .i64 m] w fun e w' => e = .returned (.int .i64 (wrap64 (n + m))) ∧ w' = w.setCell a (.int .i64 (wrap64 (n + m))) := by
  have hl := run_call_add (P := Try.prog) Try.func34 (by kernel_rfl) (by kernel_rfl) (by kernel_rfl) .i64 (by kernel_rfl) (y := m) (s := wrap64 (n + m)) h hz (by simp [go_sem, wrap64, IntKind.wrap_i64])
  go_enter Try.func30, Try.ntmps30
  go_wp2
  go_ret
  exact ⟨rfl, rfl⟩

end Go.Proofs.Ytjghglkeppagaaa
