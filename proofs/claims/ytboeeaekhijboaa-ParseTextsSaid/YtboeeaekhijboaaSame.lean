/- The law's own helpers: of, Fault, same, known. -/
import Derived.Test.YtboeeaekhijboaaSplit
import Derived.Deep.RegionHeld3
namespace Go.Proofs.Ytboeeaekhijboaa
open Go.RowKit
set_option linter.unusedVariables false

theorem fault_any (c l m : Int) (t : ByteArray) (w : World) :
    Calls Try.prog 11 #[.agg #[.int .i64 c, .int .i64 l, .int .i64 m, .string t]] w fun e w' => e = .returned (.agg #[.int .i64 c, .int .i64 l, .int .i64 m, .string t]) ∧ Below w.heap.size w w' := by
  go_enter Try.func11, Try.ntmps11
  go_wp2_with fail
  refine bodyPost_ret (v := .agg #[.int .i64 c, .int .i64 l, .int .i64 m, .string t]) (by simp [results, Try.results11, go_sem]) rfl ⟨rfl, ?_⟩
  go_grown

def kA : ByteArray := ⟨#[102, 32, 120, 32, 45, 62, 32, 49, 50, 32, 35, 32, 121]⟩
theorem kA_eq : lexG kA (kA.size + 1) 0 false = ([(1, ⟨#[102]⟩, 0), (1, ⟨#[120]⟩, 2), (3, ⟨#[45, 62]⟩, 4), (2, ⟨#[49, 50]⟩, 7)], none) := by kernel_rfl
def kB : ByteArray := ⟨#[97, 45, 98]⟩
theorem kB_eq : lexG kB (kB.size + 1) 0 false = ([(1, ⟨#[97]⟩, 0)], some (3, 1, ⟨#[45]⟩)) := by kernel_rfl
theorem kB_mark : markOf (kB.data.toList.take 1) = (1, 2) := by kernel_rfl

theorem cellsOf_get (ts : List Tok) (i : Nat) (h : i < ts.length) : (cellsOf ts)[i * 3]? = some (.int .i64 ts[i].1) ∧ (cellsOf ts)[i * 3 + 1]? = some (.string ts[i].2.1) ∧ (cellsOf ts)[i * 3 + 2]? = some (.int .i64 (ts[i].2.2 : Int)) := by
  induction ts generalizing i with
  | nil => simp at h
  | cons t r ih =>
    have e : cellsOf (t :: r) = [.int .i64 t.1, .string t.2.1, .int .i64 (t.2.2 : Int)] ++ cellsOf r := rfl
    cases i with
    | zero => rw [e]; simp
    | succ i =>
      have h' : i < r.length := by simpa using h
      obtain ⟨a, b, c⟩ := ih i h'
      have l3 : ([.int .i64 t.1, .string t.2.1, .int .i64 (t.2.2 : Int)] : List Value).length = 3 := rfl
      rw [e, List.getElem?_append_right (by rw [l3]; omega), List.getElem?_append_right (by rw [l3]; omega), List.getElem?_append_right (by rw [l3]; omega)]
      rw [l3, show (i + 1) * 3 - 3 = i * 3 by omega, show (i + 1) * 3 + 1 - 3 = i * 3 + 1 by omega, show (i + 1) * 3 + 2 - 3 = i * 3 + 2 by omega]
      simpa using ⟨a, b, c⟩

/-- a row of tokens as a caller reads it -/
def TokRow (w : World) (g : Nat) (ts : List Tok) : Prop :=
  ∀ i (h : i < ts.length), w.cell? ⟨g, i * 3, none⟩ = some (.int .i64 ts[i].1) ∧ w.cell? ⟨g, i * 3 + 1, none⟩ = some (.string ts[i].2.1) ∧ w.cell? ⟨g, i * 3 + 2, none⟩ = some (.int .i64 (ts[i].2.2 : Int))

theorem tokRow_of (w : World) (base : Nat) (e : TypeId) (g : Nat) (cap : Nat) (ts : List Tok) (h : w.ownsRow base e 3 (.slice (some ⟨g, 0, none⟩) ts.length cap) ts.length (cellsOf ts)) : TokRow w g ts := by
  intro i hi
  obtain ⟨a, b, c⟩ := cellsOf_get ts i hi
  have hc := h.cells (g := g) rfl
  have ha := hc _ _ a
  have hb := hc _ _ b
  have hcc := hc _ _ c
  have hadd : ∀ j, (⟨g, 0, none⟩ : Addr).add j = ⟨g, j, none⟩ := by
    intro j; unfold Addr.add; split <;> simp_all
  rw [hadd] at ha hb hcc
  exact ⟨ha, hb, hcc⟩

end Go.Proofs.Ytboeeaekhijboaa
