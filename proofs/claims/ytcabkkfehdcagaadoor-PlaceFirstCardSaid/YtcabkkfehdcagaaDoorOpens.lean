/- What a mark and a fault that come in are. -/
import Derived.Test.YtcabkkfehdcagaaDoorProg
import Derived.WideShapes
import Derived.ChangeArms
import Derived.ChangeSame
import Derived.Deep.Strs
import Derived.ProofKit
import Derived.SizedLaws
import Derived.OpenShut
namespace Go.Proofs.YtcabkkfehdcagaaDoor
open Go.ChangeShapes Go.WideShapes Go.ChangeAt Go.RowKit

theorem cells3 : Tryd.prog.cellsOf 3 = 1 := by kernel_rfl
theorem cells9 : Tryd.prog.cellsOf 9 = 1 := by kernel_rfl
theorem cells23 : Tryd.prog.cellsOf 23 = 2 := by kernel_rfl
theorem cells25 : Tryd.prog.cellsOf 25 = 4 := by kernel_rfl

/-- in Go's ints' bounds -/
def In64 (n : Int) : Prop := -9223372036854775808 ≤ n ∧ n ≤ 9223372036854775807
theorem in64_of {n : Int} (h : (Lit.int .i64 n).wf = true) : In64 n := by
  exact bounds_i64 h

section
variable {H : Type} {enc : TypeId × Value → H} {W : World} {base : Nat} {sp : Nat → Bool} {hd : Bool}
set_option maxRecDepth 100000 in
theorem trod_mark {fuel : Nat} {cs : List Value} {x : DataW H × List MemPlace} (h : DataW.trod enc Tryd.prog W base sp hd fuel 23 cs = some x) :
    ∃ a b : Int, cs = [.int .i64 a, .int .i64 b] ∧ x = (.agg [.lit (.int .i64 a), .lit (.int .i64 b)], []) ∧ In64 a ∧ In64 b := by
  obtain ⟨y0, y1, n, hx, hl, h0, h1⟩ := trod_struct2 Tryd.underlying23 h
  rw [cells23] at hl
  match cs, hl with
  | [c0, c1], _ =>
    simp only [cells3] at h0 h1
    obtain ⟨a, e0, rfl, w0⟩ := DataW.trod_int Tryd.underlying3 h0
    obtain ⟨b, e1, rfl, w1⟩ := DataW.trod_int Tryd.underlying3 h1
    simp at e0 e1
    exact ⟨a, b, by rw [e0, e1], hx, in64_of w0, in64_of w1⟩

set_option maxRecDepth 100000 in
theorem trod_fault {fuel : Nat} {cs : List Value} {x : DataW H × List MemPlace} (h : DataW.trod enc Tryd.prog W base sp hd fuel 25 cs = some x) :
    ∃ (c a b : Int) (s : ByteArray), cs = [.int .i64 c, .int .i64 a, .int .i64 b, .string s] ∧ x = (.agg [.lit (.int .i64 c), .agg [.lit (.int .i64 a), .lit (.int .i64 b)], .lit (.string s.data.toList)], []) ∧ In64 c ∧ In64 a ∧ In64 b := by
  obtain ⟨y0, y1, y2, n, hx, hl, h0, h1, h2⟩ := Go.Deep.trod_struct3 Tryd.underlying25 h
  rw [cells25] at hl
  match cs, hl with
  | [c0, c1, c2, c3], _ =>
    simp only [cells3, cells9, cells23] at h0 h1 h2
    obtain ⟨c, e0, rfl, w0⟩ := DataW.trod_int Tryd.underlying3 h0
    obtain ⟨a, b, e1, rfl, w1, w2⟩ := trod_mark h1
    obtain ⟨s, e2, rfl, w3⟩ := DataW.trod_string Tryd.underlying9 h2
    simp at e0 e1 e2
    exact ⟨c, a, b, s, by rw [e0, e1.1, e1.2, e2], hx, in64_of w0, w1, w2⟩

def MarkIs (v : Value) (x : Int × Int) : Prop := v = .agg #[.int .i64 x.1, .int .i64 x.2] ∧ In64 x.1 ∧ In64 x.2
set_option maxRecDepth 100000 in
theorem open_mark {r : Reach} {v : Value} {d : DataW H} {p : List MemPlace} (ho : Value.okWide Tryd.prog W r base 23 v) (h : DataW.Trod enc Tryd.prog W 0 sp hd 23 v d p) : ∃ x, MarkIs v x := by
  obtain ⟨cs, rfl, hsz⟩ := okWide_struct Tryd.underlying23 ho
  obtain ⟨fuel, hf⟩ := h
  obtain ⟨a, b, e, -, w0, w1⟩ := trod_mark hf
  exact ⟨(a, b), by
    have : cs = #[.int .i64 a, .int .i64 b] := Array.ext' (by simpa [Value.cells] using e)
    rw [this], w0, w1⟩

def FaultIs (v : Value) (d : DataW H) (x : Int × Int × Int × ByteArray) : Prop := v = .agg #[.int .i64 x.1, .int .i64 x.2.1, .int .i64 x.2.2.1, .string x.2.2.2] ∧
  d = .agg [.lit (.int .i64 x.1), .agg [.lit (.int .i64 x.2.1), .lit (.int .i64 x.2.2.1)], .lit (.string x.2.2.2.data.toList)] ∧ In64 x.1 ∧ In64 x.2.1 ∧ In64 x.2.2.1
set_option maxRecDepth 100000 in
theorem open_fault {r : Reach} {v : Value} {d : DataW H} {p : List MemPlace} (ho : Value.okWide Tryd.prog W r base 25 v) (h : DataW.Trod enc Tryd.prog W 0 sp hd 25 v d p) : ∃ x, FaultIs v d x := by
  obtain ⟨cs, rfl, hsz⟩ := okWide_struct Tryd.underlying25 ho
  obtain ⟨fuel, hf⟩ := h
  obtain ⟨c, a, b, s, e, hx, w⟩ := trod_fault hf
  exact ⟨(c, a, b, s), by
    have : cs = #[.int .i64 c, .int .i64 a, .int .i64 b, .string s] := Array.ext' (by simpa [Value.cells] using e)
    rw [this], (Prod.mk.inj hx).1, w⟩

set_option maxRecDepth 100000 in
theorem fault_size {ts : List TypeId} {ds : List (DataW H)} (h : (DataW.weightsEach Tryd.prog ts ds).all (· ≤ reachBytes) = true) {j : Nat} {v : Value} {d : DataW H} {x : Int × Int × Int × ByteArray} (ht : ts[j]? = some 25) (hd : ds[j]? = some d) (w : FaultIs v d x) :
    x.2.2.2.size ≤ 140737488355328 := by
  have := List.all_eq_true.1 h _ (DataW.weights_mem_each ht hd x.2.2.2.data.toList.length (by
    rw [w.2.1]
    simp [DataW.weights, DataW.weightsEach, Tryd.underlying25, Tryd.underlying23]))
  have h2 : x.2.2.2.data.toList.length ≤ reachBytes := by simpa using this
  have h3 : x.2.2.2.data.toList.length = x.2.2.2.size := by simp
  have h4 : reachBytes < 140737488355328 := by decide
  omega
end
end Go.Proofs.YtcabkkfehdcagaaDoor
