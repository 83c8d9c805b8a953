/- What a world of the document's that comes in is. -/
import Derived.Test.YtnpcapdlgcaniaaDoorOpensT
import Derived.Test.YtnpcapdlgcaniaaDoorCapT
namespace Go.Proofs.YtnpcapdlgcaniaaDoor
open Go.ChangeShapes Go.WideShapes Go.ChangeAt Go.RowKit
set_option linter.unusedVariables false

theorem cells63 : Tryd.prog.cellsOf 63 = 3 := by kernel_rfl
/-- a world that comes in: its bases, constants, metavariables -/
def WldIs (W : World) (v : Value) (x : Int × Fs × Fs) : Prop := ∃ ca cc ma mc, v = .agg #[.int .i64 x.1, .slice ca x.2.1.len cc, .slice ma x.2.2.len mc] ∧ Ts W (fun x => x < W.heap.size) (.slice ca x.2.1.len cc) x.2.1 ∧ Ts W (fun x => x < W.heap.size) (.slice ma x.2.2.len mc) x.2.2

section
variable {H : Type} {enc : TypeId × Value → H} {W : World} {hd : Bool}

set_option maxRecDepth 100000 in
theorem trod_wld {fuel : Nat} {cs : List Value} {x : DataW H × List MemPlace} (h : DataW.trod enc Tryd.prog W 0 (fun _ => true) hd fuel 63 cs = some x) :
    ∃ k c1 c2 y z n, cs = [.int .i64 k, c1, c2] ∧ DataW.trod enc Tryd.prog W 0 (fun _ => true) hd n 22 [c1] = some y ∧ DataW.trod enc Tryd.prog W 0 (fun _ => true) hd n 22 [c2] = some z := by
  obtain ⟨xs, m, hm, _, hl, hxl, hf⟩ := DataW.trod_struct Tryd.underlying63 h
  rw [cells63] at hl
  match cs, hl with
  | [c0, c1, c2], _ =>
    have h0 : DataW.trod enc Tryd.prog W 0 (fun _ => true) hd m 3 (([c0, c1, c2].drop 0).take (Tryd.prog.cellsOf 3)) = xs[0]? := hf 0 _ rfl
    have h1 : DataW.trod enc Tryd.prog W 0 (fun _ => true) hd m 22 (([c0, c1, c2].drop 1).take (Tryd.prog.cellsOf 22)) = xs[1]? := hf 1 _ rfl
    have h2 : DataW.trod enc Tryd.prog W 0 (fun _ => true) hd m 22 (([c0, c1, c2].drop 2).take (Tryd.prog.cellsOf 22)) = xs[2]? := hf 2 _ rfl
    simp only [cells22, cells3] at h0 h1 h2
    have hl2 : xs.length = 3 := hxl
    obtain ⟨y0, e0⟩ : ∃ y, xs[0]? = some y := ⟨xs[0], by simp⟩
    obtain ⟨y1, e1⟩ : ∃ y, xs[1]? = some y := ⟨xs[1], by simp⟩
    obtain ⟨y2, e2⟩ : ∃ y, xs[2]? = some y := ⟨xs[2], by simp⟩
    rw [e0] at h0
    rw [e1] at h1
    rw [e2] at h2
    obtain ⟨k, k1, _, kw⟩ := DataW.trod_int Tryd.underlying3 h0
    simp at k1
    exact ⟨k, c1, c2, y1, y2, m, by rw [k1], h1, h2⟩

set_option maxRecDepth 100000 in
theorem open_wld {base : Nat} {r : Go.Reach} {v : Value} {d : DataW H} {p : List MemPlace} (ho : Value.okWide Tryd.prog W r base 63 v) (h : DataW.Trod enc Tryd.prog W 0 (fun _ => true) hd 63 v d p) : ∃ x : Int × Fs × Fs, WldIs W v x := by
  obtain ⟨cs, rfl, hcs⟩ := okWide_struct Tryd.underlying63 ho
  obtain ⟨fuel, hf⟩ := h
  obtain ⟨l⟩ := cs
  have hf' : DataW.trod enc Tryd.prog W 0 (fun _ => true) hd fuel 63 l = some (d, p) := by simpa [Value.cells] using hf
  obtain ⟨k, c1, c2, y, z, n, rfl, h1, h2⟩ := trod_wld hf'
  obtain ⟨f, hb⟩ := open_fs n c1 y h1
  obtain ⟨g, hg⟩ := open_fs n c2 z h2
  obtain ⟨ba, bc, rfl, _⟩ := id hb
  obtain ⟨a, cap, rfl, _⟩ := id hg
  exact ⟨(k, f, g), _, _, _, _, rfl, hb, hg⟩
/-- a term that comes in, with its binders' capacity -/
def TmC (W : World) (v : Value) (x : Tm) : Prop := TmIs W v x ∧ CapTm v
set_option maxRecDepth 100000 in
theorem open_tmc {base : Nat} {r : Go.Reach} {v : Value} {d : DataW H} {p : List MemPlace} (ho : Value.okWide Tryd.prog W r base 27 v) (h : DataW.Trod enc Tryd.prog W 0 (fun _ => true) hd 27 v d p) : ∃ x : Tm, TmC W v x := by
  obtain ⟨x, hx⟩ := open_tm ho h
  refine ⟨x, hx, ?_⟩
  obtain ⟨cs, rfl, hcs⟩ := okWide_struct Tryd.underlying27 ho
  obtain ⟨fuel, hf⟩ := h
  obtain ⟨l⟩ := cs
  have hf' : DataW.trod enc Tryd.prog W 0 (fun _ => true) hd fuel 27 l = some (d, p) := by simpa [Value.cells] using hf
  obtain ⟨c0, k, i, c3, y, z, n, rfl, hk, hi, hn, h0, h3⟩ := trod_term hf'
  refine ⟨c0, .int .i64 k, .int .i64 i, c3, rfl, ?_⟩
  rcases slice_elems 2 (by decide) Tryd.underlying22 cells92 h0 with rfl | ⟨a, len, cap, n, hn, rfl, hl, hm, _⟩
  · exact ⟨none, 0, 0, rfl, Nat.le_refl _, Nat.zero_le _⟩
  · exact ⟨a, len, cap, rfl, hl, hm⟩
end
end Go.Proofs.YtnpcapdlgcaniaaDoor
