/- What a term, a row of types, a world of the document's that comes in is. -/
import Derived.Test.YtnpcapdlgcaniaaDoorOpensI
namespace Go.Proofs.YtnpcapdlgcaniaaDoor
open Go.ChangeShapes Go.WideShapes Go.ChangeAt Go.RowKit
set_option linter.unusedVariables false

theorem cells92 : Tryd.prog.cellsOf 92 = 2 := by kernel_rfl
theorem cells22 : Tryd.prog.cellsOf 22 = 1 := by kernel_rfl
theorem cells25 : Tryd.prog.cellsOf 25 = 1 := by kernel_rfl
theorem cells27 : Tryd.prog.cellsOf 27 = 4 := by kernel_rfl
theorem cells24 : Tryd.prog.cellsOf 24 = 2 := by kernel_rfl
/-- all numbers of a row of terms are Go's -/
def TIn : Tms → Prop
  | .nil => True
  | .cons _ k i a r => In64' k ∧ In64' i ∧ TIn a ∧ TIn r
theorem tin_mk : ∀ {f : Tms}, (∀ i (h : i < f.toL.length), In64' (f.toL[i]).kd ∧ In64' (f.toL[i]).ix ∧ TIn (f.toL[i]).ag) → TIn f
  | .nil, _ => trivial
  | .cons b k j a r, h => by
    have h0 := h 0 (by simp [Tms.toL])
    simp only [Tms.toL, List.getElem_cons_zero] at h0
    exact ⟨h0.1, h0.2.1, h0.2.2, tin_mk (fun i hi => by
      have := h (i + 1) (by simpa [Tms.toL] using hi)
      simpa only [Tms.toL, List.getElem_cons_succ] using this)⟩
/-- a row of few terms may be gone through -/
theorem tok_of : ∀ {f : Tms}, TIn f → f.size ≤ 40000 → TOk f
  | .nil, _, _ => trivial
  | .cons b k j a r, h, hs => by
    simp only [Tms.size] at hs
    have := Tms.len_size a
    exact ⟨by omega, h.2.1, by omega, tok_of h.2.2.1 (by omega), tok_of h.2.2.2 (by omega)⟩

section
variable {H : Type} {enc : TypeId × Value → H} {W : World} {hd : Bool}

set_option maxRecDepth 100000 in
/-- A type's cells: its arguments' row with less fuel, its base. -/
theorem trod_type {fuel : Nat} {cs : List Value} {x : DataW H × List MemPlace} (h : DataW.trod enc Tryd.prog W 0 (fun _ => true) hd fuel 92 cs = some x) :
    ∃ c0 b y n, cs = [c0, .int .i64 b] ∧ fuel = n + 1 ∧ DataW.trod enc Tryd.prog W 0 (fun _ => true) hd n 22 [c0] = some y := by
  obtain ⟨xs, m, hm, _, hl, hxl, hf⟩ := DataW.trod_struct Tryd.underlying92 h
  rw [cells92] at hl
  match cs, hl with
  | [c0, c1], _ =>
    have h0 : DataW.trod enc Tryd.prog W 0 (fun _ => true) hd m 22 (([c0, c1].drop 0).take (Tryd.prog.cellsOf 22)) = xs[0]? := hf 0 _ rfl
    have h1 : DataW.trod enc Tryd.prog W 0 (fun _ => true) hd m 3 (([c0, c1].drop 1).take (Tryd.prog.cellsOf 3)) = xs[1]? := hf 1 _ rfl
    simp only [cells3, cells22] at h0 h1
    have hl2 : xs.length = 2 := hxl
    have hx0 : ∃ y, xs[0]? = some y := ⟨xs[0], by simp⟩
    have hx1 : ∃ y, xs[1]? = some y := ⟨xs[1], by simp⟩
    obtain ⟨y0, e0⟩ := hx0
    obtain ⟨y1, e1⟩ := hx1
    rw [e0] at h0
    rw [e1] at h1
    obtain ⟨b, e1, _, w1⟩ := DataW.trod_int Tryd.underlying3 h1
    simp at e1
    exact ⟨c0, b, y0, m, by rw [e1], hm, h0⟩

set_option maxRecDepth 100000 in
theorem open_fs : ∀ (fuel : Nat) (c : Value) (x : DataW H × List MemPlace), DataW.trod enc Tryd.prog W 0 (fun _ => true) hd fuel 22 [c] = some x → ∃ f, Ts W (fun x => x < W.heap.size) c f := by
  intro fuel
  induction fuel using Nat.strongRecOn with
  | _ fuel ih =>
    intro c x h
    rcases slice_elems 2 (by decide) Tryd.underlying22 cells92 h with rfl | ⟨a, len, cap, n, hn, rfl, hl, hm, h0⟩
    · exact ⟨.nil, Ts.nil _ _⟩
    · rcases h0 with rfl | ⟨g, off, rfl, hg, each⟩
      · exact ⟨.nil, a, cap, rfl, Or.inl rfl⟩
      · have each2 : ∀ i, i < len → ∃ p : Fs × Int, (∃ v, W.cell? ⟨g, off + i * 2, none⟩ = some v ∧ Ts W (fun x => x < W.heap.size) v p.1) ∧ W.cell? ⟨g, off + i * 2 + 1, none⟩ = some (.int .i64 p.2) := by
          intro i hi
          obtain ⟨cs, y, hln, hc, ht⟩ := each i hi
          obtain ⟨c0, b, y0, m, rfl, hm', ht0⟩ := trod_type ht
          obtain ⟨f, hf⟩ := ih m (by omega) c0 y0 ht0
          obtain ⟨v0, e0, e0'⟩ := hc 0 (by decide)
          obtain ⟨v1, e1, e1'⟩ := hc 1 (by decide)
          simp at e0' e1'
          subst e0'
          subst e1'
          exact ⟨(f, b), ⟨_, e0, hf⟩, e1⟩
        obtain ⟨l, hll, hl2⟩ := list_of len _ each2
        have hfl : (Fs.ofL l).len = len := by rw [← Fs.toL_len, Fs.toL_ofL, hll]
        refine ⟨Fs.ofL l, some ⟨g, off, none⟩, cap, by rw [hfl], Or.inr ⟨g, off, rfl, hg, lies_mk (fun i hi => ?_)⟩⟩
        have hi' : i < l.length := by rw [Fs.toL_ofL] at hi; exact hi
        have := hl2 i hi'
        simp only [Fs.toL_ofL]
        exact this

set_option maxRecDepth 100000 in
/-- A term's cells: its binders' row, its head, its arguments' row with less fuel. -/
theorem trod_term {fuel : Nat} {cs : List Value} {x : DataW H × List MemPlace} (h : DataW.trod enc Tryd.prog W 0 (fun _ => true) hd fuel 27 cs = some x) :
    ∃ c0 k i c3 y z n, cs = [c0, .int .i64 k, .int .i64 i, c3] ∧ In64' k ∧ In64' i ∧ fuel = n + 1 ∧ DataW.trod enc Tryd.prog W 0 (fun _ => true) hd n 22 [c0] = some y ∧ DataW.trod enc Tryd.prog W 0 (fun _ => true) hd n 25 [c3] = some z := by
  obtain ⟨xs, m, hm, _, hl, hxl, hf⟩ := DataW.trod_struct Tryd.underlying27 h
  rw [cells27] at hl
  match cs, hl with
  | [c0, c1, c2, c3], _ =>
    have h0 : DataW.trod enc Tryd.prog W 0 (fun _ => true) hd m 22 (([c0, c1, c2, c3].drop 0).take (Tryd.prog.cellsOf 22)) = xs[0]? := hf 0 _ rfl
    have h1 : DataW.trod enc Tryd.prog W 0 (fun _ => true) hd m 24 (([c0, c1, c2, c3].drop 1).take (Tryd.prog.cellsOf 24)) = xs[1]? := hf 1 _ rfl
    have h2 : DataW.trod enc Tryd.prog W 0 (fun _ => true) hd m 25 (([c0, c1, c2, c3].drop 3).take (Tryd.prog.cellsOf 25)) = xs[2]? := hf 2 _ rfl
    simp only [cells22, cells25, cells24] at h0 h1 h2
    have hl2 : xs.length = 3 := hxl
    obtain ⟨y0, e0⟩ : ∃ y, xs[0]? = some y := ⟨xs[0], by simp⟩
    obtain ⟨y1, e1⟩ : ∃ y, xs[1]? = some y := ⟨xs[1], by simp⟩
    obtain ⟨y2, e2⟩ : ∃ y, xs[2]? = some y := ⟨xs[2], by simp⟩
    rw [e0] at h0
    rw [e1] at h1
    rw [e2] at h2
    have h1' : DataW.trod enc Tryd.prog W 0 (fun _ => true) hd m 24 [c1, c2] = some y1 := h1
    obtain ⟨zs, m2, hm2, _, _, hzl, hg⟩ := DataW.trod_struct Tryd.underlying24 h1'
    have g0 : DataW.trod enc Tryd.prog W 0 (fun _ => true) hd m2 3 (([c1, c2].drop 0).take (Tryd.prog.cellsOf 3)) = zs[0]? := hg 0 _ rfl
    have g1 : DataW.trod enc Tryd.prog W 0 (fun _ => true) hd m2 3 (([c1, c2].drop 1).take (Tryd.prog.cellsOf 3)) = zs[1]? := hg 1 _ rfl
    simp only [cells3] at g0 g1
    have hz2 : zs.length = 2 := hzl
    obtain ⟨z0, f0⟩ : ∃ y, zs[0]? = some y := ⟨zs[0], by simp⟩
    obtain ⟨z1, f1⟩ : ∃ y, zs[1]? = some y := ⟨zs[1], by simp⟩
    rw [f0] at g0
    rw [f1] at g1
    obtain ⟨k, k1, _, kw⟩ := DataW.trod_int Tryd.underlying3 g0
    obtain ⟨i, i1, _, iw⟩ := DataW.trod_int Tryd.underlying3 g1
    simp at k1 i1
    exact ⟨c0, k, i, c3, y0, y2, m, by rw [k1, i1], wf64 kw, wf64 iw, hm, h0, h2⟩

set_option maxRecDepth 100000 in
theorem open_tms : ∀ (fuel : Nat) (c : Value) (x : DataW H × List MemPlace), DataW.trod enc Tryd.prog W 0 (fun _ => true) hd fuel 25 [c] = some x → ∃ f, Tr W (fun x => x < W.heap.size) c f ∧ TIn f := by
  intro fuel
  induction fuel using Nat.strongRecOn with
  | _ fuel ih =>
    intro c x h
    rcases slice_elems 4 (by decide) Tryd.underlying25 cells27 h with rfl | ⟨a, len, cap, n, hn, rfl, hl, hm, h0⟩
    · exact ⟨.nil, Tr.nil _ _, trivial⟩
    · rcases h0 with rfl | ⟨g, off, rfl, hg, each⟩
      · exact ⟨.nil, ⟨a, cap, rfl, Or.inl rfl⟩, trivial⟩
      · have each2 : ∀ i, i < len → ∃ p : Tm, TermAt W (fun x => x < W.heap.size) p g (off + i * 4) ∧ In64' p.kd ∧ In64' p.ix ∧ TIn p.ag := by
          intro i hi
          obtain ⟨cs, y, hln, hc, ht⟩ := each i hi
          obtain ⟨c0, k, j, c3, y0, y3, m, rfl, hk, hj, hm', ht0, ht3⟩ := trod_term ht
          obtain ⟨b, hb⟩ := open_fs m c0 y0 ht0
          obtain ⟨f, hf, hw⟩ := ih m (by omega) c3 y3 ht3
          obtain ⟨v0, e0, e0'⟩ := hc 0 (by decide)
          obtain ⟨v1, e1, e1'⟩ := hc 1 (by decide)
          obtain ⟨v2, e2, e2'⟩ := hc 2 (by decide)
          obtain ⟨v3, e3, e3'⟩ := hc 3 (by decide)
          simp at e0' e1' e2' e3'
          subst e0' e1' e2' e3'
          exact ⟨(b, k, j, f), ⟨⟨_, e0, hb⟩, e1, e2, _, e3, hf⟩, hk, hj, hw⟩
        obtain ⟨l, hll, hl2⟩ := list_of len _ each2
        have hfl : (Tms.ofL l).len = len := by rw [← Tms.toL_len, Tms.toL_ofL, hll]
        refine ⟨Tms.ofL l, ⟨some ⟨g, off, none⟩, cap, by rw [hfl], Or.inr ⟨g, off, rfl, hg, tlies_mk (fun i hi => ?_)⟩⟩, tin_mk (fun i hi => ?_)⟩
        · have hi' : i < l.length := by rw [Tms.toL_ofL] at hi; exact hi
          have := (hl2 i hi').1
          simp only [Tms.toL_ofL]
          exact this
        · have hi' : i < l.length := by rw [Tms.toL_ofL] at hi; exact hi
          have := (hl2 i hi').2
          simp only [Tms.toL_ofL]
          exact this

/-- a term that comes in -/
def TmIs (W : World) (v : Value) (n : Tm) : Prop := TV W (fun x => x < W.heap.size) v n ∧ In64' n.kd ∧ In64' n.ix ∧ TIn n.ag
/-- a row of types that comes in -/
def FsIs (W : World) (v : Value) (f : Fs) : Prop := Ts W (fun x => x < W.heap.size) v f

set_option maxRecDepth 100000 in
theorem open_tm {base : Nat} {r : Go.Reach} {v : Value} {d : DataW H} {p : List MemPlace} (ho : Value.okWide Tryd.prog W r base 27 v) (h : DataW.Trod enc Tryd.prog W 0 (fun _ => true) hd 27 v d p) : ∃ x : Tm, TmIs W v x := by
  obtain ⟨cs, rfl, hcs⟩ := okWide_struct Tryd.underlying27 ho
  obtain ⟨fuel, hf⟩ := h
  obtain ⟨l⟩ := cs
  have hf' : DataW.trod enc Tryd.prog W 0 (fun _ => true) hd fuel 27 l = some (d, p) := by simpa [Value.cells] using hf
  obtain ⟨c0, k, i, c3, y, z, n, rfl, hk, hi, hn, h0, h3⟩ := trod_term hf'
  obtain ⟨b, hb⟩ := open_fs n c0 y h0
  obtain ⟨f, ht, hw⟩ := open_tms n c3 z h3
  obtain ⟨ba, bc, rfl, _⟩ := id hb
  obtain ⟨a, cap, rfl, _⟩ := id ht
  exact ⟨(b, k, i, f), ⟨ba, bc, a, cap, rfl, hb, ht⟩, hk, hi, hw⟩
set_option maxRecDepth 100000 in
theorem open_row {base : Nat} {r : Go.Reach} {v : Value} {d : DataW H} {p : List MemPlace} (ho : Value.okWide Tryd.prog W r base 22 v) (h : DataW.Trod enc Tryd.prog W 0 (fun _ => true) hd 22 v d p) : ∃ x : Fs, FsIs W v x := by
  obtain ⟨fuel, hf⟩ := h
  obtain ⟨a, l, c, rfl⟩ := okWide_slice Tryd.underlying22 ho
  have hf' : DataW.trod enc Tryd.prog W 0 (fun _ => true) hd fuel 22 [.slice a l c] = some (d, p) := hf
  exact open_fs _ _ _ hf'
end
end Go.Proofs.YtnpcapdlgcaniaaDoor
