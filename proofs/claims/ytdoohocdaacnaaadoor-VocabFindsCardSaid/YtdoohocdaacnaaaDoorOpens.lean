/- What the document's table that comes in is. -/
import Derived.Test.YtdoohocdaacnaaaDoorTab
import Derived.WideShapes
import Derived.ChangeArms
import Derived.ChangeSame
import Derived.Deep.Strs
import Derived.ProofKit
import Derived.SizedLaws
import Derived.OpenShut
import Derived.Deep.Slices
namespace Go.Proofs.YtdoohocdaacnaaaDoor
open Go.ChangeShapes Go.WideShapes Go.ChangeAt Go.RowKit
set_option linter.unusedVariables false

theorem list_of {α : Type} (n : Nat) (p : Nat → α → Prop) (h : ∀ i, i < n → ∃ x, p i x) : ∃ l : List α, l.length = n ∧ ∀ i (hi : i < l.length), p i l[i] := by
  induction n with
  | zero => exact ⟨[], rfl, fun i hi => absurd hi (Nat.not_lt_zero _)⟩
  | succ n ih =>
    obtain ⟨l, hl, hp⟩ := ih (fun i hi => h i (by omega))
    obtain ⟨x, hx⟩ := h n (by omega)
    refine ⟨l ++ [x], by simp [hl], fun i hi => ?_⟩
    by_cases h' : i < l.length
    · rw [List.getElem_append_left h']; exact hp i h'
    · have : i = l.length := by simp at hi; omega
      subst this
      simp only [List.getElem_append_right (Nat.le_refl _), Nat.sub_self, List.getElem_cons_zero]
      rw [hl]; exact hx
theorem addr_off (b off i : Nat) : (⟨b, off, none⟩ : Addr).add i = ⟨b, off + i, none⟩ := by
  unfold Addr.add
  split
  · subst_vars; rfl
  · rfl
theorem cells3 : Tryd.prog.cellsOf 3 = 1 := by kernel_rfl
theorem cells9 : Tryd.prog.cellsOf 9 = 1 := by kernel_rfl
theorem cells61 : Tryd.prog.cellsOf 61 = 1 := by kernel_rfl
theorem cells63 : Tryd.prog.cellsOf 63 = 2 := by kernel_rfl
theorem cells65 : Tryd.prog.cellsOf 65 = 3 := by kernel_rfl
theorem cells23 : Tryd.prog.cellsOf 23 = 1 := by kernel_rfl
theorem cells37 : Tryd.prog.cellsOf 37 = 1 := by kernel_rfl
theorem cells39 : Tryd.prog.cellsOf 39 = 2 := by kernel_rfl

section
variable {H : Type} {enc : TypeId × Value → H} {W : World} {hd : Bool}

/-- A slice's elements, with less fuel. -/
theorem slice_elems {t e : TypeId} (k : Nat) (hk : 0 < k) (ht : Tryd.prog.underlying t = some (.slice e)) (he : Tryd.prog.cellsOf e = k) {fuel : Nat} {c : Value} {x : DataW H × List MemPlace} (h : DataW.trod enc Tryd.prog W 0 (fun _ => true) hd fuel t [c] = some x) :
    c = .slice none 0 0 ∨ ∃ (a : Option Addr) (len cap n : Nat), fuel = n + 1 ∧ c = .slice a len cap ∧ len ≤ cap ∧ cap ≤ maxLen ∧ (len = 0 ∨ ∃ g off, a = some ⟨g, off, none⟩ ∧ g < W.heap.size ∧
      ∀ i, i < len → ∃ cs y, cs.length = k ∧ (∀ j, j < k → ∃ v, W.cell? ⟨g, off + i * k + j, none⟩ = some v ∧ cs[j]? = some v) ∧ DataW.trod enc Tryd.prog W 0 (fun _ => true) hd n e cs = some y) := by
  rcases DataW.trod_slice ht h with ⟨hcs, _⟩ | ⟨x, l, c', elems, rest, n, hn, hcs, _, _, hl, hm, hlen, hel, _, _⟩
  · simp at hcs
    exact Or.inl hcs
  · simp at hcs
    refine Or.inr ⟨some x, l, c', n, hn, hcs, hl, hm, ?_⟩
    by_cases h0 : l = 0
    · exact Or.inl h0
    right
    have each : ∀ i, i < l → ∃ cs y, cs.length = k ∧ (∀ j, j < k → ∃ v, W.cell? ((x.add (i * k)).add j) = some v ∧ cs[j]? = some v) ∧ DataW.trod enc Tryd.prog W 0 (fun _ => true) hd n e cs = some y := by
      intro i hi
      have h1 := hel i hi
      rw [he] at h1
      have h2 : elems[i]? = some (elems[i]'(by omega)) := List.getElem?_eq_getElem (by omega)
      rw [h2] at h1
      cases hc : W.cells? 0 (x.add (i * k)) k with
      | none => rw [hc] at h1; cases h1
      | some cs =>
        rw [hc] at h1
        obtain ⟨_, hln, hcell⟩ := World.cells?_some hc
        refine ⟨cs, _, hln, fun j hj => ?_, h1⟩
        have e0 := hcell j (by omega)
        have e1 : cs[j]? = some (cs[j]'(by omega)) := List.getElem?_eq_getElem (by omega)
        exact ⟨cs[j]'(by omega), by rw [← e1]; exact e0, e1⟩
    obtain ⟨b, off, spot⟩ := x
    obtain ⟨cs, _, _, hc, _⟩ := each 0 (by omega)
    obtain ⟨v0, c0, _⟩ := hc 0 hk
    have hspot : spot = none := by simpa [Addr.add] using World.cell?_spot c0
    subst hspot
    have hb : b < W.heap.size := by
      have := World.block_lt_of_cell? W _ c0
      simpa [Addr.add] using this
    refine ⟨b, off, rfl, hb, fun i hi => ?_⟩
    obtain ⟨cs, y, hln, hc, ht⟩ := each i hi
    refine ⟨cs, y, hln, fun j hj => ?_, ht⟩
    obtain ⟨v, h1, h2⟩ := hc j hj
    rw [addr_off, addr_off] at h1
    exact ⟨v, h1, h2⟩

set_option maxRecDepth 100000 in
/-- A type's cells: its arguments' row with less fuel, its base. -/
theorem trod_type {fuel : Nat} {cs : List Value} {x : DataW H × List MemPlace} (h : DataW.trod enc Tryd.prog W 0 (fun _ => true) hd fuel 63 cs = some x) :
    ∃ c0 b y n, cs = [c0, .int .i64 b] ∧ fuel = n + 1 ∧ DataW.trod enc Tryd.prog W 0 (fun _ => true) hd n 61 [c0] = some y := by
  obtain ⟨xs, m, hm, _, hl, hxl, hf⟩ := DataW.trod_struct Tryd.underlying63 h
  rw [cells63] at hl
  match cs, hl with
  | [c0, c1], _ =>
    have h0 : DataW.trod enc Tryd.prog W 0 (fun _ => true) hd m 61 (([c0, c1].drop 0).take (Tryd.prog.cellsOf 61)) = xs[0]? := hf 0 _ rfl
    have h1 : DataW.trod enc Tryd.prog W 0 (fun _ => true) hd m 3 (([c0, c1].drop 1).take (Tryd.prog.cellsOf 3)) = xs[1]? := hf 1 _ rfl
    simp only [cells3, cells61] at h0 h1
    have hl2 : xs.length = 2 := hxl
    have hx0 : ∃ y, xs[0]? = some y := ⟨xs[0], by simp⟩
    have hx1 : ∃ y, xs[1]? = some y := ⟨xs[1], by simp⟩
    obtain ⟨y0, e0⟩ := hx0
    obtain ⟨y1, e1⟩ := hx1
    rw [e0] at h0
    rw [e1] at h1
    obtain ⟨b, e1, _, w1⟩ := DataW.trod_int Tryd.underlying3 h1
    simp at e1
    exact ⟨c0, b, y0, m, by rw [e1], hm, h0⟩

set_option maxRecDepth 100000 in
theorem open_fs : ∀ (fuel : Nat) (c : Value) (x : DataW H × List MemPlace), DataW.trod enc Tryd.prog W 0 (fun _ => true) hd fuel 61 [c] = some x → ∃ f, Ts W (fun x => x < W.heap.size) c f := by
  intro fuel
  induction fuel using Nat.strongRecOn with
  | _ fuel ih =>
    intro c x h
    rcases slice_elems 2 (by decide) Tryd.underlying61 cells63 h with rfl | ⟨a, len, cap, n, hn, rfl, hl, hm, h0⟩
    · exact ⟨.nil, Ts.nil _ _⟩
    · rcases h0 with rfl | ⟨g, off, rfl, hg, each⟩
      · exact ⟨.nil, a, cap, rfl, Or.inl rfl⟩
      · have each2 : ∀ i, i < len → ∃ p : Fs × Int, (∃ v, W.cell? ⟨g, off + i * 2, none⟩ = some v ∧ Ts W (fun x => x < W.heap.size) v p.1) ∧ W.cell? ⟨g, off + i * 2 + 1, none⟩ = some (.int .i64 p.2) := by
          intro i hi
          obtain ⟨cs, y, hln, hc, ht⟩ := each i hi
          obtain ⟨c0, b, y0, m, rfl, hm', ht0⟩ := trod_type ht
          obtain ⟨f, hf⟩ := ih m (by omega) c0 y0 ht0
          obtain ⟨v0, e0, e0'⟩ := hc 0 (by decide)
          obtain ⟨v1, e1, e1'⟩ := hc 1 (by decide)
          simp at e0' e1'
          subst e0'
          subst e1'
          exact ⟨(f, b), ⟨_, e0, hf⟩, e1⟩
        obtain ⟨l, hll, hl2⟩ := list_of len _ each2
        have hfl : (Fs.ofL l).len = len := by rw [← Fs.toL_len, Fs.toL_ofL, hll]
        refine ⟨Fs.ofL l, some ⟨g, off, none⟩, cap, by rw [hfl], Or.inr ⟨g, off, rfl, hg, lies_mk (fun i hi => ?_)⟩⟩
        have hi' : i < l.length := by rw [Fs.toL_ofL] at hi; exact hi
        have := hl2 i hi'
        simp only [Fs.toL_ofL]
        exact this

/-- The document's table that comes in. -/
structure TabIn where
  ba : Option Addr
  bc : Nat
  bs : List ByteArray
  cv : Value
  cs : List Cn
def TabIs (W : World) (v : Value) (t : TabIn) : Prop :=
  v = .agg #[.slice t.ba t.bs.length t.bc, t.cv] ∧ t.bs.length ≤ t.bc ∧ (t.ba = none → t.bs.length = 0 ∧ t.bc = 0) ∧ Strs W (fun x => x < W.heap.size) (.slice t.ba t.bs.length t.bc) t.bs ∧ (∀ c ∈ t.cs, c.1.size ≤ maxLen) ∧ CnsI W (fun x => x < W.heap.size) t.cv t.cs

set_option maxRecDepth 100000 in
theorem open_strs {fuel : Nat} {c : Value} {x : DataW H × List MemPlace} (h : DataW.trod enc Tryd.prog W 0 (fun _ => true) hd fuel 23 [c] = some x) :
    ∃ (a : Option Addr) (cap : Nat) (l : List ByteArray), c = .slice a l.length cap ∧ l.length ≤ cap ∧ (a = none → l.length = 0 ∧ cap = 0) ∧ Strs W (fun x => x < W.heap.size) c l := by
  rcases DataW.trod_slice Tryd.underlying23 h with ⟨hcs, _⟩ | ⟨x', l', c', _, _, _, _, hcs', _⟩
  · simp at hcs
    subst hcs
    exact ⟨none, 0, [], rfl, Nat.le_refl _, fun _ => ⟨rfl, rfl⟩, (fun s hs => by cases hs), none, 0, rfl, Or.inl rfl⟩
  rcases slice_elems 1 (by decide) Tryd.underlying23 cells9 h with rfl | ⟨a, len, cap, n, hn, rfl, hl, hm, h0⟩
  · simp at hcs'
  · have ha : ¬ a = none := fun e => by simp [e] at hcs'
    rcases h0 with rfl | ⟨g, off, rfl, hg, each⟩
    · exact ⟨a, cap, [], rfl, Nat.zero_le _, fun e => absurd e ha, (fun s hs => by cases hs), a, cap, rfl, Or.inl rfl⟩
    · have each2 : ∀ i, i < len → ∃ s : ByteArray, W.cell? ⟨g, off + i, none⟩ = some (.string s) ∧ s.size ≤ maxLen := by
        intro i hi
        obtain ⟨cs, y, hln, hc, ht⟩ := each i hi
        obtain ⟨s, hs, _, hsz⟩ := DataW.trod_string Tryd.underlying9 ht
        subst hs
        obtain ⟨v0, e0, e0'⟩ := hc 0 (by decide)
        simp at e0'
        subst e0'
        exact ⟨s, by simpa using e0, hsz⟩
      obtain ⟨l, hll, hl2⟩ := list_of len _ each2
      refine ⟨some ⟨g, off, none⟩, cap, l, by rw [hll], by omega, (fun e => by cases e), fun s hs => ?_, some ⟨g, off, none⟩, cap, by rw [hll], Or.inr ⟨g, off, rfl, hg, fun i hi => (hl2 i hi).1⟩⟩
      obtain ⟨i, hi, rfl⟩ := List.getElem_of_mem hs
      exact (hl2 i hi).2

set_option maxRecDepth 100000 in
theorem open_cns {fuel : Nat} {c : Value} {x : DataW H × List MemPlace} (h : DataW.trod enc Tryd.prog W 0 (fun _ => true) hd fuel 37 [c] = some x) :
    ∃ l : List Cn, (∀ c ∈ l, c.1.size ≤ maxLen) ∧ CnsI W (fun x => x < W.heap.size) c l := by
  rcases slice_elems 3 (by decide) Tryd.underlying37 cells65 h with rfl | ⟨a, len, cap, n, hn, rfl, hl, hm, h0⟩
  · exact ⟨[], (fun s hs => by cases hs), none, 0, rfl, Or.inl rfl⟩
  · rcases h0 with rfl | ⟨g, off, rfl, hg, each⟩
    · exact ⟨[], (fun s hs => by cases hs), a, cap, rfl, Or.inl rfl⟩
    · have each2 : ∀ i, i < len → ∃ p : Cn, (W.cell? ⟨g, off + i * 3, none⟩ = some (.string p.1) ∧ (∃ v, W.cell? ⟨g, off + i * 3 + 1, none⟩ = some v ∧ Ts W (fun x => x < W.heap.size) v p.2.1) ∧ W.cell? ⟨g, off + i * 3 + 2, none⟩ = some (.int .i64 p.2.2)) ∧ p.1.size ≤ maxLen := by
        intro i hi
        obtain ⟨cs, y, hln, hc, ht⟩ := each i hi
        obtain ⟨xs, m, hm, _, _, hxl, hf⟩ := DataW.trod_struct Tryd.underlying65 ht
        match cs, hln with
        | [c0, c1, c2], _ =>
          have h0 : DataW.trod enc Tryd.prog W 0 (fun _ => true) hd m 9 (([c0, c1, c2].drop 0).take (Tryd.prog.cellsOf 9)) = xs[0]? := hf 0 _ rfl
          have h1 : DataW.trod enc Tryd.prog W 0 (fun _ => true) hd m 63 (([c0, c1, c2].drop 1).take (Tryd.prog.cellsOf 63)) = xs[1]? := hf 1 _ rfl
          simp only [cells9, cells63] at h0 h1
          have hl2 : xs.length = 2 := hxl
          have hx0 : ∃ y, xs[0]? = some y := ⟨xs[0], by simp⟩
          have hx1 : ∃ y, xs[1]? = some y := ⟨xs[1], by simp⟩
          obtain ⟨y0, e0⟩ := hx0
          obtain ⟨y1, e1⟩ := hx1
          rw [e0] at h0
          rw [e1] at h1
          have h1' : DataW.trod enc Tryd.prog W 0 (fun _ => true) hd m 63 [c1, c2] = some y1 := h1
          obtain ⟨s, hs, _, hsz⟩ := DataW.trod_string Tryd.underlying9 h0
          obtain ⟨k0, b, z0, m', hk, hm', ht0⟩ := trod_type h1'
          obtain ⟨f, hf'⟩ := open_fs m' k0 z0 ht0
          simp at hs hk
          obtain ⟨hk0, hk1⟩ := hk
          obtain ⟨v0, a0, a0'⟩ := hc 0 (by decide)
          obtain ⟨v1, a1, a1'⟩ := hc 1 (by decide)
          obtain ⟨v2, a2, a2'⟩ := hc 2 (by decide)
          simp at a0' a1' a2'
          subst a0' a1' a2' hs hk0 hk1
          exact ⟨(s, f, b), ⟨a0, ⟨_, a1, hf'⟩, a2⟩, hsz⟩
      obtain ⟨l, hll, hl2⟩ := list_of len _ each2
      refine ⟨l, fun s hs => ?_, some ⟨g, off, none⟩, cap, by rw [hll], Or.inr ⟨g, off, rfl, hg, fun i hi => (hl2 i hi).1⟩⟩
      obtain ⟨i, hi, rfl⟩ := List.getElem_of_mem hs
      exact (hl2 i hi).2

set_option maxRecDepth 100000 in
theorem open_table {base : Nat} {r : Go.Reach} {v : Value} {d : DataW H} {p : List MemPlace} (ho : Value.okWide Tryd.prog W r base 39 v) (h : DataW.Trod enc Tryd.prog W 0 (fun _ => true) hd 39 v d p) : ∃ x : TabIn, TabIs W v x := by
  obtain ⟨cs, rfl, hcs⟩ := okWide_struct Tryd.underlying39 ho
  obtain ⟨fuel, hf⟩ := h
  obtain ⟨y0, y1, n, hx, hl, h0, h1⟩ := trod_struct2 Tryd.underlying39 hf
  have hl' : cs.toList.length = 2 := by
    rw [cells39] at hl
    simpa [Value.cells] using hl
  obtain ⟨l⟩ := cs
  match l, hl' with
  | [c0, c1], _ =>
    simp only [cells23, cells37] at h0 h1
    have h0' : DataW.trod enc Tryd.prog W 0 (fun _ => true) hd n 23 [c0] = some y0 := h0
    have h1' : DataW.trod enc Tryd.prog W 0 (fun _ => true) hd n 37 [c1] = some y1 := h1
    obtain ⟨a, cap, bs, rfl, q1, q2, q3⟩ := open_strs h0'
    obtain ⟨cs, q4, q5⟩ := open_cns h1'
    exact ⟨⟨a, cap, bs, c1, cs⟩, rfl, q1, q2, q3, q4, q5⟩
end
end Go.Proofs.YtdoohocdaacnaaaDoor
