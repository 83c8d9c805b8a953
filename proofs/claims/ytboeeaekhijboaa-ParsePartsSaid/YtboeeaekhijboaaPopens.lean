/- What the document's trees and items that come in are. -/
import Derived.Test.YtboeeaekhijboaaPnames
import Derived.WideShapes
import Derived.ChangeArms
import Derived.ChangeSame
import Derived.Deep.Strs
import Derived.ProofKit
import Derived.SizedLaws
import Derived.OpenShut
import Derived.Deep.Slices
namespace Go.Proofs.Ytboeeaekhijboaa
open Go.ChangeShapes Go.WideShapes Go.ChangeAt Go.RowKit
set_option linter.unusedVariables false

theorem list_of {α : Type} (n : Nat) (p : Nat → α → Prop) (h : ∀ i, i < n → ∃ x, p i x) : ∃ l : List α, l.length = n ∧ ∀ i (hi : i < l.length), p i l[i] := by
  induction n with
  | zero => exact ⟨[], rfl, fun i hi => absurd hi (Nat.not_lt_zero _)⟩
  | succ n ih =>
    obtain ⟨l, hl, hp⟩ := ih (fun i hi => h i (by omega))
    obtain ⟨x, hx⟩ := h n (by omega)
    refine ⟨l ++ [x], by simp [hl], fun i hi => ?_⟩
    by_cases h' : i < l.length
    · rw [List.getElem_append_left h']; exact hp i h'
    · have : i = l.length := by simp at hi; omega
      subst this
      simp only [List.getElem_append_right (Nat.le_refl _), Nat.sub_self, List.getElem_cons_zero]
      rw [hl]; exact hx
theorem cells3 : Try.prog.cellsOf 3 = 1 := by kernel_rfl
theorem cells9 : Try.prog.cellsOf 9 = 1 := by kernel_rfl
theorem cells39 : Try.prog.cellsOf 39 = 1 := by kernel_rfl
theorem cells40 : Try.prog.cellsOf 40 = 1 := by kernel_rfl
theorem cells42 : Try.prog.cellsOf 42 = 5 := by kernel_rfl
theorem cells55 : Try.prog.cellsOf 55 = 4 := by kernel_rfl
theorem wsz_mk : ∀ {f : Ns}, (∀ i (h : i < f.toL.length), (f.toL[i]).word.size ≤ maxLen ∧ Wsz (f.toL[i]).kids) → Wsz f
  | .nil, _ => trivial
  | .cons k s a x r, h => by
    have h0 := h 0 (by simp [Ns.toL])
    simp only [Ns.toL, List.getElem_cons_zero] at h0
    exact ⟨h0.1, h0.2, wsz_mk (fun i hi => by
      have := h (i + 1) (by simpa [Ns.toL] using hi)
      simpa only [Ns.toL, List.getElem_cons_succ] using this)⟩

section
variable {H : Type} {enc : TypeId × Value → H} {W : World} {hd : Bool}

/-- A slice's elements, with less fuel. -/
theorem slice_elems {t e : TypeId} (k : Nat) (hk : 0 < k) (ht : Try.prog.underlying t = some (.slice e)) (he : Try.prog.cellsOf e = k) {fuel : Nat} {c : Value} {x : DataW H × List MemPlace} (h : DataW.trod enc Try.prog W 0 (fun _ => true) hd fuel t [c] = some x) :
    c = .slice none 0 0 ∨ ∃ (a : Option Addr) (len cap n : Nat), fuel = n + 1 ∧ c = .slice a len cap ∧ len ≤ cap ∧ cap ≤ maxLen ∧ (len = 0 ∨ ∃ g off, a = some ⟨g, off, none⟩ ∧ g < W.heap.size ∧
      ∀ i, i < len → ∃ cs y, cs.length = k ∧ (∀ j, j < k → ∃ v, W.cell? ⟨g, off + i * k + j, none⟩ = some v ∧ cs[j]? = some v) ∧ DataW.trod enc Try.prog W 0 (fun _ => true) hd n e cs = some y) := by
  rcases DataW.trod_slice ht h with ⟨hcs, _⟩ | ⟨x, l, c', elems, rest, n, hn, hcs, _, _, hl, hm, hlen, hel, _, _⟩
  · simp at hcs
    exact Or.inl hcs
  · simp at hcs
    refine Or.inr ⟨some x, l, c', n, hn, hcs, hl, hm, ?_⟩
    by_cases h0 : l = 0
    · exact Or.inl h0
    right
    have each : ∀ i, i < l → ∃ cs y, cs.length = k ∧ (∀ j, j < k → ∃ v, W.cell? ((x.add (i * k)).add j) = some v ∧ cs[j]? = some v) ∧ DataW.trod enc Try.prog W 0 (fun _ => true) hd n e cs = some y := by
      intro i hi
      have h1 := hel i hi
      rw [he] at h1
      have h2 : elems[i]? = some (elems[i]'(by omega)) := List.getElem?_eq_getElem (by omega)
      rw [h2] at h1
      cases hc : W.cells? 0 (x.add (i * k)) k with
      | none => rw [hc] at h1; cases h1
      | some cs =>
        rw [hc] at h1
        obtain ⟨_, hln, hcell⟩ := World.cells?_some hc
        refine ⟨cs, _, hln, fun j hj => ?_, h1⟩
        have e0 := hcell j (by omega)
        have e1 : cs[j]? = some (cs[j]'(by omega)) := List.getElem?_eq_getElem (by omega)
        exact ⟨cs[j]'(by omega), by rw [← e1]; exact e0, e1⟩
    obtain ⟨b, off, spot⟩ := x
    obtain ⟨cs, _, _, hc, _⟩ := each 0 (by omega)
    obtain ⟨v0, c0, _⟩ := hc 0 hk
    have hspot : spot = none := by simpa [Addr.add] using World.cell?_spot c0
    subst hspot
    have hb : b < W.heap.size := by
      have := World.block_lt_of_cell? W _ c0
      simpa [Addr.add] using this
    refine ⟨b, off, rfl, hb, fun i hi => ?_⟩
    obtain ⟨cs, y, hln, hc, ht⟩ := each i hi
    refine ⟨cs, y, hln, fun j hj => ?_, ht⟩
    obtain ⟨v, h1, h2⟩ := hc j hj
    rw [add_at', add_at'] at h1
    exact ⟨v, h1, h2⟩

set_option maxRecDepth 100000 in
/-- A node's cells: its kind, its word, its place, its kids with less fuel. -/
theorem trod_node {fuel : Nat} {cs : List Value} {x : DataW H × List MemPlace} (h : DataW.trod enc Try.prog W 0 (fun _ => true) hd fuel 55 cs = some x) :
    ∃ k s a c3 y n, cs = [.int .i64 k, .string s, .int .i64 a, c3] ∧ s.size ≤ maxLen ∧ fuel = n + 1 ∧ DataW.trod enc Try.prog W 0 (fun _ => true) hd n 40 [c3] = some y := by
  obtain ⟨xs, m, hm, _, hl, hxl, hf⟩ := DataW.trod_struct Try.underlying55 h
  rw [cells55] at hl
  match cs, hl with
  | [c0, c1, c2, c3], _ =>
    have h0 : DataW.trod enc Try.prog W 0 (fun _ => true) hd m 3 (([c0, c1, c2, c3].drop 0).take (Try.prog.cellsOf 3)) = xs[0]? := hf 0 _ rfl
    have h1 : DataW.trod enc Try.prog W 0 (fun _ => true) hd m 9 (([c0, c1, c2, c3].drop 1).take (Try.prog.cellsOf 9)) = xs[1]? := hf 1 _ rfl
    have h2 : DataW.trod enc Try.prog W 0 (fun _ => true) hd m 3 (([c0, c1, c2, c3].drop 2).take (Try.prog.cellsOf 3)) = xs[2]? := hf 2 _ rfl
    have h3 : DataW.trod enc Try.prog W 0 (fun _ => true) hd m 40 (([c0, c1, c2, c3].drop 3).take (Try.prog.cellsOf 40)) = xs[3]? := hf 3 _ rfl
    simp only [cells3, cells9, cells40] at h0 h1 h2 h3
    have hl2 : xs.length = 4 := hxl
    obtain ⟨y0, e0⟩ : ∃ y, xs[0]? = some y := ⟨xs[0], by simp⟩
    obtain ⟨y1, e1⟩ : ∃ y, xs[1]? = some y := ⟨xs[1], by simp⟩
    obtain ⟨y2, e2⟩ : ∃ y, xs[2]? = some y := ⟨xs[2], by simp⟩
    obtain ⟨y3, e3⟩ : ∃ y, xs[3]? = some y := ⟨xs[3], by simp⟩
    rw [e0] at h0
    rw [e1] at h1
    rw [e2] at h2
    rw [e3] at h3
    obtain ⟨k, k1, _, _⟩ := DataW.trod_int Try.underlying3 h0
    obtain ⟨s, s1, _, s2⟩ := DataW.trod_string Try.underlying9 h1
    obtain ⟨a, a1, _, _⟩ := DataW.trod_int Try.underlying3 h2
    simp at k1 s1 a1
    exact ⟨k, s, a, c3, y3, m, by rw [k1, s1, a1], s2, hm, h3⟩

set_option maxRecDepth 100000 in
theorem open_ns : ∀ (fuel : Nat) (c : Value) (x : DataW H × List MemPlace), DataW.trod enc Try.prog W 0 (fun _ => true) hd fuel 40 [c] = some x → ∃ f, Ts W (fun x => x < W.heap.size) c f ∧ Wsz f := by
  intro fuel
  induction fuel using Nat.strongRecOn with
  | _ fuel ih =>
    intro c x h
    rcases slice_elems 4 (by decide) Try.underlying40 cells55 h with rfl | ⟨a, len, cap, n, hn, rfl, hl, hm, h0⟩
    · exact ⟨.nil, Ts.nil _ _, trivial⟩
    · rcases h0 with rfl | ⟨g, off, rfl, hg, each⟩
      · exact ⟨.nil, ⟨a, cap, rfl, Or.inl rfl⟩, trivial⟩
      · have each2 : ∀ i, i < len → ∃ p : Nd, NodeAt W (fun x => x < W.heap.size) p g (off + i * 4) ∧ p.word.size ≤ maxLen ∧ Wsz p.kids := by
          intro i hi
          obtain ⟨cs, y, hln, hc, ht⟩ := each i hi
          obtain ⟨k, s, b, c3, y3, m, rfl, hsz, hm', ht3⟩ := trod_node ht
          obtain ⟨f, hf, hw⟩ := ih m (by omega) c3 y3 ht3
          obtain ⟨v0, e0, e0'⟩ := hc 0 (by decide)
          obtain ⟨v1, e1, e1'⟩ := hc 1 (by decide)
          obtain ⟨v2, e2, e2'⟩ := hc 2 (by decide)
          obtain ⟨v3, e3, e3'⟩ := hc 3 (by decide)
          simp at e0' e1' e2' e3'
          subst e0' e1' e2' e3'
          exact ⟨(k, s, b, f), ⟨e0, e1, e2, _, e3, hf⟩, hsz, hw⟩
        obtain ⟨l, hll, hl2⟩ := list_of len _ each2
        have hfl : (Ns.ofL l).len = len := by rw [← Ns.toL_len, Ns.toL_ofL, hll]
        refine ⟨Ns.ofL l, ⟨some ⟨g, off, none⟩, cap, by rw [hfl], Or.inr ⟨g, off, rfl, hg, lies_mk (fun i hi => ?_)⟩⟩, wsz_mk (fun i hi => ?_)⟩
        · have hi' : i < l.length := by rw [Ns.toL_ofL] at hi; exact hi
          have := (hl2 i hi').1
          simp only [Ns.toL_ofL]
          exact this
        · have hi' : i < l.length := by rw [Ns.toL_ofL] at hi; exact hi
          have := (hl2 i hi').2
          simp only [Ns.toL_ofL]
          exact this

set_option maxRecDepth 100000 in
theorem open_words {fuel : Nat} {c : Value} {x : DataW H × List MemPlace} (h : DataW.trod enc Try.prog W 0 (fun _ => true) hd fuel 39 [c] = some x) : ∃ l, Sw W (fun x => x < W.heap.size) c l := by
  rcases slice_elems 1 (by decide) Try.underlying39 cells9 h with rfl | ⟨a, len, cap, n, hn, rfl, hl, hm, h0⟩
  · exact ⟨[], Sw.nil _ _⟩
  · rcases h0 with rfl | ⟨g, off, rfl, hg, each⟩
    · exact ⟨[], a, cap, rfl, Or.inl rfl⟩
    · have each2 : ∀ i, i < len → ∃ s : ByteArray, W.cell? ⟨g, off + i, none⟩ = some (.string s) := by
        intro i hi
        obtain ⟨cs, y, hln, hc, ht⟩ := each i hi
        obtain ⟨s, hs, _, hsz⟩ := DataW.trod_string Try.underlying9 ht
        subst hs
        obtain ⟨v0, e0, e0'⟩ := hc 0 (by decide)
        simp at e0'
        subst e0'
        exact ⟨s, by simpa using e0⟩
      obtain ⟨l, hll, hl2⟩ := list_of len _ each2
      exact ⟨l, some ⟨g, off, none⟩, cap, by rw [hll], Or.inr ⟨g, off, rfl, hg, fun i hi => hl2 i hi⟩⟩

/-- a tree that comes in -/
def NodeIs (W : World) (v : Value) (n : Nd) : Prop := NV W (fun x => x < W.heap.size) v n ∧ n.word.size ≤ maxLen ∧ Wsz n.kids
/-- an item that comes in -/
def ItemIs (W : World) (v : Value) (x : It) : Prop := IV W (fun x => x < W.heap.size) v x

set_option maxRecDepth 100000 in
theorem open_node {base : Nat} {r : Go.Reach} {v : Value} {d : DataW H} {p : List MemPlace} (ho : Value.okWide Try.prog W r base 55 v) (h : DataW.Trod enc Try.prog W 0 (fun _ => true) hd 55 v d p) : ∃ x : Nd, NodeIs W v x := by
  obtain ⟨cs, rfl, hcs⟩ := okWide_struct Try.underlying55 ho
  obtain ⟨fuel, hf⟩ := h
  obtain ⟨l⟩ := cs
  have hf' : DataW.trod enc Try.prog W 0 (fun _ => true) hd fuel 55 l = some (d, p) := by simpa [Value.cells] using hf
  obtain ⟨k, s, a, c3, y, n, rfl, hsz, hn, h3⟩ := trod_node hf'
  obtain ⟨f, ⟨a3, cap, rfl, ht⟩, hw⟩ := open_ns n c3 y h3
  exact ⟨(k, s, a, f), ⟨a3, cap, rfl, a3, cap, rfl, ht⟩, hsz, hw⟩

set_option maxRecDepth 100000 in
theorem open_item {base : Nat} {r : Go.Reach} {v : Value} {d : DataW H} {p : List MemPlace} (ho : Value.okWide Try.prog W r base 42 v) (h : DataW.Trod enc Try.prog W 0 (fun _ => true) hd 42 v d p) : ∃ x : It, ItemIs W v x := by
  obtain ⟨cs, rfl, hcs⟩ := okWide_struct Try.underlying42 ho
  obtain ⟨fuel, hf⟩ := h
  obtain ⟨l⟩ := cs
  have hf' : DataW.trod enc Try.prog W 0 (fun _ => true) hd fuel 42 l = some (d, p) := by simpa [Value.cells] using hf
  obtain ⟨xs, m, hm, _, hl, hxl, hf⟩ := DataW.trod_struct Try.underlying42 hf'
  rw [cells42] at hl
  match l, hl with
  | [c0, c1, c2, c3, c4], _ =>
    have h0 : DataW.trod enc Try.prog W 0 (fun _ => true) hd m 3 (([c0, c1, c2, c3, c4].drop 0).take (Try.prog.cellsOf 3)) = xs[0]? := hf 0 _ rfl
    have h1 : DataW.trod enc Try.prog W 0 (fun _ => true) hd m 39 (([c0, c1, c2, c3, c4].drop 1).take (Try.prog.cellsOf 39)) = xs[1]? := hf 1 _ rfl
    have h2 : DataW.trod enc Try.prog W 0 (fun _ => true) hd m 40 (([c0, c1, c2, c3, c4].drop 2).take (Try.prog.cellsOf 40)) = xs[2]? := hf 2 _ rfl
    have h3 : DataW.trod enc Try.prog W 0 (fun _ => true) hd m 3 (([c0, c1, c2, c3, c4].drop 3).take (Try.prog.cellsOf 3)) = xs[3]? := hf 3 _ rfl
    have h4 : DataW.trod enc Try.prog W 0 (fun _ => true) hd m 3 (([c0, c1, c2, c3, c4].drop 4).take (Try.prog.cellsOf 3)) = xs[4]? := hf 4 _ rfl
    simp only [cells3, cells39, cells40] at h0 h1 h2 h3 h4
    have hl2 : xs.length = 5 := hxl
    obtain ⟨y0, e0⟩ : ∃ y, xs[0]? = some y := ⟨xs[0], by simp⟩
    obtain ⟨y1, e1⟩ : ∃ y, xs[1]? = some y := ⟨xs[1], by simp⟩
    obtain ⟨y2, e2⟩ : ∃ y, xs[2]? = some y := ⟨xs[2], by simp⟩
    obtain ⟨y3, e3⟩ : ∃ y, xs[3]? = some y := ⟨xs[3], by simp⟩
    obtain ⟨y4, e4⟩ : ∃ y, xs[4]? = some y := ⟨xs[4], by simp⟩
    rw [e0] at h0
    rw [e1] at h1
    rw [e2] at h2
    rw [e3] at h3
    rw [e4] at h4
    have h1' : DataW.trod enc Try.prog W 0 (fun _ => true) hd m 39 [c1] = some y1 := h1
    have h2' : DataW.trod enc Try.prog W 0 (fun _ => true) hd m 40 [c2] = some y2 := h2
    obtain ⟨k, k1, _, _⟩ := DataW.trod_int Try.underlying3 h0
    obtain ⟨nm, n1, _, _⟩ := DataW.trod_int Try.underlying3 h3
    obtain ⟨a, a1, _, _⟩ := DataW.trod_int Try.underlying3 h4
    obtain ⟨ws, hws⟩ := open_words h1'
    obtain ⟨f, hf2, _⟩ := open_ns m c2 y2 h2'
    simp at k1 n1 a1
    subst k1 n1 a1
    exact ⟨(k, ws, f, nm, a), c1, c2, rfl, hws, hf2⟩
end
end Go.Proofs.Ytboeeaekhijboaa
