/- What a row of ints that comes in is. -/
import Derived.Test.YtnpcapdlgcaniaaDoorTms
import Derived.Test.YtnpcapdlgcaniaaDoorInts
import Derived.Test.YtnpcapdlgcaniaaDoorTurned
import Derived.WideShapes
import Derived.ChangeArms
import Derived.ChangeSame
import Derived.Deep.Strs
import Derived.ProofKit
import Derived.SizedLaws
import Derived.OpenShut
import Derived.Deep.Slices
namespace Go.Proofs.YtnpcapdlgcaniaaDoor
open Go.ChangeShapes Go.WideShapes Go.ChangeAt Go.RowKit
set_option linter.unusedVariables false

theorem list_of {α : Type} (n : Nat) (p : Nat → α → Prop) (h : ∀ i, i < n → ∃ x, p i x) : ∃ l : List α, l.length = n ∧ ∀ i (hi : i < l.length), p i l[i] := by
  induction n with
  | zero => exact ⟨[], rfl, fun i hi => absurd hi (Nat.not_lt_zero _)⟩
  | succ n ih =>
    obtain ⟨l, hl, hp⟩ := ih (fun i hi => h i (by omega))
    obtain ⟨x, hx⟩ := h n (by omega)
    refine ⟨l ++ [x], by simp [hl], fun i hi => ?_⟩
    by_cases h' : i < l.length
    · rw [List.getElem_append_left h']; exact hp i h'
    · have : i = l.length := by simp at hi; omega
      subst this
      simp only [List.getElem_append_right (Nat.le_refl _), Nat.sub_self, List.getElem_cons_zero]
      rw [hl]; exact hx
theorem addr_off (b off i : Nat) : (⟨b, off, none⟩ : Addr).add i = ⟨b, off + i, none⟩ := by
  unfold Addr.add
  split
  · subst_vars; rfl
  · rfl
theorem cells3 : Tryd.prog.cellsOf 3 = 1 := by kernel_rfl
theorem cells28 : Tryd.prog.cellsOf 28 = 1 := by kernel_rfl

section
variable {H : Type} {enc : TypeId × Value → H} {W : World} {hd : Bool}

/-- A slice's elements, with less fuel. -/
theorem slice_elems {t e : TypeId} (k : Nat) (hk : 0 < k) (ht : Tryd.prog.underlying t = some (.slice e)) (he : Tryd.prog.cellsOf e = k) {fuel : Nat} {c : Value} {x : DataW H × List MemPlace} (h : DataW.trod enc Tryd.prog W 0 (fun _ => true) hd fuel t [c] = some x) :
    c = .slice none 0 0 ∨ ∃ (a : Option Addr) (len cap n : Nat), fuel = n + 1 ∧ c = .slice a len cap ∧ len ≤ cap ∧ cap ≤ maxLen ∧ (len = 0 ∨ ∃ g off, a = some ⟨g, off, none⟩ ∧ g < W.heap.size ∧
      ∀ i, i < len → ∃ cs y, cs.length = k ∧ (∀ j, j < k → ∃ v, W.cell? ⟨g, off + i * k + j, none⟩ = some v ∧ cs[j]? = some v) ∧ DataW.trod enc Tryd.prog W 0 (fun _ => true) hd n e cs = some y) := by
  rcases DataW.trod_slice ht h with ⟨hcs, _⟩ | ⟨x, l, c', elems, rest, n, hn, hcs, _, _, hl, hm, hlen, hel, _, _⟩
  · simp at hcs
    exact Or.inl hcs
  · simp at hcs
    refine Or.inr ⟨some x, l, c', n, hn, hcs, hl, hm, ?_⟩
    by_cases h0 : l = 0
    · exact Or.inl h0
    right
    have each : ∀ i, i < l → ∃ cs y, cs.length = k ∧ (∀ j, j < k → ∃ v, W.cell? ((x.add (i * k)).add j) = some v ∧ cs[j]? = some v) ∧ DataW.trod enc Tryd.prog W 0 (fun _ => true) hd n e cs = some y := by
      intro i hi
      have h1 := hel i hi
      rw [he] at h1
      have h2 : elems[i]? = some (elems[i]'(by omega)) := List.getElem?_eq_getElem (by omega)
      rw [h2] at h1
      cases hc : W.cells? 0 (x.add (i * k)) k with
      | none => rw [hc] at h1; cases h1
      | some cs =>
        rw [hc] at h1
        obtain ⟨_, hln, hcell⟩ := World.cells?_some hc
        refine ⟨cs, _, hln, fun j hj => ?_, h1⟩
        have e0 := hcell j (by omega)
        have e1 : cs[j]? = some (cs[j]'(by omega)) := List.getElem?_eq_getElem (by omega)
        exact ⟨cs[j]'(by omega), by rw [← e1]; exact e0, e1⟩
    obtain ⟨b, off, spot⟩ := x
    obtain ⟨cs, _, _, hc, _⟩ := each 0 (by omega)
    obtain ⟨v0, c0, _⟩ := hc 0 hk
    have hspot : spot = none := by simpa [Addr.add] using World.cell?_spot c0
    subst hspot
    have hb : b < W.heap.size := by
      have := World.block_lt_of_cell? W _ c0
      simpa [Addr.add] using this
    refine ⟨b, off, rfl, hb, fun i hi => ?_⟩
    obtain ⟨cs, y, hln, hc, ht⟩ := each i hi
    refine ⟨cs, y, hln, fun j hj => ?_, ht⟩
    obtain ⟨v, h1, h2⟩ := hc j hj
    rw [addr_off, addr_off] at h1
    exact ⟨v, h1, h2⟩


/-- A row of ints that comes in. -/
structure IsIn where
  a : Option Addr
  c : Nat
  l : List Int
def IsIs (W : World) (v : Value) (x : IsIn) : Prop :=
  v = .slice x.a x.l.length x.c ∧ x.l.length ≤ x.c ∧ x.c ≤ maxLen ∧ (x.a = none → x.l.length = 0 ∧ x.c = 0) ∧ Il W (fun y => y < W.heap.size) (.slice x.a x.l.length x.c) x.l ∧ ∀ n ∈ x.l, In64' n
theorem wf64 {n : Int} (h : (Lit.int .i64 n).wf = true) : In64' n := by
  exact bounds_i64 h
set_option maxRecDepth 100000 in
theorem open_is0 {fuel : Nat} {c : Value} {x : DataW H × List MemPlace} (h : DataW.trod enc Tryd.prog W 0 (fun _ => true) hd fuel 28 [c] = some x) : ∃ x : IsIn, IsIs W c x := by
  rcases DataW.trod_slice Tryd.underlying28 h with ⟨hcs, _⟩ | ⟨x', l', c', _, _, _, _, hcs', _⟩
  · simp at hcs
    subst hcs
    exact ⟨⟨none, 0, []⟩, rfl, Nat.le_refl _, Nat.zero_le _, fun _ => ⟨rfl, rfl⟩, Il.nil _ _, fun n h => by cases h⟩
  rcases slice_elems 1 (by decide) Tryd.underlying28 cells3 h with rfl | ⟨a, len, cap, n, hn, rfl, hl, hm, h0⟩
  · simp at hcs'
  · have ha : ¬ a = none := fun e => by simp [e] at hcs'
    rcases h0 with rfl | ⟨g, off, rfl, hg, each⟩
    · exact ⟨⟨a, cap, []⟩, rfl, hl, hm, fun e => absurd e ha, ⟨_, _, rfl, Or.inl rfl⟩, fun n h => by cases h⟩
    · have each2 : ∀ i, i < len → ∃ p : Int, W.cell? ⟨g, off + i, none⟩ = some (.int .i64 p) ∧ In64' p := by
        intro i hi
        obtain ⟨cs, y, hln, hc, ht⟩ := each i hi
        obtain ⟨b, e1, _, w1⟩ := DataW.trod_int Tryd.underlying3 ht
        subst e1
        obtain ⟨v0, e0, e0'⟩ := hc 0 (by decide)
        simp at e0'
        subst e0'
        exact ⟨b, by simpa using e0, wf64 w1⟩
      obtain ⟨l, hll, hl2⟩ := list_of len _ each2
      refine ⟨⟨some ⟨g, off, none⟩, cap, l⟩, by rw [hll], by dsimp only; omega, hm, (fun e => by cases e), ⟨_, _, rfl, Or.inr ⟨g, off, rfl, hg, fun i hi => (hl2 i hi).1⟩⟩, fun n hn => ?_⟩
      obtain ⟨i, hi, rfl⟩ := List.getElem_of_mem hn
      exact (hl2 i hi).2
set_option maxRecDepth 100000 in
theorem open_is {base : Nat} {r : Go.Reach} {v : Value} {d : DataW H} {p : List MemPlace} (ho : Value.okWide Tryd.prog W r base 28 v) (h : DataW.Trod enc Tryd.prog W 0 (fun _ => true) hd 28 v d p) : ∃ x : IsIn, IsIs W v x := by
  obtain ⟨fuel, hf⟩ := h
  obtain ⟨a, l, c, rfl⟩ := okWide_slice Tryd.underlying28 ho
  have hf' : DataW.trod enc Tryd.prog W 0 (fun _ => true) hd fuel 28 [.slice a l c] = some (d, p) := hf
  exact open_is0 hf'
end
end Go.Proofs.YtnpcapdlgcaniaaDoor
