/- What a row of acts that comes in is; BudgetPlays' law on it. -/
import Derived.Test.YtjghglkeppagaaaWalkPlays
import Derived.WideShapes
import Derived.ChangeArms
import Derived.ChangeSame
import Derived.Deep.Strs
import Derived.ProofKit
import Derived.SizedLaws
import Derived.OpenShut
import Derived.Deep.Slices
namespace Go.Proofs.Ytjghglkeppagaaa
open Go.ChangeShapes Go.WideShapes Go.ChangeAt Go.RowKit
set_option linter.unusedVariables false

def ActsIs (W : World) (v : Value) : Prop := v = .slice none 0 0 ∨ ∃ (a : Addr) (len cap : Nat), v = .slice (some a) len cap ∧ len ≤ cap ∧ cap ≤ 9223372036854775807 ∧
  (len = 0 ∨ ∃ (g off : Nat) (fs : List Act4), a = ⟨g, off, none⟩ ∧ fs.length = min len 200 ∧ g < W.heap.size ∧ ARow W g off fs)

theorem list_of {α : Type} (n : Nat) (p : Nat → α → Prop) (h : ∀ i, i < n → ∃ x, p i x) : ∃ l : List α, l.length = n ∧ ∀ i (hi : i < l.length), p i l[i] := by
  induction n with
  | zero => exact ⟨[], rfl, fun i hi => absurd hi (Nat.not_lt_zero _)⟩
  | succ n ih =>
    obtain ⟨l, hl, hp⟩ := ih (fun i hi => h i (by omega))
    obtain ⟨x, hx⟩ := h n (by omega)
    refine ⟨l ++ [x], by simp [hl], fun i hi => ?_⟩
    by_cases h' : i < l.length
    · rw [List.getElem_append_left h']; exact hp i h'
    · have : i = l.length := by simp at hi; omega
      subst this
      simp only [List.getElem_append_right (Nat.le_refl _), Nat.sub_self, List.getElem_cons_zero]
      rw [hl]; exact hx

theorem cells3 : Try.prog.cellsOf 3 = 1 := by kernel_rfl
theorem cells39 : Try.prog.cellsOf 39 = 4 := by kernel_rfl

section
variable {H : Type} {enc : TypeId × Value → H} {W : World} {base : Nat} {sp : Nat → Bool} {hd : Bool}
/-- The four fields of a struct that came in. -/
theorem fields4 {P : Program} {t : TypeId} {f0 f1 f2 f3 : Field} {fuel : Nat} {cs : List Value} {x : DataW H × List MemPlace} (ht : P.underlying t = some (.struct #[f0, f1, f2, f3])) (h : DataW.trod enc P W base sp hd fuel t cs = some x) :
    ∃ y0 y1 y2 y3 n, cs.length = P.cellsOf t ∧ DataW.trod enc P W base sp hd n f0.type ((cs.drop f0.offset).take (P.cellsOf f0.type)) = some y0 ∧
      DataW.trod enc P W base sp hd n f1.type ((cs.drop f1.offset).take (P.cellsOf f1.type)) = some y1 ∧ DataW.trod enc P W base sp hd n f2.type ((cs.drop f2.offset).take (P.cellsOf f2.type)) = some y2 ∧
      DataW.trod enc P W base sp hd n f3.type ((cs.drop f3.offset).take (P.cellsOf f3.type)) = some y3 := by
  obtain ⟨xs, n, _, rfl, hl, hlen, hf⟩ := DataW.trod_struct ht h
  match xs, hlen with
  | [y0, y1, y2, y3], _ => exact ⟨y0, y1, y2, y3, n, hl, by simpa using hf 0 f0 rfl, by simpa using hf 1 f1 rfl, by simpa using hf 2 f2 rfl, by simpa using hf 3 f3 rfl⟩

set_option maxRecDepth 100000 in
theorem trod_act {fuel : Nat} {cs : List Value} {x : DataW H × List MemPlace} (h : DataW.trod enc Try.prog W base sp hd fuel 39 cs = some x) :
    ∃ (a b c d : Int), cs = [.int .i64 a, .int .i64 b, .int .i64 c, .int .i64 d] := by
  obtain ⟨y0, y1, y2, y3, n, hl, h0, h1, h2, h3⟩ := fields4 Try.underlying39 h
  rw [cells39] at hl
  match cs, hl with
  | [c0, c1, c2, c3], _ =>
    simp only [cells3] at h0 h1 h2 h3
    obtain ⟨a, e0, -, -⟩ := DataW.trod_int Try.underlying3 h0
    obtain ⟨b, e1, -, -⟩ := DataW.trod_int Try.underlying3 h1
    obtain ⟨c, e2, -, -⟩ := DataW.trod_int Try.underlying3 h2
    obtain ⟨d, e3, -, -⟩ := DataW.trod_int Try.underlying3 h3
    simp at e0 e1 e2 e3
    exact ⟨a, b, c, d, by rw [e0, e1, e2, e3]⟩

set_option maxRecDepth 100000 in
theorem open_acts {r : Reach} {v : Value} {d : DataW H} {p : List MemPlace} (ho : Value.okWide Try.prog W r base 35 v) (h : DataW.Trod enc Try.prog W 0 (fun _ => true) hd 35 v d p) : ∃ x : Unit, ActsIs W v := by
  refine ⟨(), ?_⟩
  obtain ⟨a, len, cap, rfl⟩ := okWide_slice Try.underlying35 ho
  obtain ⟨fuel, hf⟩ := h
  rcases Go.Deep.open_slice Try.underlying35 hf with ⟨hcs, _⟩ | ⟨x, l, c, m, n, D, Pl, hcs, _, hl, hm, hmm, _, hx⟩
  · simp [Value.cells] at hcs
    obtain ⟨rfl, rfl, rfl⟩ := hcs
    exact .inl rfl
  · simp [Value.cells] at hcs
    obtain ⟨rfl, rfl, rfl⟩ := hcs
    simp only [if_true] at hmm
    subst hmm
    refine .inr ⟨_, _, _, rfl, hl, hm, ?_⟩
    by_cases h0 : len = 0
    · exact .inl h0
    right
    have each : ∀ i, i < min len 200 → ∃ f : Act4, W.cell? (x.add (i * 4)) = some (.int .i64 f.1) ∧ W.cell? (x.add (i * 4 + 1)) = some (.int .i64 f.2.1) ∧ W.cell? (x.add (i * 4 + 2)) = some (.int .i64 f.2.2.1) ∧ W.cell? (x.add (i * 4 + 3)) = some (.int .i64 f.2.2.2) := by
      intro i hi
      obtain ⟨cs', h1, h2⟩ := hx i (by omega)
      rw [cells39] at h1
      obtain ⟨_, hlen, hcell⟩ := World.cells?_some h1
      obtain ⟨f0, f1, f2, f3, rfl⟩ := trod_act h2
      have e0 := hcell 0 (by omega)
      have e1 := hcell 1 (by omega)
      have e2 := hcell 2 (by omega)
      have e3 := hcell 3 (by omega)
      rw [Go.Deep.add_add] at e0 e1 e2 e3
      exact ⟨(f0, f1, f2, f3), by simpa using e0, by simpa using e1, by simpa using e2, by simpa using e3⟩
    obtain ⟨b, off, spot⟩ := x
    obtain ⟨f, c0, -⟩ := each 0 (by omega)
    have hspot : spot = none := by simpa [Addr.add] using World.cell?_spot c0
    subst hspot
    have hb : b < W.heap.size := by
      have := World.block_lt_of_cell? W _ c0
      simpa [Addr.add] using this
    obtain ⟨fs, hfl, hfs⟩ := list_of (min len 200) _ each
    refine ⟨b, off, fs, rfl, hfl, hb, fun i hi => ?_⟩
    have hadd : ∀ i, (⟨b, off, none⟩ : Addr).add i = ⟨b, off + i, none⟩ := by
      intro i
      unfold Addr.add
      split
      · subst_vars; rfl
      · rfl
    have := hfs i hi
    simp only [hadd] at this
    simpa only [Nat.add_assoc] using this
end

theorem plays_walk (n : Int) (W : World) (v : Value) (w : ActsIs W v) : Calls Try.prog 5 #[.int .i64 n, v] W (fun e W' => e = .returned (.bool true) ∧ Below W.heap.size W W') := by
  rcases w with rfl | ⟨a, len, cap, rfl, hl, hc, rfl | ⟨g, off, fs, rfl, hfl, hg, hr⟩⟩
  · exact plays_nil n W
  · exact plays_zero n a cap hc W
  · exact plays_some n g off cap len fs hl hc hfl W hg hr
end Go.Proofs.Ytjghglkeppagaaa
