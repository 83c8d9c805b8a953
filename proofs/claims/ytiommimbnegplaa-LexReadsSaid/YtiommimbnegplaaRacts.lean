/- What a row of acts on a reader that comes in is; LexReads' law on it. -/
import Derived.Test.YtiommimbnegplaaWalkReads
import Derived.WideShapes
import Derived.ChangeArms
import Derived.ChangeSame
import Derived.Deep.Strs
import Derived.ProofKit
import Derived.SizedLaws
import Derived.OpenShut
import Derived.Deep.Slices
namespace Go.Proofs.Ytiommimbnegplaa
open Go.ChangeShapes Go.WideShapes Go.ChangeAt Go.RowKit
set_option linter.unusedVariables false

def RactsIs (W : World) (v : Value) : Prop := v = .slice none 0 0 ∨ ∃ (a : Addr) (len cap : Nat), v = .slice (some a) len cap ∧ len ≤ cap ∧ cap ≤ 9223372036854775807 ∧
  (len = 0 ∨ ∃ (g off : Nat) (fs : List RAct), a = ⟨g, off, none⟩ ∧ fs.length = min len 60 ∧ g < W.heap.size ∧ RRow W g off fs)

theorem list_of {α : Type} (n : Nat) (p : Nat → α → Prop) (h : ∀ i, i < n → ∃ x, p i x) : ∃ l : List α, l.length = n ∧ ∀ i (hi : i < l.length), p i l[i] := by
  induction n with
  | zero => exact ⟨[], rfl, fun i hi => absurd hi (Nat.not_lt_zero _)⟩
  | succ n ih =>
    obtain ⟨l, hl, hp⟩ := ih (fun i hi => h i (by omega))
    obtain ⟨x, hx⟩ := h n (by omega)
    refine ⟨l ++ [x], by simp [hl], fun i hi => ?_⟩
    by_cases h' : i < l.length
    · rw [List.getElem_append_left h']; exact hp i h'
    · have : i = l.length := by simp at hi; omega
      subst this
      simp only [List.getElem_append_right (Nat.le_refl _), Nat.sub_self, List.getElem_cons_zero]
      rw [hl]; exact hx

theorem cells3 : Try.prog.cellsOf 3 = 1 := by kernel_rfl
theorem cells9 : Try.prog.cellsOf 9 = 1 := by kernel_rfl
theorem cells55 : Try.prog.cellsOf 55 = 1 := by kernel_rfl
theorem cells57 : Try.prog.cellsOf 57 = 3 := by kernel_rfl

theorem addr_off (b off i : Nat) : (⟨b, off, none⟩ : Addr).add i = ⟨b, off + i, none⟩ := by
  unfold Addr.add
  split
  · subst_vars; rfl
  · rfl

section
variable {H : Type} {enc : TypeId × Value → H} {W : World} {base : Nat} {sp : Nat → Bool} {hd : Bool}

set_option maxRecDepth 100000 in
/-- The texts of an act: nil, or a row of strings that lies in an old block. -/
theorem trod_texts {fuel : Nat} {c : Value} {x : DataW H × List MemPlace} (h : DataW.trod enc Try.prog W base (fun _ => true) hd fuel 55 [c] = some x) :
    ∃ (a : Option Addr) (len cap : Nat) (xs : List ByteArray), c = .slice a len cap ∧ len ≤ cap ∧ cap ≤ 9223372036854775807 ∧ (a = none → len = 0 ∧ cap = 0) ∧ xs.length = min len 5 ∧ Txs W W.heap.size a xs := by
  rcases Go.Deep.open_slice Try.underlying55 h with ⟨hcs, _⟩ | ⟨x, l, c', m, n, D, Pl, hcs, _, hl, hm, hmm, _, hx⟩
  · simp at hcs
    exact ⟨none, 0, 0, [], hcs, Nat.le_refl _, by omega, fun _ => ⟨rfl, rfl⟩, rfl, Or.inl rfl⟩
  · simp at hcs
    simp only [if_true] at hmm
    subst hmm
    by_cases h0 : l = 0
    · subst h0
      exact ⟨some x, 0, _, [], hcs, hl, hm, (fun e => by cases e), rfl, Or.inl rfl⟩
    have each : ∀ i, i < min l 5 → ∃ f : ByteArray, W.cell? (x.add i) = some (.string f) := by
      intro i hi
      obtain ⟨cs', h1, h2⟩ := hx i (by omega)
      rw [cells9] at h1
      obtain ⟨_, hlen, hcell⟩ := World.cells?_some h1
      obtain ⟨f, rfl, -, -⟩ := DataW.trod_string Try.underlying9 h2
      have e0 := hcell 0 (by omega)
      rw [Go.Deep.add_add] at e0
      exact ⟨f, by simpa using e0⟩
    obtain ⟨b, off, spot⟩ := x
    obtain ⟨f, c0⟩ := each 0 (by omega)
    have hspot : spot = none := by simpa [Addr.add] using World.cell?_spot c0
    subst hspot
    have hb : b < W.heap.size := by
      have := World.block_lt_of_cell? W _ c0
      simpa [Addr.add] using this
    obtain ⟨fs, hfl, hfs⟩ := list_of (min l 5) _ each
    refine ⟨some ⟨b, off, none⟩, l, _, fs, hcs, hl, hm, fun e => (by cases e), hfl, Or.inr ⟨b, off, rfl, hb, fun i hi => ?_⟩⟩
    have := hfs i hi
    rw [addr_off] at this
    exact this

set_option maxRecDepth 100000 in
theorem trod_ract {fuel : Nat} {cs : List Value} {x : DataW H × List MemPlace} (h : DataW.trod enc Try.prog W base (fun _ => true) hd fuel 57 cs = some x) :
    ∃ f : RAct, cs = [.int .i64 f.kind, .int .i64 f.n, .slice f.a f.len f.cap] ∧ RActOk W f := by
  obtain ⟨y0, y1, y2, n, hx, hl, h0, h1, h2⟩ := Go.Deep.trod_struct3 Try.underlying57 h
  rw [cells57] at hl
  match cs, hl with
  | [c0, c1, c2], _ =>
    simp only [cells3, cells55] at h0 h1 h2
    obtain ⟨a, e0, -, -⟩ := DataW.trod_int Try.underlying3 h0
    obtain ⟨b, e1, -, -⟩ := DataW.trod_int Try.underlying3 h1
    have h2' : DataW.trod enc Try.prog W base (fun _ => true) hd n 55 [c2] = some y2 := h2
    obtain ⟨ta, len, cap, xs, e2, q1, q2, q3, q4, q5⟩ := trod_texts h2'
    simp at e0 e1
    exact ⟨⟨a, b, ta, len, cap, xs⟩, by rw [e0, e1, e2], q1, q2, q3, q4, q5⟩

set_option maxRecDepth 100000 in
theorem open_racts {r : Reach} {v : Value} {d : DataW H} {p : List MemPlace} (ho : Value.okWide Try.prog W r base 49 v) (h : DataW.Trod enc Try.prog W 0 (fun _ => true) hd 49 v d p) : ∃ x : Unit, RactsIs W v := by
  refine ⟨(), ?_⟩
  obtain ⟨a, len, cap, rfl⟩ := okWide_slice Try.underlying49 ho
  obtain ⟨fuel, hf⟩ := h
  rcases Go.Deep.open_slice Try.underlying49 hf with ⟨hcs, _⟩ | ⟨x, l, c, m, n, D, Pl, hcs, _, hl, hm, hmm, _, hx⟩
  · simp [Value.cells] at hcs
    obtain ⟨rfl, rfl, rfl⟩ := hcs
    exact .inl rfl
  · simp [Value.cells] at hcs
    obtain ⟨rfl, rfl, rfl⟩ := hcs
    simp only [if_true] at hmm
    subst hmm
    refine .inr ⟨_, _, _, rfl, hl, hm, ?_⟩
    by_cases h0 : len = 0
    · exact .inl h0
    right
    have each : ∀ i, i < min len 60 → ∃ f : RAct, W.cell? (x.add (i * 3)) = some (.int .i64 f.kind) ∧ W.cell? (x.add (i * 3 + 1)) = some (.int .i64 f.n) ∧ W.cell? (x.add (i * 3 + 2)) = some (.slice f.a f.len f.cap) ∧ RActOk W f := by
      intro i hi
      obtain ⟨cs', h1, h2⟩ := hx i (by omega)
      rw [cells57] at h1
      obtain ⟨_, hlen, hcell⟩ := World.cells?_some h1
      obtain ⟨f, rfl, hok⟩ := trod_ract h2
      have e0 := hcell 0 (by omega)
      have e1 := hcell 1 (by omega)
      have e2 := hcell 2 (by omega)
      rw [Go.Deep.add_add] at e0 e1 e2
      exact ⟨f, by simpa using e0, by simpa using e1, by simpa using e2, hok⟩
    obtain ⟨b, off, spot⟩ := x
    obtain ⟨f, c0, -⟩ := each 0 (by omega)
    have hspot : spot = none := by simpa [Addr.add] using World.cell?_spot c0
    subst hspot
    have hb : b < W.heap.size := by
      have := World.block_lt_of_cell? W _ c0
      simpa [Addr.add] using this
    obtain ⟨fs, hfl, hfs⟩ := list_of (min len 60) _ each
    refine ⟨b, off, fs, rfl, hfl, hb, fun i hi => ?_⟩
    have := hfs i hi
    simp only [addr_off] at this
    simpa only [Nat.add_assoc] using this
end

theorem reads_walk (s : ByteArray) (hs : s.size ≤ 9223372036854775807) (W : World) (v : Value) (w : RactsIs W v) : Calls Try.prog 6 #[.string s, v] W (fun e W' => e = .returned (.bool true) ∧ Below W.heap.size W W') := by
  rcases w with rfl | ⟨a, len, cap, rfl, hl, hc, rfl | ⟨g, off, fs, rfl, hfl, hg, hr⟩⟩
  · exact reads_nil s hs W
  · exact reads_zero s hs a cap hc W
  · exact reads_some s hs g off cap len fs hl hc hfl W hg hr
end Go.Proofs.Ytiommimbnegplaa
