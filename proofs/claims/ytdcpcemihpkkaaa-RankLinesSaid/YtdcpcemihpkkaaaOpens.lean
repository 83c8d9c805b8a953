/- What the document's rank and a row of pairs that come in are. -/
import Derived.Test.YtdcpcemihpkkaaaTo
import Derived.WideShapes
import Derived.ChangeArms
import Derived.ChangeSame
import Derived.Deep.Strs
import Derived.ProofKit
import Derived.SizedLaws
import Derived.OpenShut
import Derived.Deep.Slices
namespace Go.Proofs.Ytdcpcemihpkkaaa
open Go.ChangeShapes Go.WideShapes Go.ChangeAt Go.RowKit
set_option linter.unusedVariables false

/-- A row of pairs that comes in. -/
def PairsIs (W : World) (a : Option Addr) (l c : Nat) (xs : List (Int × Int)) : Prop :=
  l = xs.length ∧ l ≤ c ∧ c ≤ maxLen ∧ (∀ s ∈ xs, In64 s.1 ∧ In64 s.2) ∧ IRow W W.heap.size (.slice a l c) xs
/-- The document's rank. -/
structure RefIn where
  N : Int
  pa : Option Addr
  pl : Nat
  pc : Nat
  sa : Option Addr
  sl : Nat
  sc : Nat
  rp : List (Int × Int)
  rs : List (Int × Int)
def RefIs (W : World) (v : Value) (r : RefIn) : Prop :=
  v = .agg #[.int .i64 r.N, .slice r.pa r.pl r.pc, .slice r.sa r.sl r.sc] ∧ In64 r.N ∧ PairsIs W r.pa r.pl r.pc r.rp ∧ PairsIs W r.sa r.sl r.sc r.rs

theorem list_of {α : Type} (n : Nat) (p : Nat → α → Prop) (h : ∀ i, i < n → ∃ x, p i x) : ∃ l : List α, l.length = n ∧ ∀ i (hi : i < l.length), p i l[i] := by
  induction n with
  | zero => exact ⟨[], rfl, fun i hi => absurd hi (Nat.not_lt_zero _)⟩
  | succ n ih =>
    obtain ⟨l, hl, hp⟩ := ih (fun i hi => h i (by omega))
    obtain ⟨x, hx⟩ := h n (by omega)
    refine ⟨l ++ [x], by simp [hl], fun i hi => ?_⟩
    by_cases h' : i < l.length
    · rw [List.getElem_append_left h']; exact hp i h'
    · have : i = l.length := by simp at hi; omega
      subst this
      simp only [List.getElem_append_right (Nat.le_refl _), Nat.sub_self, List.getElem_cons_zero]
      rw [hl]; exact hx

theorem cells3 : Try.prog.cellsOf 3 = 1 := by kernel_rfl
theorem cells22 : Try.prog.cellsOf 22 = 1 := by kernel_rfl
theorem cells23 : Try.prog.cellsOf 23 = 1 := by kernel_rfl
theorem cells43 : Try.prog.cellsOf 43 = 2 := by kernel_rfl
theorem cells51 : Try.prog.cellsOf 51 = 2 := by kernel_rfl
theorem cells25 : Try.prog.cellsOf 25 = 3 := by kernel_rfl

theorem addr_off (b off i : Nat) : (⟨b, off, none⟩ : Addr).add i = ⟨b, off + i, none⟩ := by
  unfold Addr.add
  split
  · subst_vars; rfl
  · rfl

section
variable {H : Type} {enc : TypeId × Value → H} {W : World} {base : Nat} {hd : Bool}

/-- Two numbers. -/
def Two (e : TypeId) : Prop := ∀ {H : Type} {enc : TypeId × Value → H} {W : World} {base : Nat} {hd : Bool} {fuel : Nat} {cs : List Value} {x : DataW H × List MemPlace},
  DataW.trod enc Try.prog W base (fun _ => true) hd fuel e cs = some x → ∃ a b : Int, cs = [.int .i64 a, .int .i64 b] ∧ In64 a ∧ In64 b

set_option maxRecDepth 100000 in
theorem two43 : Two 43 := by
  intro H enc W base hd fuel cs x h
  obtain ⟨xs, m, _, _, hl, _, hf⟩ := DataW.trod_array Try.underlying43 h
  rw [cells43] at hl
  match cs, hl with
  | [c0, c1], _ =>
    have h0 := hf 0 (by decide)
    have h1 := hf 1 (by decide)
    simp only [cells3] at h0 h1
    have hx0 : ∃ y, xs[0]? = some y := ⟨xs[0], by simp⟩
    have hx1 : ∃ y, xs[1]? = some y := ⟨xs[1], by simp⟩
    obtain ⟨y0, e0⟩ := hx0
    obtain ⟨y1, e1⟩ := hx1
    rw [e0] at h0
    rw [e1] at h1
    obtain ⟨a, e0, _, w0⟩ := DataW.trod_int Try.underlying3 h0
    obtain ⟨b, e1, _, w1⟩ := DataW.trod_int Try.underlying3 h1
    simp at e0 e1
    exact ⟨a, b, by rw [e0, e1], w0, w1⟩

set_option maxRecDepth 100000 in
theorem two51 : Two 51 := by
  intro H enc W base hd fuel cs x h
  obtain ⟨xs, m, _, _, hl, hxl, hf⟩ := DataW.trod_struct Try.underlying51 h
  rw [cells51] at hl
  match cs, hl with
  | [c0, c1], _ =>
    have h0 : DataW.trod enc Try.prog W base (fun _ => true) hd m 3 (([c0, c1].drop 0).take (Try.prog.cellsOf 3)) = xs[0]? := hf 0 _ rfl
    have h1 : DataW.trod enc Try.prog W base (fun _ => true) hd m 3 (([c0, c1].drop 1).take (Try.prog.cellsOf 3)) = xs[1]? := hf 1 _ rfl
    simp only [cells3] at h0 h1
    have hl2 : xs.length = 2 := hxl
    have hx0 : ∃ y, xs[0]? = some y := ⟨xs[0], by simp⟩
    have hx1 : ∃ y, xs[1]? = some y := ⟨xs[1], by simp⟩
    obtain ⟨y0, e0⟩ := hx0
    obtain ⟨y1, e1⟩ := hx1
    rw [e0] at h0
    rw [e1] at h1
    obtain ⟨a, e0, _, w0⟩ := DataW.trod_int Try.underlying3 h0
    obtain ⟨b, e1, _, w1⟩ := DataW.trod_int Try.underlying3 h1
    simp at e0 e1
    exact ⟨a, b, by rw [e0, e1], w0, w1⟩

set_option maxRecDepth 100000 in
theorem trod_pairs {t e : TypeId} (ht : Try.prog.underlying t = some (.slice e)) (he : Try.prog.cellsOf e = 2) (h2 : Two e) {fuel : Nat} {c : Value} {x : DataW H × List MemPlace} (h : DataW.trod enc Try.prog W base (fun _ => true) hd fuel t [c] = some x) :
    ∃ (a : Option Addr) (len cap : Nat) (xs : List (Int × Int)), c = .slice a len cap ∧ PairsIs W a len cap xs := by
  rcases Go.Deep.open_slice ht h with ⟨hcs, _⟩ | ⟨x, l, c', m, n, D, Pl, hcs, _, hl, hm, hmm, _, hx⟩
  · simp at hcs
    exact ⟨none, 0, 0, [], hcs, rfl, Nat.le_refl _, Nat.zero_le _, fun s hs => (by cases hs), ⟨none, 0, rfl, Or.inl rfl⟩⟩
  · simp at hcs
    simp only [if_true] at hmm
    subst hmm
    by_cases h0 : l = 0
    · subst h0
      exact ⟨some x, 0, _, [], hcs, rfl, hl, hm, fun s hs => (by cases hs), ⟨_, _, rfl, Or.inl rfl⟩⟩
    have each : ∀ i, i < l → ∃ f : Int × Int, (W.cell? (x.add (i * 2)) = some (.int .i64 f.1) ∧ W.cell? (x.add (i * 2 + 1)) = some (.int .i64 f.2)) ∧ In64 f.1 ∧ In64 f.2 := by
      intro i hi
      obtain ⟨cs', h1, h3⟩ := hx i (by omega)
      rw [he] at h1
      obtain ⟨_, hlen, hcell⟩ := World.cells?_some h1
      obtain ⟨a, b, rfl, wa, wb⟩ := h2 h3
      have e0 := hcell 0 (by omega)
      have e1 := hcell 1 (by omega)
      rw [Go.Deep.add_add] at e0 e1
      exact ⟨(a, b), ⟨by simpa using e0, by simpa using e1⟩, wa, wb⟩
    obtain ⟨b, off, spot⟩ := x
    obtain ⟨f, ⟨c0, -⟩, -⟩ := each 0 (by omega)
    have hspot : spot = none := by simpa [Addr.add] using World.cell?_spot c0
    subst hspot
    have hb : b < W.heap.size := by
      have := World.block_lt_of_cell? W _ c0
      simpa [Addr.add] using this
    obtain ⟨fs, hfl, hfs⟩ := list_of l _ each
    refine ⟨some ⟨b, off, none⟩, l, _, fs, hcs, hfl.symm, hl, hm, fun s hs => ?_, ⟨_, _, by rw [hfl], Or.inr ⟨b, off, rfl, hb, fun i hi => ?_⟩⟩⟩
    · obtain ⟨i, hi, rfl⟩ := List.getElem_of_mem hs
      exact (hfs i hi).2
    · have := (hfs i hi).1
      rw [addr_off, addr_off, ← Nat.add_assoc] at this
      exact this

set_option maxRecDepth 100000 in
theorem open_ref {r : Go.Reach} {v : Value} {d : DataW H} {p : List MemPlace} (ho : Value.okWide Try.prog W r base 25 v) (h : DataW.Trod enc Try.prog W 0 (fun _ => true) hd 25 v d p) : ∃ x : RefIn, RefIs W v x := by
  obtain ⟨cs, rfl, hcs⟩ := okWide_struct Try.underlying25 ho
  obtain ⟨fuel, hf⟩ := h
  obtain ⟨y0, y1, y2, n, hx, hl, h0, h1, h2⟩ := Go.Deep.trod_struct3 Try.underlying25 hf
  have hl' : cs.toList.length = 3 := by
    rw [cells25] at hl
    simpa [Value.cells] using hl
  obtain ⟨l⟩ := cs
  match l, hl' with
  | [c0, c1, c2], _ =>
    simp only [cells3, cells22, cells23] at h0 h1 h2
    obtain ⟨N, e0, -, w0⟩ := DataW.trod_int Try.underlying3 h0
    have h1' : DataW.trod enc Try.prog W 0 (fun _ => true) hd n 22 [c1] = some y1 := h1
    have h2' : DataW.trod enc Try.prog W 0 (fun _ => true) hd n 23 [c2] = some y2 := h2
    obtain ⟨pa, pl, pc, rp, e1, q1⟩ := trod_pairs Try.underlying22 cells43 two43 h1'
    obtain ⟨sa, sl, sc, rs, e2, q2⟩ := trod_pairs Try.underlying23 cells51 two51 h2'
    have e0' : c0 = .int .i64 N := by simpa [Value.cells] using e0
    exact ⟨⟨N, pa, pl, pc, sa, sl, sc, rp, rs⟩, by rw [e0', e1, e2], w0, q1, q2⟩

set_option maxRecDepth 100000 in
theorem open_pairs {r : Go.Reach} {v : Value} {d : DataW H} {p : List MemPlace} (ho : Value.okWide Try.prog W r base 22 v) (h : DataW.Trod enc Try.prog W 0 (fun _ => true) hd 22 v d p) : ∃ x : List (Int × Int), ∃ a l c, v = .slice a l c ∧ PairsIs W a l c x := by
  obtain ⟨a, len, cap, rfl⟩ := okWide_slice Try.underlying22 ho
  obtain ⟨fuel, hf⟩ := h
  have hf' : DataW.trod enc Try.prog W 0 (fun _ => true) hd fuel 22 [.slice a len cap] = some (d, p) := hf
  obtain ⟨a', l', c', xs, e, q⟩ := trod_pairs Try.underlying22 cells43 two43 hf'
  exact ⟨xs, a', l', c', e, q⟩
end
end Go.Proofs.Ytdcpcemihpkkaaa
