/- What a row of faults that comes in is; First's law on it. -/
import Derived.Test.YtcabkkfehdcagaaDoorWalkPlaceFirst
import Derived.Test.YtcabkkfehdcagaaDoorOpens
import Derived.Deep.Slices
namespace Go.Proofs.YtcabkkfehdcagaaDoor
open Go.ChangeShapes Go.WideShapes Go.ChangeAt Go.RowKit
set_option linter.unusedVariables false

set_option maxRecDepth 100000 in
set_option maxHeartbeats 8000000 in
theorem pfirst_zero (a : Addr) (cap : Nat) (h3 : cap ≤ 9223372036854775807) (w : World) (hT : Tabs w) :
    Calls Tryd.prog 7 #[.slice (some a) 0 cap] w fun e w' => e = .returned (.bool true) ∧ Below w.heap.size w w' := by
  have HT := hide hT
  have fr := hide (fun (_ : Unit) => first_none w)
  clear hT
  go_enter Tryd.func7, Tryd.ntmps7
  go_wp2_with fail
  have hm : min (0 : Int) 50 = 0 := by decide
  have hn : (min (0 : Int) 50).toNat = 0 := by decide
  rw [hn, hm]
  clear hm hn
  refine wp_loop_rounds 1 ?_
  rw [rounds_succ]
  go_wp2_with fail
  refine (fr.out ()).mono ?_
  rintro e w1 ⟨rfl, h1B⟩
  have qB := h1B
  have hqs := qB.size
  clear h1B
  go_wp2_with fail
  have a0 := blk_new w1 (Obj.cells #[Value.int IntKind.i64 0, Value.int IntKind.i64 0, Value.int IntKind.i64 0, Value.string { data := #[] }] 33)
  have qA := qB.alloc hqs (Obj.cells #[Value.int IntKind.i64 0, Value.int IntKind.i64 0, Value.int IntKind.i64 0, Value.string { data := #[] }] 33)
  generalize w1.alloc (Obj.cells #[Value.int IntKind.i64 0, Value.int IntKind.i64 0, Value.int IntKind.i64 0, Value.string { data := #[] }] 33) = W6 at *
  refine (known_any _ (HT.out.below qA)).mono ?_
  rintro e w7 ⟨rfl, h7B⟩
  have a0 := (h7B.block w1.heap.size (blk_lt a0)).trans a0
  have c0 := blk_cell a0 0
  have c1 := blk_cell a0 1
  have c2 := blk_cell a0 2
  have c3 := blk_cell a0 3
  have qC := qA.trans (h7B.mono qA.size)
  clear h7B
  go_wp2_with fail
  go_ret
  exact ⟨rfl, qC⟩

def FaultsIs (W : World) (v : Value) : Prop := v = .slice none 0 0 ∨ ∃ (a : Addr) (len cap : Nat), v = .slice (some a) len cap ∧ len ≤ cap ∧ cap ≤ 9223372036854775807 ∧
  (len = 0 ∨ ∃ (g off : Nat) (fs : List F4), a = ⟨g, off, none⟩ ∧ fs.length = min len 50 ∧ g < W.heap.size ∧ FRow W g off fs)

theorem list_of {α : Type} (n : Nat) (p : Nat → α → Prop) (h : ∀ i, i < n → ∃ x, p i x) : ∃ l : List α, l.length = n ∧ ∀ i (hi : i < l.length), p i l[i] := by
  induction n with
  | zero => exact ⟨[], rfl, fun i hi => absurd hi (Nat.not_lt_zero _)⟩
  | succ n ih =>
    obtain ⟨l, hl, hp⟩ := ih (fun i hi => h i (by omega))
    obtain ⟨x, hx⟩ := h n (by omega)
    refine ⟨l ++ [x], by simp [hl], fun i hi => ?_⟩
    by_cases h' : i < l.length
    · rw [List.getElem_append_left h']; exact hp i h'
    · have : i = l.length := by simp at hi; omega
      subst this
      simp only [List.getElem_append_right (Nat.le_refl _), Nat.sub_self, List.getElem_cons_zero]
      rw [hl]; exact hx

section
variable {H : Type} {enc : TypeId × Value → H} {W : World} {base : Nat} {hd : Bool}
set_option maxRecDepth 100000 in
theorem open_faults {r : Reach} {v : Value} {d : DataW H} {p : List MemPlace} (ho : Value.okWide Tryd.prog W r base 56 v) (h : DataW.Trod enc Tryd.prog W 0 (fun _ => true) hd 56 v d p) : ∃ x : Unit, FaultsIs W v := by
  refine ⟨(), ?_⟩
  obtain ⟨a, len, cap, rfl⟩ := okWide_slice Tryd.underlying56 ho
  obtain ⟨fuel, hf⟩ := h
  rcases Go.Deep.open_slice Tryd.underlying56 hf with ⟨hcs, _⟩ | ⟨x, l, c, m, n, D, Pl, hcs, _, hl, hm, hmm, _, hx⟩
  · simp [Value.cells] at hcs
    obtain ⟨rfl, rfl, rfl⟩ := hcs
    exact .inl rfl
  · simp [Value.cells] at hcs
    obtain ⟨rfl, rfl, rfl⟩ := hcs
    simp only [if_true] at hmm
    subst hmm
    refine .inr ⟨_, _, _, rfl, hl, hm, ?_⟩
    by_cases h0 : len = 0
    · exact .inl h0
    right
    have each : ∀ i, i < min len 50 → ∃ f : F4, W.cell? (x.add (i * 4)) = some (.int .i64 f.1) ∧ W.cell? (x.add (i * 4 + 1)) = some (.int .i64 f.2.1) ∧ W.cell? (x.add (i * 4 + 2)) = some (.int .i64 f.2.2.1) ∧ W.cell? (x.add (i * 4 + 3)) = some (.string f.2.2.2) := by
      intro i hi
      obtain ⟨cs', h1, h2⟩ := hx i (by omega)
      rw [cells25] at h1
      obtain ⟨_, hlen, hcell⟩ := World.cells?_some h1
      obtain ⟨f0, f1, f2, f3, rfl, -⟩ := trod_fault h2
      have e0 := hcell 0 (by omega)
      have e1 := hcell 1 (by omega)
      have e2 := hcell 2 (by omega)
      have e3 := hcell 3 (by omega)
      rw [Go.Deep.add_add] at e0 e1 e2 e3
      exact ⟨(f0, f1, f2, f3), by simpa using e0, by simpa using e1, by simpa using e2, by simpa using e3⟩
    obtain ⟨b, off, spot⟩ := x
    obtain ⟨f, c0, -⟩ := each 0 (by omega)
    have hspot : spot = none := by simpa [Addr.add] using World.cell?_spot c0
    subst hspot
    have hb : b < W.heap.size := by
      have := World.block_lt_of_cell? W _ c0
      simpa [Addr.add] using this
    obtain ⟨fs, hfl, hfs⟩ := list_of (min len 50) _ each
    refine ⟨b, off, fs, rfl, hfl, hb, fun i hi => ?_⟩
    have hadd : ∀ i, (⟨b, off, none⟩ : Addr).add i = ⟨b, off + i, none⟩ := by
      intro i
      unfold Addr.add
      split
      · subst_vars; rfl
      · rfl
    have := hfs i hi
    simp only [hadd] at this
    simpa only [Nat.add_assoc] using this
end

theorem pfirst_walk (W : World) (hT : Tabs W) (v : Value) (w : FaultsIs W v) : Calls Tryd.prog 7 #[v] W (fun e W' => e = .returned (.bool true) ∧ Below W.heap.size W W') := by
  rcases w with rfl | ⟨a, len, cap, rfl, hl, hc, rfl | ⟨g, off, fs, rfl, hfl, hg, hr⟩⟩
  · exact pfirst_nil W hT
  · exact pfirst_zero a cap hc W hT
  · exact pfirst_some g off cap len fs hl hc hfl W hg hr hT
end Go.Proofs.YtcabkkfehdcagaaDoor
