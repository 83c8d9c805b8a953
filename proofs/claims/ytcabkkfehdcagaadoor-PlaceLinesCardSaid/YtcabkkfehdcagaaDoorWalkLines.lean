/- The walk of PlaceLines. -/
import Derived.Test.YtcabkkfehdcagaaDoorWalkOrders
import Derived.Test.YtcabkkfehdcagaaDoorRefAll
import Derived.Test.YtcabkkfehdcagaaDoorPlaceLaw
namespace Go.Proofs.YtcabkkfehdcagaaDoor
open Go.RowKit
set_option linter.unusedVariables false
set_option linter.unusedSimpArgs false

theorem line_yes (s : ByteArray) (hs : s.size ≤ 1000000) (k : Nat) (p : Nat × ByteArray) (h : (linesOf s (s.size + 1) 0)[k]? = some p) (w : World) :
    Calls Tryd.prog 16 #[.string s, .int .i64 ((k : Int) + 1)] w fun e W' => e = .returned (.tuple #[.string p.2, .int .i64 0]) ∧ Below w.heap.size w W' := by
  refine (line_any s hs _ w).mono ?_
  rintro e w' ⟨⟨ys, hp, h1⟩, hB⟩
  refine ⟨?_, hB⟩
  rcases h1 with ⟨ini, last, rfl, hn, rfl⟩ | ⟨hy, hn, -⟩
  · rw [List.map_append] at hp
    have e1 := prefix_at hp
    rw [List.length_map, show ini.length = k by omega, h] at e1
    have : p = last.1 := by injection e1
    rw [this]
  · have := (List.getElem?_eq_some_iff.1 h).1
    rw [← hy, List.length_map] at this
    omega
theorem line_no (s : ByteArray) (hs : s.size ≤ 1000000) (n : Int) (h : n < 1 ∨ ((linesOf s (s.size + 1) 0).length : Int) < n) (w : World) :
    Calls Tryd.prog 16 #[.string s, .int .i64 n] w fun e W' => e = .returned (.tuple #[.string ⟨#[]⟩, .int .i64 10]) ∧ Below w.heap.size w W' := by
  refine (line_any s hs _ w).mono ?_
  rintro e w' ⟨⟨ys, hp, h1⟩, hB⟩
  refine ⟨?_, hB⟩
  rcases h1 with ⟨ini, last, rfl, hn, -⟩ | ⟨hy, hn, rfl⟩
  · have := hp.length_le
    simp at this
    omega
  · rfl
theorem lines_pos (s : ByteArray) : ∀ f k, (linesOf s f k).length ≤ f := by
  intro f
  induction f with
  | zero => intro k; simp [linesOf]
  | succ f ih =>
    intro k
    simp only [linesOf]
    split
    · simp
    · simp only [List.length_cons]
      have := ih (k + ((Lib.indexByte (s.data.toList.drop k) 10).toNat + 1))
      omega

set_option maxRecDepth 100000 in
set_option maxHeartbeats 8000000 in
theorem plines_walk (s : ByteArray) (n : Int) (hl : s.size ≤ 9223372036854775807) (hn0 : -9223372036854775808 ≤ n) (hn1 : n ≤ 9223372036854775807) (w : World) (hT : Tabs w) :
    Calls Tryd.prog 4 #[.string s, .int .i64 n] w fun e w' => e = .returned (.bool true) ∧ Below w.heap.size w w' := by
  have fw := hide (fun w => few_any s hl w)
  have hx : (s.extract 0 (min (s.size : Int) 1000).toNat).size ≤ 1000 := by simp; omega
  generalize s.extract 0 (min (s.size : Int) 1000).toNat = S at *
  have al := hide (fun w => refAll_any S (by omega) w)
  have nl := hide (fun w => nlines_any S (by omega) w)
  have hll := lines_pos S (S.size + 1) 0
  by_cases hv : 1 ≤ n ∧ n ≤ ((linesOf S (S.size + 1) 0).length : Int)
  · obtain ⟨k, rfl⟩ : ∃ k : Nat, n = (k : Int) + 1 := ⟨(n - 1).toNat, by omega⟩
    have hk : k < (linesOf S (S.size + 1) 0).length := by omega
    obtain ⟨p, hp⟩ : ∃ p, (linesOf S (S.size + 1) 0)[k]? = some p := ⟨_, List.getElem?_eq_getElem hk⟩
    have li := hide (fun w => line_yes S (by omega) k p hp w)
    have hpm : ((linesOf S (S.size + 1) 0).map fun p => Value.string p.2)[k]? = some (.string p.2) := by rw [List.getElem?_map, hp]; rfl
    have HP := hide hpm
    have d1 : decide ((k : Int) + 1 < 1) = false := by simp; omega
    have d2 : decide (((linesOf S (S.size + 1) 0).length : Int) < (k : Int) + 1) = false := by simp; omega
    have d3 : decide ((linesOf S (S.size + 1) 0).length < k + 1) = false := by simp; omega
    have h3 : IntKind.i64.wrap ((k : Int) + 1 - 1) = (k : Int) := by rw [IntWalk.i64_in _ (by omega)]; omega
    have h5 : (k : Int) < ((linesOf S (S.size + 1) 0).length : Int) := by omega
    clear hpm hp hv hn0 hn1
    generalize p.2 = t at *
    generalize (linesOf S (S.size + 1) 0).length = L at *
    generalize (linesOf S (S.size + 1) 0).map (fun p => Value.string p.2) = vs at *
    go_enter Tryd.func4, Tryd.ntmps4
    go_wp2_with fail
    refine (fw.out _).mono ?_
    rintro e w1 ⟨rfl, rfl⟩
    go_wp2_with fail
    refine (al.out _).mono ?_
    rintro e w2 ⟨⟨g, cap, rfl, hown⟩, h2B⟩
    have c := own_cell hown k _ HP.out
    have hg := (hown.lt g rfl).2
    have qB := h2B
    clear hown h2B
    go_wp2_with fail
    refine (li.out _).mono ?_
    rintro e w3 ⟨rfl, h3B⟩
    have c := (h3B.cell (p := ⟨g, k, none⟩) hg).trans c
    have hg3 := h3B.size
    have qB := qB.trans (h3B.mono qB.size)
    clear h3B
    go_wp2_with fail
    refine (known_any _ (hT.below qB)).mono ?_
    rintro e w4 ⟨rfl, h4B⟩
    have c := (h4B.cell (p := ⟨g, k, none⟩) (by show g < _; omega)).trans c
    have hg4 := h4B.size
    have qB := qB.trans (h4B.mono qB.size)
    clear h4B
    go_wp2_with fail
    refine (nl.out _).mono ?_
    rintro e w5 ⟨rfl, h5B⟩
    have c := (h5B.cell (p := ⟨g, k, none⟩) (by show g < _; omega)).trans c
    have qB := qB.trans (h5B.mono qB.size)
    clear h5B
    go_wp2_with fail
    go_ret
    exact ⟨rfl, qB⟩
  · have li := hide (fun w => line_no S (by omega) n (by omega) w)
    generalize (linesOf S (S.size + 1) 0).length = L at *
    by_cases h1 : n < 1
    · have d1 : decide (n < 1) = true := by simp [h1]
      clear hv
      go_enter Tryd.func4, Tryd.ntmps4
      go_wp2_with fail
      refine (fw.out _).mono ?_
      rintro e w1 ⟨rfl, rfl⟩
      go_wp2_with fail
      refine (al.out _).mono ?_
      rintro e w2 ⟨⟨g, cap, rfl, hown⟩, h2B⟩
      have qB := h2B
      clear hown h2B
      go_wp2_with fail
      refine (li.out _).mono ?_
      rintro e w3 ⟨rfl, h3B⟩
      have qB := qB.trans (h3B.mono qB.size)
      clear h3B
      go_wp2_with fail
      refine (known_any _ (hT.below qB)).mono ?_
      rintro e w4 ⟨rfl, h4B⟩
      have qB := qB.trans (h4B.mono qB.size)
      clear h4B
      go_wp2_with fail
      refine (nl.out _).mono ?_
      rintro e w5 ⟨rfl, h5B⟩
      have qB := qB.trans (h5B.mono qB.size)
      clear h5B
      go_wp2_with fail
      go_ret
      exact ⟨rfl, qB⟩
    · have h2 : (L : Int) < n := by omega
      have d1 : decide (n < 1) = false := by simp; omega
      have d2 : decide ((L : Int) < n) = true := by simp [h2]
      clear hv
      go_enter Tryd.func4, Tryd.ntmps4
      go_wp2_with fail
      refine (fw.out _).mono ?_
      rintro e w1 ⟨rfl, rfl⟩
      go_wp2_with fail
      refine (al.out _).mono ?_
      rintro e w2 ⟨⟨g, cap, rfl, hown⟩, h2B⟩
      have qB := h2B
      clear hown h2B
      go_wp2_with fail
      refine (li.out _).mono ?_
      rintro e w3 ⟨rfl, h3B⟩
      have qB := qB.trans (h3B.mono qB.size)
      clear h3B
      go_wp2_with fail
      refine (known_any _ (hT.below qB)).mono ?_
      rintro e w4 ⟨rfl, h4B⟩
      have qB := qB.trans (h4B.mono qB.size)
      clear h4B
      go_wp2_with fail
      refine (nl.out _).mono ?_
      rintro e w5 ⟨rfl, h5B⟩
      have qB := qB.trans (h5B.mono qB.size)
      clear h5B
      go_wp2_with fail
      go_ret
      exact ⟨rfl, qB⟩
end Go.Proofs.YtcabkkfehdcagaaDoor
