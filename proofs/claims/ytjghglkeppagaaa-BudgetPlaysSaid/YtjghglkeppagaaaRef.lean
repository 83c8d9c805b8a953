/- Contracts of the document's budget (package filigreeref02). -/
import Derived.Test.YtjghglkeppagaaaBase
namespace Go.Proofs.Ytjghglkeppagaaa
open Go.RowKit

/-- The block b holds the document's budget. -/
def RB (w : World) (b : Nat) (l u : Int) (d : Bool) : Prop :=
  w.heap[b]? = some (.cells #[.int .i64 l, .int .i64 u, .bool d] 63)

theorem RB.cell {w : World} {b : Nat} {l u : Int} {d : Bool} (h : RB w b l u d) (i : Nat) :
    w.cell? ⟨b, i, none⟩ = (#[.int .i64 l, .int .i64 u, .bool d] : Array Value)[i]? := by
  unfold RB at h
  simp [World.cell?, h]

theorem RB.free {w : World} {b : Nat} {l u : Int} {d : Bool} (h : RB w b l u d) (i : Nat) : w.frozen? ⟨b, i, none⟩ = false := by
  unfold RB at h
  simp [World.frozen?, h]

theorem RB.lt {w : World} {b : Nat} {l u : Int} {d : Bool} (h : RB w b l u d) : b < w.heap.size := (Array.getElem?_eq_some_iff.1 h).1

theorem RB.kept {w w' : World} {b : Nat} {l u : Int} {d : Bool} (h : RB w b l u d) {r : Nat} (g : w.grownBy w' (some r)) (hne : b ≠ r) : RB w' b l u d := by
  unfold RB
  rw [g.block b h.lt (fun e => hne (by injection e))]
  exact h

/-- the three numbers are written -/
theorem RB.set0 {w : World} {b : Nat} {l u : Int} {d : Bool} (h : RB w b l u d) (x : Int) :
    RB (w.setCell ⟨b, 0, none⟩ (.int .i64 x)) b x u d := setCell_at h 0 _
theorem RB.set1 {w : World} {b : Nat} {l u : Int} {d : Bool} (h : RB w b l u d) (x : Int) :
    RB (w.setCell ⟨b, 1, none⟩ (.int .i64 x)) b l x d := setCell_at h 1 _
theorem RB.set2 {w : World} {b : Nat} {l u : Int} {d : Bool} (h : RB w b l u d) (x : Bool) :
    RB (w.setCell ⟨b, 2, none⟩ (.bool x)) b l u x := setCell_at h 2 _
theorem RB.drew {w : World} {b : Nat} {l u : Int} {d : Bool} (h : RB w b l u d) : RB w.drew b l u d := h

theorem refNew (n : Int) (w : World) :
    Calls Try.prog 9 #[.int .i64 n] w fun e w' => e = .returned (.pointer (some ⟨w.heap.size, 0, none⟩)) ∧ w' = w.alloc (.cells #[.int .i64 (max n 0), .int .i64 0, .bool false] 63) := by
  by_cases h : n < 0
  · have e : max n 0 = 0 := by omega
    rw [e]
    go_enter Try.func9, Try.ntmps9
    go_wp2_with fail
    go_ret
    exact ⟨rfl, rfl⟩
  · have e : max n 0 = n := by omega
    rw [e]
    clear e
    go_enter Try.func9, Try.ntmps9
    go_wp2_with fail
    go_ret
    exact ⟨rfl, rfl⟩

theorem refSpend_neg (b : Nat) (n : Int) (w : World) (hn : n < 0) :
    Calls Try.prog 10 #[.pointer (some ⟨b, 0, none⟩), .int .i64 n] w fun e w' => e = .returned (.bool false) ∧ w = w' := by
  go_enter Try.func10, Try.ntmps10
  go_wp2_with fail
  go_ret
  exact ⟨rfl, rfl⟩

theorem refSpend_yes (b : Nat) (l u n : Int) (w : World) (h : RB w b l u false) (hn : 0 ≤ n) (hl : n ≤ l) (hb : l ≤ 1000000000) (hu : -1000000000000 ≤ u ∧ u ≤ 1000000000000) :
    Calls Try.prog 10 #[.pointer (some ⟨b, 0, none⟩), .int .i64 n] w fun e w' => e = .returned (.bool true) ∧ RB w' b (l - n) (u + n) false ∧ w.grownBy w' (some b) := by
  have c0 := h.cell 0
  have c1 := h.cell 1
  have c2 := h.cell 2
  have f0 := h.free 0
  have f1 := h.free 1
  have f2 := h.free 2
  have hh := ((h.set0 (l - n)).set1 (u + n))
  have hg := grownBy_trans (grownBy_setCell w ⟨b, 0, none⟩ (.int .i64 (l - n))) (grownBy_setCell _ ⟨b, 1, none⟩ (.int .i64 (u + n)))
  clear h
  obtain ⟨hu1, hu2⟩ := hu
  go_enter Try.func10, Try.ntmps10
  go_wp2_with fail
  go_ret
  exact ⟨rfl, hh, hg⟩

theorem refSpend_no (b : Nat) (l u n : Int) (d : Bool) (w : World) (h : RB w b l u d) (hn : 0 ≤ n) (hl : d = true ∨ l < n) (hl0 : 0 ≤ l) (hb : l ≤ 1000000000) (hu : -1000000000000 ≤ u ∧ u ≤ 1000000000000) :
    Calls Try.prog 10 #[.pointer (some ⟨b, 0, none⟩), .int .i64 n] w fun e w' => e = .returned (.bool false) ∧ RB w' b 0 (u + l) true ∧ w.grownBy w' (some b) := by
  have hn' : ¬ n < 0 := by omega
  have c0 := h.cell 0
  have c1 := h.cell 1
  have f0 := h.free 0
  have f1 := h.free 1
  have f2 := h.free 2
  have hh := ((h.set1 (u + l)).set0 0).set2 true
  have hg := grownBy_trans (grownBy_trans (grownBy_setCell w ⟨b, 1, none⟩ (.int .i64 (u + l))) (grownBy_setCell _ ⟨b, 0, none⟩ (.int .i64 0))) (grownBy_setCell _ ⟨b, 2, none⟩ (.bool true))
  obtain ⟨hu1, hu2⟩ := hu
  cases d
  · have hl' : l < n := by rcases hl with hl | hl; cases hl; exact hl
    have c2 := h.cell 2
    clear h hl
    go_enter Try.func10, Try.ntmps10
    go_wp2_with fail
    go_region
    all_goals go_wp2_with fail
    all_goals (go_ret; exact ⟨rfl, hh, grownBy_drew hg⟩)
  · have c2 := h.cell 2
    clear h hl
    go_enter Try.func10, Try.ntmps10
    go_wp2_with fail
    go_region
    all_goals go_wp2_with fail
    all_goals (go_ret; exact ⟨rfl, hh, grownBy_drew hg⟩)

/-- how many of what is left may be split off -/
def cut (n l : Int) : Int := min (max n 0) l

theorem refSplit (b : Nat) (l u n : Int) (d : Bool) (w : World) (h : RB w b l u d) (hl0 : 0 ≤ l) (hb : l ≤ 1000000000) (hu : -1000000000000 ≤ u ∧ u ≤ 1000000000000) :
    Calls Try.prog 19 #[.pointer (some ⟨b, 0, none⟩), .int .i64 n] w fun e w' => e = .returned (.pointer (some ⟨w.heap.size, 0, none⟩)) ∧ RB w' b (l - cut n l) (u + cut n l) d ∧ RB w' w.heap.size (cut n l) 0 false ∧ w.grownBy w' (some b) := by
  have c0 := h.cell 0
  have c1 := h.cell 1
  have f0 := h.free 0
  have f1 := h.free 1
  obtain ⟨hu1, hu2⟩ := hu
  have hlt := h.lt
  have key : ∀ m : Int, RB (((w.setCell ⟨b, 0, none⟩ (.int .i64 (l - m))).setCell ⟨b, 1, none⟩ (.int .i64 (u + m))).alloc (.cells #[.int .i64 m, .int .i64 0, .bool false] 63)) b (l - m) (u + m) d ∧
      RB (((w.setCell ⟨b, 0, none⟩ (.int .i64 (l - m))).setCell ⟨b, 1, none⟩ (.int .i64 (u + m))).alloc (.cells #[.int .i64 m, .int .i64 0, .bool false] 63)) w.heap.size m 0 false ∧
      w.grownBy (((w.setCell ⟨b, 0, none⟩ (.int .i64 (l - m))).setCell ⟨b, 1, none⟩ (.int .i64 (u + m))).alloc (.cells #[.int .i64 m, .int .i64 0, .bool false] 63)) (some b) := by
    intro m
    have h2 := ((h.set0 (l - m)).set1 (u + m))
    have hg := grownBy_trans (grownBy_setCell w ⟨b, 0, none⟩ (.int .i64 (l - m))) (grownBy_setCell _ ⟨b, 1, none⟩ (.int .i64 (u + m)))
    refine ⟨?_, ?_, grownBy_trans hg (World.grownBy_alloc _ _ _)⟩
    · unfold RB
      rw [Below.heap_alloc _ _ _ h2.lt]
      exact h2
    · have := heap_alloc_new ((w.setCell ⟨b, 0, none⟩ (.int .i64 (l - m))).setCell ⟨b, 1, none⟩ (.int .i64 (u + m))) (.cells #[.int .i64 m, .int .i64 0, .bool false] 63)
      simpa [RB] using this
  by_cases h1 : n < 0
  · have e : cut n l = 0 := by unfold cut; omega
    have k := key 0
    rw [e]
    have e1 : l - 0 = l := by omega
    have e2 : u + 0 = u := by omega
    rw [e1, e2] at k ⊢
    have hnl : ¬ (l < 0) := by omega
    clear e e1 e2 key h
    go_enter Try.func19, Try.ntmps19
    go_wp2_with fail
    go_ret
    exact ⟨rfl, k⟩
  · by_cases h2 : l < n
    · have e : cut n l = l := by unfold cut; omega
      have k := key l
      rw [e]
      have e1 : l - l = 0 := by omega
      rw [e1] at k ⊢
      clear e e1 key h
      go_enter Try.func19, Try.ntmps19
      go_wp2_with fail
      go_ret
      exact ⟨rfl, k⟩
    · have e : cut n l = n := by unfold cut; omega
      have k := key n
      rw [e]
      clear e key h
      go_enter Try.func19, Try.ntmps19
      go_wp2_with fail
      go_ret
      exact ⟨rfl, k⟩

set_option maxHeartbeats 400000 in
theorem refBack (b o : Nat) (hbo : b ≠ o) (l u l2 u2 : Int) (d d2 : Bool) (w : World) (h : RB w b l u d) (k : RB w o l2 u2 d2) (hl0 : 0 ≤ l) (hb : l ≤ 1000000000) (hu : -1000000000000 ≤ u ∧ u ≤ 1000000000000)
    (hl2 : 0 ≤ l2) (hb2 : l2 ≤ 1000000000) (hu2 : -1000000000000 ≤ u2 ∧ u2 ≤ 1000000000000) :
    Calls Try.prog 20 #[.pointer (some ⟨b, 0, none⟩), .pointer (some ⟨o, 0, none⟩)] w fun e w' => e = .returned (.tuple #[]) ∧ RB w' b (l + l2) (u - l2) (d || d2) ∧ RB w' o 0 (u2 + l2) d2 ∧
      Chg (fun x => x = b ∨ x = o) w w' := by
  have c0 := h.cell 0
  have c1 := h.cell 1
  have c2 := h.cell 2
  have f0 := h.free 0
  have f1 := h.free 1
  have f2 := h.free 2
  have p0 := k.cell 0
  have p1 := k.cell 1
  have p2 := k.cell 2
  have g0 := k.free 0
  have g1 := k.free 1
  have g2 := k.free 2
  obtain ⟨hu3, hu4⟩ := hu
  obtain ⟨hu5, hu6⟩ := hu2
  have hob : o ≠ b := fun e => hbo e.symm
  have hob2 : ¬ o = b := hob
  have hbo2 : ¬ b = o := hbo
  have fin : ∀ x : Bool, RB (((((w.setCell ⟨b, 0, none⟩ (.int .i64 (l + l2))).setCell ⟨b, 1, none⟩ (.int .i64 (u - l2))).setCell ⟨o, 1, none⟩ (.int .i64 (u2 + l2))).setCell ⟨o, 0, none⟩ (.int .i64 0)).setCell ⟨b, 2, none⟩ (.bool x)) b (l + l2) (u - l2) x ∧
      RB (((((w.setCell ⟨b, 0, none⟩ (.int .i64 (l + l2))).setCell ⟨b, 1, none⟩ (.int .i64 (u - l2))).setCell ⟨o, 1, none⟩ (.int .i64 (u2 + l2))).setCell ⟨o, 0, none⟩ (.int .i64 0)).setCell ⟨b, 2, none⟩ (.bool x)) o 0 (u2 + l2) d2 ∧
      Chg (fun x => x = b ∨ x = o) w (((((w.setCell ⟨b, 0, none⟩ (.int .i64 (l + l2))).setCell ⟨b, 1, none⟩ (.int .i64 (u - l2))).setCell ⟨o, 1, none⟩ (.int .i64 (u2 + l2))).setCell ⟨o, 0, none⟩ (.int .i64 0)).setCell ⟨b, 2, none⟩ (.bool x)) := by
    intro x
    have q1 := (h.set0 (l + l2)).set1 (u - l2)
    have k1 : RB ((w.setCell ⟨b, 0, none⟩ (.int .i64 (l + l2))).setCell ⟨b, 1, none⟩ (.int .i64 (u - l2))) o l2 u2 d2 := by
      unfold RB
      rw [Below.heap_setCell _ _ _ _ hob, Below.heap_setCell _ _ _ _ hob]
      exact k
    have k2 := (k1.set1 (u2 + l2)).set0 0
    refine ⟨?_, ?_, ?_⟩
    · refine RB.set2 (d := d) ?_ _
      unfold RB
      rw [Below.heap_setCell _ _ _ _ hbo, Below.heap_setCell _ _ _ _ hbo]
      exact q1
    · unfold RB
      rw [Below.heap_setCell _ _ _ _ hob]
      exact k2
    · exact (((((Chg.refl _ _).setCell (Or.inl (Or.inl rfl)) _).setCell (Or.inl (Or.inl rfl)) _).setCell (Or.inl (Or.inr rfl)) _).setCell (Or.inl (Or.inr rfl)) _).setCell (Or.inl (Or.inl rfl)) _
  clear h k
  have F := hide fin
  clear fin
  cases d
  · go_enter Try.func20, Try.ntmps20
    go_wp2_with fail
    go_region
    go_wp2_with fail
    go_region
    go_wp2_with fail
    go_region
    go_wp2_with fail
    go_end0
    have fin := F.out d2
    simp only [Bool.false_or]
    refine ⟨trivial, ?_, ?_, ?_⟩
    · exact fin.1.drew.drew.drew
    · exact fin.2.1.drew.drew.drew
    · exact fin.2.2.drew.drew.drew
  · go_enter Try.func20, Try.ntmps20
    go_wp2_with fail
    go_region
    go_wp2_with fail
    go_region
    go_wp2_with fail
    go_region
    go_wp2_with fail
    go_end0
    have fin := F.out true
    simp only [Bool.true_or]
    refine ⟨trivial, ?_, ?_, ?_⟩
    · exact fin.1.drew.drew.drew
    · exact fin.2.1.drew.drew.drew
    · exact fin.2.2.drew.drew.drew

end Go.Proofs.Ytjghglkeppagaaa
