/- place.Lines, place.Line, place.At: ranges over a text's lines. -/
import Derived.Test.YtcabkkfehdcagaaDoorLines
namespace Go.Proofs.YtcabkkfehdcagaaDoor
open Go.RowKit Go.Shelf
attribute [local go_sem] Oper.semAt_some
set_option linter.unusedVariables false

def NumAt (B : Nat) (n : Int) (W : World) : Prop := W.heap[B]? = some (.cells #[.int .i64 n] 3)
theorem NumAt.kept {B : Nat} {n : Int} {A C : World} {row : Option Nat} (h : NumAt B n A) (hg : A.grownBy C row)
    (hr : ∀ r, row = some r → ∃ o, A.heap[r]? = some o ∧ o.isCells = false) : NumAt B n C := blk_kept h hg hr

/-- what lies in the blocks of place.Line's own between two rounds -/
def LineAt (B : Nat) (m n c : Int) (t : ByteArray) (W : World) : Prop :=
  W.heap[B]? = some (.cells #[.int .i64 m] 3) ∧ W.heap[B + 1]? = some (.cells #[.string t] 9) ∧ W.heap[B + 1 + 1]? = some (.cells #[.int .i64 c] 29) ∧ W.heap[B + 1 + 1 + 1]? = some (.cells #[.int .i64 n] 3)
theorem LineAt.kept {B : Nat} {m n c : Int} {t : ByteArray} {A C : World} {row : Option Nat} (h : LineAt B m n c t A) (hg : A.grownBy C row)
    (hr : ∀ r, row = some r → ∃ o, A.heap[r]? = some o ∧ o.isCells = false) : LineAt B m n c t C :=
  ⟨blk_kept h.1 hg hr, blk_kept h.2.1 hg hr, blk_kept h.2.2.1 hg hr, blk_kept h.2.2.2 hg hr⟩

/-- what lies in the blocks of place.At's own between two rounds -/
def AtAt (B : Nat) (x y n r c : Int) (W : World) : Prop :=
  W.heap[B]? = some (.cells #[.int .i64 x, .int .i64 y] 30) ∧ W.heap[B + 1]? = some (.cells #[.int .i64 r] 3) ∧ W.heap[B + 1 + 1]? = some (.cells #[.int .i64 c] 29) ∧ W.heap[B + 1 + 1 + 1]? = some (.cells #[.int .i64 n] 3)
theorem AtAt.kept {B : Nat} {x y n r c : Int} {A C : World} {row : Option Nat} (h : AtAt B x y n r c A) (hg : A.grownBy C row)
    (hr : ∀ r, row = some r → ∃ o, A.heap[r]? = some o ∧ o.isCells = false) : AtAt B x y n r c C :=
  ⟨blk_kept h.1 hg hr, blk_kept h.2.1 hg hr, blk_kept h.2.2.1 hg hr, blk_kept h.2.2.2 hg hr⟩

set_option maxRecDepth 100000 in
theorem nlines_in (s : ByteArray) (hs : s.size ≤ 1000000) (w : World) :
    CallsIn Fence.wide 4 Tryd.prog 17 #[.string s] w fun e W' =>
      e = .returned (.int .i64 (linesOf s (s.size + 1) 0).length) ∧ Below w.heap.size w W' := by
  refine callsIn_of_wp_marks Tryd.func17 rfl trivial ?_ rfl
  simp only [Tryd.ntmps17, List.size_toArray, List.length_cons, List.length_nil, Nat.reduceAdd, Nat.reduceSub, Array.replicate_succ, Array.replicate_zero, List.push_toArray, List.append_toArray, List.nil_append, List.cons_append]
  gi_wp2_with (refine ⟨trivial, ?_⟩; gi_at_call 28; refine (lines_in _ _).mono ?_; rintro e w' ⟨rfl, rfl⟩)
  obtain ⟨W0, hW0⟩ : ∃ W0, ((w.alloc (Obj.cells #[Value.int IntKind.i64 0] 3)).alloc (Obj.cells #[Value.string s] 9)) = W0 := ⟨_, rfl⟩
  rw [hW0]
  have hsz : W0.heap.size = w.heap.size + 2 := by rw [← hW0]; simp
  have hB0 : Below w.heap.size w W0 := by
    rw [← hW0]
    exact ((Below.refl _ w).alloc (Nat.le_refl _) _).alloc (by simp) _
  have hAt : W0.heap[w.heap.size]? = some (.cells #[.int .i64 0] 3) := by
    rw [← hW0]
    exact blk_alloc (blk_new w (Obj.cells #[Value.int IntKind.i64 0] 3))
  have hS : W0.heap[w.heap.size + 1]? = some (.cells #[.string s] 9) := by
    rw [← hW0]
    have e5 := blk_new (w.alloc (Obj.cells #[Value.int IntKind.i64 0] 3)) (Obj.cells #[Value.string s] 9)
    simp only [World.size_alloc] at e5
    exact e5
  clear hW0
  refine wpIn_rangeFunc_ownG rfl (by omega) (gf := 34) (lb := #[.pointer (some ⟨w.heap.size + 1, 0, none⟩)]) rfl trivial (enters_of Tryd.func34 (by kernel_rfl) rfl)
    (lines_stops s hs (w.heap.size + 1) w.heap.size W0 (by omega) (blk_cell hS 0)) keeps_t (keeps_b (by omega)) (Below.refl _ _) (fun _ => rfl)
    (fun pre W => NumAt w.heap.size pre.length W ∧ Below w.heap.size w W)
    (fun c pre W => False ∧ Below w.heap.size w W)
    (OwnFrom.and (Own.from (fun s A B row hs hg hr => hs.kept hg hr) _) (ownFrom_below (Nat.le_refl _) (by omega)))
    (fun c => OwnFrom.and (Own.from (fun s A B row hs hg hr => hs) _) (ownFrom_below (Nat.le_refl _) (by omega)))
    ⟨hAt, hB0⟩
    (fun x => { tmps := #[.string s, undef, .int .i64 0, .pointer (some ⟨w.heap.size, 0, none⟩), .string s, .func (.func 34) #[] #[.pointer (some ⟨w.heap.size + 1, 0, none⟩)], .int .i64 (x.1.1 : Int), .string x.1.2, undef, undef, undef], defers := [] }) ?assign ?body ?done ?stop
  case assign =>
    intro l x W K hK
    dsimp only [encLn]
    gi_wp2
    simpa using hK
  case body =>
    rintro l pre x W ⟨hat, hB⟩ hlen
    have hx := x.2
    have c3 := blk_cell hat 0
    have f3 := blk_free hat 0
    have H3 := hide hat
    have HB := hide hB
    clear hat hB
    gi_wp2
    refine ⟨(KeepsOthers.setCell _ _ _).from _, ⟨(Below.refl _ _).setCell (p := ⟨w.heap.size, 0, none⟩) (by show _ ≤ w.heap.size; omega) _, fun v hv => ?_⟩, ?_, HB.out.setCell (p := ⟨w.heap.size, 0, none⟩) (by show _ ≤ w.heap.size; omega) _⟩
    · rw [World.cell?_setCell_other _ ⟨w.heap.size, 0, none⟩ ⟨w.heap.size + 1, 0, none⟩ _ (by simp)]
      exact hv
    · have := blk_set H3.out 0 (.int .i64 ((pre.length : Int) + 1))
      rw [List.length_append]
      exact this
  case done =>
    rintro D ys W hD hys ⟨b0, hB⟩ hK
    have c0 := blk_cell b0 0
    gi_wp2
    refine ⟨by simp, .inl ⟨_, _, rfl, run_takeDeferred hK, ?_⟩⟩
    have hl : (linesOf s (s.size + 1) 0).length = ys.length := by rw [← hys, List.length_map]
    refine ⟨.int .i64 ys.length, by simp [results, Tryd.f17, go_sem], by rw [hl], hB.trans (belowK_b (w := w) (Nat.le_refl _) W D _ _ (by omega) hK rfl rfl)⟩
  case stop =>
    rintro D c pre W hD hpre ⟨h, hB⟩ hK
    exact h.elim

theorem nlines_any (s : ByteArray) (hs : s.size ≤ 1000000) (w : World) :
    Calls Tryd.prog 17 #[.string s] w fun e W' => e = .returned (.int .i64 (linesOf s (s.size + 1) 0).length) ∧ Below w.heap.size w W' :=
  callsIn_wide.1 (nlines_in s hs w)

set_option maxRecDepth 100000 in
set_option maxHeartbeats 1000000 in
theorem line_in (s : ByteArray) (hs : s.size ≤ 1000000) (n : Int) (w : World) :
    CallsIn Fence.wide 4 Tryd.prog 16 #[.string s, .int .i64 n] w fun e W' =>
      (∃ ys : List Ln, ys.map (·.1) <+: linesOf s (s.size + 1) 0 ∧ ((∃ ini last, ys = ini ++ [last] ∧ n = (ini.length : Int) + 1 ∧ e = .returned (.tuple #[.string last.1.2, .int .i64 0])) ∨
        (ys.map (·.1) = linesOf s (s.size + 1) 0 ∧ ¬ (1 ≤ n ∧ n ≤ (ys.length : Int)) ∧ e = .returned (.tuple #[.string ⟨#[]⟩, .int .i64 10])))) ∧ Below w.heap.size w W' := by
  refine callsIn_of_wp_marks Tryd.func16 rfl trivial ?_ rfl
  simp only [Tryd.ntmps16, List.size_toArray, List.length_cons, List.length_nil, Nat.reduceAdd, Nat.reduceSub, Array.replicate_succ, Array.replicate_zero, List.push_toArray, List.append_toArray, List.nil_append, List.cons_append]
  gi_wp2_with (refine ⟨trivial, ?_⟩; gi_at_call 28; refine (lines_in _ _).mono ?_; rintro e w' ⟨rfl, rfl⟩)
  obtain ⟨W0, hW0⟩ : ∃ W0, (((((w.alloc (Obj.cells #[Value.int IntKind.i64 n] 3)).alloc (Obj.cells #[Value.string { data := #[] }] 9)).alloc (Obj.cells #[Value.int IntKind.i64 0] 29)).alloc (Obj.cells #[Value.int IntKind.i64 0] 3)).alloc (Obj.cells #[Value.string s] 9)) = W0 := ⟨_, rfl⟩
  rw [hW0]
  have hsz : W0.heap.size = w.heap.size + 5 := by rw [← hW0]; simp
  have hB0 : Below w.heap.size w W0 := by
    rw [← hW0]
    exact (((((Below.refl _ w).alloc (Nat.le_refl _) _).alloc (by simp) _).alloc (by simp only [World.size_alloc]; omega) _).alloc (by simp only [World.size_alloc]; omega) _).alloc (by simp only [World.size_alloc]; omega) _
  have hAt : LineAt w.heap.size n 0 0 ⟨#[]⟩ W0 := by
    rw [← hW0]
    have e1 := blk_new w (Obj.cells #[Value.int IntKind.i64 n] 3)
    have e2 := blk_new (w.alloc (Obj.cells #[Value.int IntKind.i64 n] 3)) (Obj.cells #[Value.string { data := #[] }] 9)
    have e3 := blk_new ((w.alloc (Obj.cells #[Value.int IntKind.i64 n] 3)).alloc (Obj.cells #[Value.string { data := #[] }] 9)) (Obj.cells #[Value.int IntKind.i64 0] 29)
    have e4 := blk_new (((w.alloc (Obj.cells #[Value.int IntKind.i64 n] 3)).alloc (Obj.cells #[Value.string { data := #[] }] 9)).alloc (Obj.cells #[Value.int IntKind.i64 0] 29)) (Obj.cells #[Value.int IntKind.i64 0] 3)
    simp only [World.size_alloc] at e2 e3 e4
    exact ⟨blk_alloc (blk_alloc (blk_alloc (blk_alloc e1))), blk_alloc (blk_alloc (blk_alloc e2)), blk_alloc (blk_alloc e3), blk_alloc e4⟩
  have hS : W0.heap[w.heap.size + 1 + 1 + 1 + 1]? = some (.cells #[.string s] 9) := by
    rw [← hW0]
    have e5 := blk_new ((((w.alloc (Obj.cells #[Value.int IntKind.i64 n] 3)).alloc (Obj.cells #[Value.string { data := #[] }] 9)).alloc (Obj.cells #[Value.int IntKind.i64 0] 29)).alloc (Obj.cells #[Value.int IntKind.i64 0] 3)) (Obj.cells #[Value.string s] 9)
    simp only [World.size_alloc] at e5
    exact e5
  clear hW0
  refine wpIn_rangeFunc_ownG rfl (by omega) (gf := 34) (lb := #[.pointer (some ⟨w.heap.size + 1 + 1 + 1 + 1, 0, none⟩)]) rfl trivial (enters_of Tryd.func34 (by kernel_rfl) rfl)
    (lines_stops s hs (w.heap.size + 1 + 1 + 1 + 1) w.heap.size W0 (by omega) (blk_cell hS 0)) keeps_t (keeps_b (by omega)) (Below.refl _ _) (fun _ => rfl)
    (fun pre W => (¬ (1 ≤ n ∧ n ≤ (pre.length : Int)) ∧ LineAt w.heap.size n pre.length 0 ⟨#[]⟩ W) ∧ Below w.heap.size w W)
    (fun c pre W => (c = .ret ∧ ∃ ini last, pre = ini ++ [last] ∧ n = (ini.length : Int) + 1 ∧ LineAt w.heap.size n (ini.length + 1) 0 last.1.2 W) ∧ Below w.heap.size w W)
    (OwnFrom.and (Own.from (fun s A B row hs hg hr => ⟨hs.1, hs.2.kept hg hr⟩) _) (ownFrom_below (Nat.le_refl _) (by omega)))
    (fun c => OwnFrom.and (Own.from (fun s A B row hs hg hr => by obtain ⟨hc, ini, last, e1, e2, e4⟩ := hs; exact ⟨hc, ini, last, e1, e2, e4.kept hg hr⟩) _) (ownFrom_below (Nat.le_refl _) (by omega)))
    ⟨⟨by simp; omega, hAt⟩, hB0⟩
    (fun x => { tmps := #[.string s, .int .i64 n, undef, .pointer (some ⟨w.heap.size, 0, none⟩), .pointer (some ⟨w.heap.size + 1, 0, none⟩), .pointer (some ⟨w.heap.size + 1 + 1, 0, none⟩), .pointer (some ⟨w.heap.size + 1 + 1 + 1, 0, none⟩), undef, .string x.1.2, .string s, .func (.func 34) #[] #[.pointer (some ⟨w.heap.size + 1 + 1 + 1 + 1, 0, none⟩)], .int .i64 (x.1.1 : Int), .string x.1.2, undef, undef, undef, undef, undef, undef], defers := [] }) ?assign ?body ?done ?stop
  case assign =>
    intro l x W K hK
    dsimp only [encLn]
    gi_wp2
    exact hK
  case body =>
    rintro l pre x W ⟨⟨hp, hat⟩, hB⟩ hlen
    obtain ⟨b0, b1, b2, b3⟩ := hat
    have hx := x.2
    have c00 := blk_cell b0 0
    have c1 := blk_cell b1 0
    have c2 := blk_cell b2 0
    have c3 := blk_cell b3 0
    have f1 := blk_free b1 0
    have f2 := blk_free b2 0
    have f3 := blk_free b3 0
    have H0 := hide b0
    have H1 := hide b1
    have H2 := hide b2
    have H3 := hide b3
    have HB := hide hB
    clear b0 b1 b2 b3 hB
    by_cases ht : (pre.length : Int) + 1 = n
    · have ht2 : (((pre.length : Int) + 1) == n) = true := by simp [ht]
      gi_wp2
      have n1 : w.heap.size + 1 + 1 + 1 ≠ w.heap.size + 1 := by omega
      have n2 : w.heap.size + 1 + 1 + 1 ≠ w.heap.size + 1 + 1 := by omega
      have n3 : w.heap.size + 1 ≠ w.heap.size + 1 + 1 + 1 := by omega
      have n4 : w.heap.size + 1 ≠ w.heap.size + 1 + 1 := by omega
      have n5 : w.heap.size + 1 + 1 ≠ w.heap.size + 1 + 1 + 1 := by omega
      have n6 : w.heap.size + 1 + 1 ≠ w.heap.size + 1 := by omega
      have n7 : w.heap.size ≠ w.heap.size + 1 + 1 + 1 := by omega
      have n8 : w.heap.size ≠ w.heap.size + 1 + 1 := by omega
      have n9 : w.heap.size ≠ w.heap.size + 1 := by omega
      refine ⟨(((KeepsOthers.setCell _ _ _).trans (KeepsOthers.setCell _ _ _)).trans (KeepsOthers.setCell _ _ _)).from _, ⟨rfl, pre, x, rfl, ht.symm, ?_⟩, ?_⟩
      · refine ⟨blk_other (blk_other (blk_other H0.out n7 _ _) n9 _ _) n8 _ _, ?_, ?_, ?_⟩
        · exact blk_other (blk_set (blk_other H1.out n3 _ _) 0 _) n4 _ _
        · exact blk_set (blk_other (blk_other H2.out n5 _ _) n6 _ _) 0 _
        · have := blk_other (blk_other (blk_set H3.out 0 (.int .i64 n)) n1 0 (.string x.1.2)) n2 0 (.int .i64 0)
          simp only [ht]
          exact this
      · exact ((HB.out.setCell (p := ⟨w.heap.size + 1 + 1 + 1, 0, none⟩) (by show _ ≤ w.heap.size + 1 + 1 + 1; omega) _).setCell (p := ⟨w.heap.size + 1, 0, none⟩) (by show _ ≤ w.heap.size + 1; omega) _).setCell (p := ⟨w.heap.size + 1 + 1, 0, none⟩) (by show _ ≤ w.heap.size + 1 + 1; omega) _
    · have ht2 : (((pre.length : Int) + 1) == n) = false := by simp [ht]
      gi_wp2
      have n1 : w.heap.size + 1 + 1 + 1 ≠ w.heap.size + 1 := by omega
      have n2 : w.heap.size + 1 + 1 + 1 ≠ w.heap.size + 1 + 1 := by omega
      have n3 : w.heap.size + 1 ≠ w.heap.size + 1 + 1 + 1 := by omega
      have n4 : w.heap.size + 1 ≠ w.heap.size + 1 + 1 := by omega
      have n5 : w.heap.size + 1 + 1 ≠ w.heap.size + 1 + 1 + 1 := by omega
      have n6 : w.heap.size + 1 + 1 ≠ w.heap.size + 1 := by omega
      have n7 : w.heap.size ≠ w.heap.size + 1 + 1 + 1 := by omega
      have n8 : w.heap.size ≠ w.heap.size + 1 + 1 := by omega
      have n9 : w.heap.size ≠ w.heap.size + 1 := by omega
      refine ⟨(KeepsOthers.setCell _ _ _).from _, ⟨(Below.refl _ _).setCell (p := ⟨w.heap.size + 1 + 1 + 1, 0, none⟩) (by show _ ≤ w.heap.size + 1 + 1 + 1; omega) _, fun v hv => ?_⟩, ⟨?_, ?_⟩, HB.out.setCell (p := ⟨w.heap.size + 1 + 1 + 1, 0, none⟩) (by show _ ≤ w.heap.size + 1 + 1 + 1; omega) _⟩
      · rw [World.cell?_setCell_other _ ⟨w.heap.size + 1 + 1 + 1, 0, none⟩ ⟨w.heap.size + 1 + 1 + 1 + 1, 0, none⟩ _ (by simp)]
        exact hv
      · rw [List.length_append]; simp; omega
      · refine ⟨blk_other H0.out n7 _ _, blk_other H1.out n3 _ _, blk_other H2.out n5 _ _, ?_⟩
        have := blk_set H3.out 0 (.int .i64 ((pre.length : Int) + 1))
        rw [List.length_append]
        exact this
  case done =>
    rintro D ys W hD hys ⟨⟨hp, b0, b1, b2, b3⟩, hB⟩ hK
    have f1 := blk_free b1 0
    have f2 := blk_free b2 0
    have c1 := blk_cell b1 0
    have c2 := blk_cell b2 0
    have n4 : w.heap.size + 1 ≠ w.heap.size + 1 + 1 := by omega
    have H1 := hide b1
    have H2 := hide b2
    have HB := hide hB
    clear b0 b1 b2 b3 hB
    gi_wp2
    have k3 := blk_set (blk_other H2.out (by omega : w.heap.size + 1 + 1 ≠ w.heap.size + 1) 0 (.string ⟨#[]⟩)) 0 (.int .i64 10)
    have k4 := blk_other (blk_set H1.out 0 (.string ⟨#[]⟩)) n4 0 (.int .i64 10)
    have hK2 := blk_other (blk_other hK (by omega : D ≠ w.heap.size + 1) 0 (.string ⟨#[]⟩)) (by omega : D ≠ w.heap.size + 1 + 1) 0 (.int .i64 10)
    refine ⟨by simp, .inl ⟨_, _, rfl, run_takeDeferred hK2, ?_⟩⟩
    have q1 := blk_cell (blk_kept k4 (grownBy_putObj' _ D (.deferred none)) (fun r e => by cases e; exact ⟨_, hK2, rfl⟩)) 0
    have q2 := blk_cell (blk_kept k3 (grownBy_putObj' _ D (.deferred none)) (fun r e => by cases e; exact ⟨_, hK2, rfl⟩)) 0
    have hB2 := (HB.out.setCell (p := ⟨w.heap.size + 1, 0, none⟩) (by show _ ≤ w.heap.size + 1; omega) (.string ⟨#[]⟩)).setCell (p := ⟨w.heap.size + 1 + 1, 0, none⟩) (by show _ ≤ w.heap.size + 1 + 1; omega) (.int .i64 10)
    refine ⟨.tuple #[.string ⟨#[]⟩, .int .i64 10], ?_, ⟨ys, by rw [hys]; exact List.prefix_refl _, .inr ⟨hys, hp, rfl⟩⟩, hB2.trans (belowK_b (w := w) (Nat.le_refl _) _ D _ _ (by omega) hK2 rfl rfl)⟩
    simp [results, Tryd.f16, go_sem, q1, q2]
  case stop =>
    rintro D c pre W hD hpre ⟨⟨rfl, ini, last, e1, e2, b0, b1, b2, b3⟩, hB⟩ hK
    gi_wp2
    refine ⟨by simp, .inl ⟨_, _, rfl, run_takeDeferred hK, ?_⟩⟩
    have k1 := blk_cell (blk_kept b1 (grownBy_putObj' _ D (.deferred none)) (fun r e => by cases e; exact ⟨_, hK, rfl⟩)) 0
    have k2 := blk_cell (blk_kept b2 (grownBy_putObj' _ D (.deferred none)) (fun r e => by cases e; exact ⟨_, hK, rfl⟩)) 0
    subst e1
    refine ⟨.tuple #[.string last.1.2, .int .i64 0], ?_, ⟨ini ++ [last], hpre, .inl ⟨ini, last, rfl, e2, rfl⟩⟩, hB.trans (belowK_b (w := w) (Nat.le_refl _) W D _ _ (by omega) hK rfl rfl)⟩
    simp [results, Tryd.f16, go_sem, k1, k2]

def AtGo (B : Nat) (x y : Int) (pre : List Ln) (W : World) : Prop := ¬ (1 ≤ x ∧ x ≤ (pre.length : Int)) ∧ AtAt B x y pre.length 0 0 W
theorem AtGo.kept {B : Nat} {x y : Int} {pre : List Ln} {A C : World} {row : Option Nat} (h : AtGo B x y pre A) (hg : A.grownBy C row)
    (hr : ∀ r, row = some r → ∃ o, A.heap[r]? = some o ∧ o.isCells = false) : AtGo B x y pre C := ⟨h.1, h.2.kept hg hr⟩
def AtEnd (B : Nat) (x y : Int) (c : Code) (pre : List Ln) (W : World) : Prop :=
  ∃ ini last, pre = ini ++ [last] ∧ x = (ini.length : Int) + 1 ∧ ((c = .ret ∧ (1 ≤ y ∧ y ≤ (last.1.2.size : Int) + 1) ∧ AtAt B x y x (last.1.1 + y - 1) 0 W) ∨ (c = .exit 0 ∧ ¬ (1 ≤ y ∧ y ≤ (last.1.2.size : Int) + 1) ∧ AtAt B x y x 0 0 W))
theorem AtEnd.kept {B : Nat} {x y : Int} {c : Code} {pre : List Ln} {A C : World} {row : Option Nat} (h : AtEnd B x y c pre A) (hg : A.grownBy C row)
    (hr : ∀ r, row = some r → ∃ o, A.heap[r]? = some o ∧ o.isCells = false) : AtEnd B x y c pre C := by
  obtain ⟨ini, last, e1, e2, e4⟩ := h
  exact ⟨ini, last, e1, e2, e4.imp (fun h => ⟨h.1, h.2.1, h.2.2.kept hg hr⟩) (fun h => ⟨h.1, h.2.1, h.2.2.kept hg hr⟩)⟩
/-- what place.At answers, by the lines it has gone through -/
def AtSays (s : ByteArray) (x y : Int) (e : Ending) : Prop :=
  ∃ ys : List Ln, ys.map (·.1) <+: linesOf s (s.size + 1) 0 ∧ ((∃ ini last, ys = ini ++ [last] ∧ x = (ini.length : Int) + 1 ∧ (1 ≤ y ∧ y ≤ (last.1.2.size : Int) + 1) ∧ e = .returned (.tuple #[.int .i64 (last.1.1 + y - 1), .int .i64 0])) ∨
    (∃ ini last, ys = ini ++ [last] ∧ x = (ini.length : Int) + 1 ∧ ¬ (1 ≤ y ∧ y ≤ (last.1.2.size : Int) + 1) ∧ e = .returned (.tuple #[.int .i64 0, .int .i64 10])) ∨
    (ys.map (·.1) = linesOf s (s.size + 1) 0 ∧ ¬ (1 ≤ x ∧ x ≤ (ys.length : Int)) ∧ e = .returned (.tuple #[.int .i64 0, .int .i64 10])))

set_option maxRecDepth 100000 in
set_option maxHeartbeats 1000000 in
theorem at_in (s : ByteArray) (hs : s.size ≤ 1000000) (x y : Int) (w : World) :
    CallsIn Fence.wide 4 Tryd.prog 19 #[.string s, .agg #[.int .i64 x, .int .i64 y]] w fun e W' =>
      AtSays s x y e ∧ Below w.heap.size w W' := by
  refine callsIn_of_wp_marks Tryd.func19 rfl trivial ?_ rfl
  simp only [Tryd.ntmps19, List.size_toArray, List.length_cons, List.length_nil, Nat.reduceAdd, Nat.reduceSub, Array.replicate_succ, Array.replicate_zero, List.push_toArray, List.append_toArray, List.nil_append, List.cons_append]
  gi_wp2_with (refine ⟨trivial, ?_⟩; gi_at_call 28; refine (lines_in _ _).mono ?_; rintro e w' ⟨rfl, rfl⟩)
  obtain ⟨W0, hW0⟩ : ∃ W0, (((((w.alloc (Obj.cells #[Value.int IntKind.i64 x, Value.int IntKind.i64 y] 30)).alloc (Obj.cells #[Value.int IntKind.i64 0] 3)).alloc (Obj.cells #[Value.int IntKind.i64 0] 29)).alloc (Obj.cells #[Value.int IntKind.i64 0] 3)).alloc (Obj.cells #[Value.string s] 9)) = W0 := ⟨_, rfl⟩
  rw [hW0]
  have hsz : W0.heap.size = w.heap.size + 5 := by rw [← hW0]; simp
  have hB0 : Below w.heap.size w W0 := by
    rw [← hW0]
    exact (((((Below.refl _ w).alloc (Nat.le_refl _) _).alloc (by simp) _).alloc (by simp only [World.size_alloc]; omega) _).alloc (by simp only [World.size_alloc]; omega) _).alloc (by simp only [World.size_alloc]; omega) _
  have hAt : AtAt w.heap.size x y 0 0 0 W0 := by
    rw [← hW0]
    have e1 := blk_new w (Obj.cells #[Value.int IntKind.i64 x, Value.int IntKind.i64 y] 30)
    have e2 := blk_new (w.alloc (Obj.cells #[Value.int IntKind.i64 x, Value.int IntKind.i64 y] 30)) (Obj.cells #[Value.int IntKind.i64 0] 3)
    have e3 := blk_new ((w.alloc (Obj.cells #[Value.int IntKind.i64 x, Value.int IntKind.i64 y] 30)).alloc (Obj.cells #[Value.int IntKind.i64 0] 3)) (Obj.cells #[Value.int IntKind.i64 0] 29)
    have e4 := blk_new (((w.alloc (Obj.cells #[Value.int IntKind.i64 x, Value.int IntKind.i64 y] 30)).alloc (Obj.cells #[Value.int IntKind.i64 0] 3)).alloc (Obj.cells #[Value.int IntKind.i64 0] 29)) (Obj.cells #[Value.int IntKind.i64 0] 3)
    simp only [World.size_alloc] at e2 e3 e4
    exact ⟨blk_alloc (blk_alloc (blk_alloc (blk_alloc e1))), blk_alloc (blk_alloc (blk_alloc e2)), blk_alloc (blk_alloc e3), blk_alloc e4⟩
  have hS : W0.heap[w.heap.size + 1 + 1 + 1 + 1]? = some (.cells #[.string s] 9) := by
    rw [← hW0]
    have e5 := blk_new ((((w.alloc (Obj.cells #[Value.int IntKind.i64 x, Value.int IntKind.i64 y] 30)).alloc (Obj.cells #[Value.int IntKind.i64 0] 3)).alloc (Obj.cells #[Value.int IntKind.i64 0] 29)).alloc (Obj.cells #[Value.int IntKind.i64 0] 3)) (Obj.cells #[Value.string s] 9)
    simp only [World.size_alloc] at e5
    exact e5
  clear hW0
  refine wpIn_rangeFunc_ownG rfl (by omega) (gf := 34) (lb := #[.pointer (some ⟨w.heap.size + 1 + 1 + 1 + 1, 0, none⟩)]) rfl trivial (enters_of Tryd.func34 (by kernel_rfl) rfl)
    (lines_stops s hs (w.heap.size + 1 + 1 + 1 + 1) w.heap.size W0 (by omega) (blk_cell hS 0)) keeps_t (keeps_b (by omega)) (Below.refl _ _) (fun _ => rfl)
    (fun pre W => (AtGo w.heap.size x y pre W) ∧ Below w.heap.size w W)
    (fun c pre W => (AtEnd w.heap.size x y c pre W) ∧ Below w.heap.size w W)
    (OwnFrom.and (Own.from (fun s A B row hs hg hr => hs.kept hg hr) _) (ownFrom_below (Nat.le_refl _) (by omega)))
    (fun c => OwnFrom.and (Own.from (fun s A B row hs hg hr => hs.kept hg hr) _) (ownFrom_below (Nat.le_refl _) (by omega)))
    ⟨⟨by simp; omega, hAt⟩, hB0⟩
    (fun x_ => { tmps := #[.string s, .agg #[.int .i64 x, .int .i64 y], undef, .pointer (some ⟨w.heap.size, 0, none⟩), .pointer (some ⟨w.heap.size + 1, 0, none⟩), .pointer (some ⟨w.heap.size + 1 + 1, 0, none⟩), .pointer (some ⟨w.heap.size + 1 + 1 + 1, 0, none⟩), .int .i64 (x_.1.1 : Int), .string x_.1.2, .string s, .func (.func 34) #[] #[.pointer (some ⟨w.heap.size + 1 + 1 + 1 + 1, 0, none⟩)], .int .i64 (x_.1.1 : Int), .string x_.1.2, undef, undef, undef, undef, undef, undef, undef, undef, undef, undef, undef, undef, undef, undef, undef, undef, undef, undef, undef, undef, undef, undef], defers := [] }) ?assign ?body ?done ?stop
  case assign =>
    intro l x W K hK
    dsimp only [encLn]
    gi_wp2
    exact hK
  case body =>
    rintro l pre z W ⟨⟨hp, hat⟩, hB⟩ hlen
    obtain ⟨b0, b1, b2, b3⟩ := hat
    have hx := z.2
    have c00 := blk_cell b0 0
    have c01 := blk_cell b0 1
    have c1 := blk_cell b1 0
    have c2 := blk_cell b2 0
    have c3 := blk_cell b3 0
    have f1 := blk_free b1 0
    have f2 := blk_free b2 0
    have f3 := blk_free b3 0
    have H0 := hide b0
    have H1 := hide b1
    have H2 := hide b2
    have H3 := hide b3
    have HB := hide hB
    clear b0 b1 b2 b3 hB
    by_cases ht : (pre.length : Int) + 1 = x
    · have ht2 : (((pre.length : Int) + 1) == x) = true := by simp [ht]
      have ht3 : (((pre.length : Int) + 1) != x) = false := by simp [ht]
      have n1 : w.heap.size + 1 + 1 + 1 ≠ w.heap.size + 1 := by omega
      have n2 : w.heap.size + 1 + 1 + 1 ≠ w.heap.size + 1 + 1 := by omega
      have n3 : w.heap.size + 1 ≠ w.heap.size + 1 + 1 + 1 := by omega
      have n4 : w.heap.size + 1 ≠ w.heap.size + 1 + 1 := by omega
      have n5 : w.heap.size + 1 + 1 ≠ w.heap.size + 1 + 1 + 1 := by omega
      have n6 : w.heap.size + 1 + 1 ≠ w.heap.size + 1 := by omega
      have n7 : w.heap.size ≠ w.heap.size + 1 + 1 + 1 := by omega
      have n8 : w.heap.size ≠ w.heap.size + 1 + 1 := by omega
      have n9 : w.heap.size ≠ w.heap.size + 1 := by omega
      by_cases hy : 1 ≤ y
      · by_cases hy2 : y ≤ (z.1.2.size : Int) + 1
        · gi_wp2
          refine ⟨(((KeepsOthers.setCell _ _ _).trans (KeepsOthers.setCell _ _ _)).trans (KeepsOthers.setCell _ _ _)).from _, ⟨pre, z, rfl, ht.symm, .inl ⟨rfl, ⟨hy, hy2⟩, ?_⟩⟩, ?_⟩
          · refine ⟨blk_other (blk_other (blk_other H0.out n7 _ _) n9 _ _) n8 _ _, ?_, ?_, ?_⟩
            · exact blk_other (blk_set (blk_other H1.out n3 _ _) 0 _) n4 _ _
            · exact blk_set (blk_other (blk_other H2.out n5 _ _) n6 _ _) 0 _
            · have := blk_other (blk_other (blk_set H3.out 0 (.int .i64 x)) n1 0 (.int .i64 ((z.1.1 : Int) + y - 1))) n2 0 (.int .i64 0)
              exact this
          · exact ((HB.out.setCell (p := ⟨w.heap.size + 1 + 1 + 1, 0, none⟩) (by show _ ≤ w.heap.size + 1 + 1 + 1; omega) _).setCell (p := ⟨w.heap.size + 1, 0, none⟩) (by show _ ≤ w.heap.size + 1; omega) _).setCell (p := ⟨w.heap.size + 1 + 1, 0, none⟩) (by show _ ≤ w.heap.size + 1 + 1; omega) _
        · gi_wp2
          · refine ⟨(KeepsOthers.setCell _ _ _).from _, ⟨pre, z, rfl, ht.symm, .inr ⟨rfl, by omega, ?_⟩⟩, HB.out.setCell (p := ⟨w.heap.size + 1 + 1 + 1, 0, none⟩) (by show _ ≤ w.heap.size + 1 + 1 + 1; omega) _⟩
            refine ⟨blk_other H0.out n7 _ _, blk_other H1.out n3 _ _, blk_other H2.out n5 _ _, ?_⟩
            have := blk_set H3.out 0 (.int .i64 x)
            exact this
      · gi_wp2
        · refine ⟨(KeepsOthers.setCell _ _ _).from _, ⟨pre, z, rfl, ht.symm, .inr ⟨rfl, by omega, ?_⟩⟩, HB.out.setCell (p := ⟨w.heap.size + 1 + 1 + 1, 0, none⟩) (by show _ ≤ w.heap.size + 1 + 1 + 1; omega) _⟩
          refine ⟨blk_other H0.out n7 _ _, blk_other H1.out n3 _ _, blk_other H2.out n5 _ _, ?_⟩
          have := blk_set H3.out 0 (.int .i64 x)
          exact this
    · have ht2 : (((pre.length : Int) + 1) == x) = false := by simp [ht]
      have ht3 : (((pre.length : Int) + 1) != x) = true := by simp [ht]
      gi_wp2
      have n1 : w.heap.size + 1 + 1 + 1 ≠ w.heap.size + 1 := by omega
      have n2 : w.heap.size + 1 + 1 + 1 ≠ w.heap.size + 1 + 1 := by omega
      have n3 : w.heap.size + 1 ≠ w.heap.size + 1 + 1 + 1 := by omega
      have n4 : w.heap.size + 1 ≠ w.heap.size + 1 + 1 := by omega
      have n5 : w.heap.size + 1 + 1 ≠ w.heap.size + 1 + 1 + 1 := by omega
      have n6 : w.heap.size + 1 + 1 ≠ w.heap.size + 1 := by omega
      have n7 : w.heap.size ≠ w.heap.size + 1 + 1 + 1 := by omega
      have n8 : w.heap.size ≠ w.heap.size + 1 + 1 := by omega
      have n9 : w.heap.size ≠ w.heap.size + 1 := by omega
      refine ⟨(KeepsOthers.setCell _ _ _).from _, ⟨(Below.refl _ _).setCell (p := ⟨w.heap.size + 1 + 1 + 1, 0, none⟩) (by show _ ≤ w.heap.size + 1 + 1 + 1; omega) _, fun v hv => ?_⟩, ⟨?_, ?_⟩, HB.out.setCell (p := ⟨w.heap.size + 1 + 1 + 1, 0, none⟩) (by show _ ≤ w.heap.size + 1 + 1 + 1; omega) _⟩
      · rw [World.cell?_setCell_other _ ⟨w.heap.size + 1 + 1 + 1, 0, none⟩ ⟨w.heap.size + 1 + 1 + 1 + 1, 0, none⟩ _ (by simp)]
        exact hv
      · rw [List.length_append]; simp; omega
      · refine ⟨blk_other H0.out n7 _ _, blk_other H1.out n3 _ _, blk_other H2.out n5 _ _, ?_⟩
        have := blk_set H3.out 0 (.int .i64 ((pre.length : Int) + 1))
        rw [List.length_append]
        exact this
  case done =>
    rintro D ys W hD hys ⟨⟨hp, b0, b1, b2, b3⟩, hB⟩ hK
    have f1 := blk_free b1 0
    have f2 := blk_free b2 0
    have c1 := blk_cell b1 0
    have c2 := blk_cell b2 0
    have n4 : w.heap.size + 1 ≠ w.heap.size + 1 + 1 := by omega
    have H1 := hide b1
    have H2 := hide b2
    have HB := hide hB
    clear b0 b1 b2 b3 hB
    gi_wp2
    have k3 := blk_set (blk_other H2.out (by omega : w.heap.size + 1 + 1 ≠ w.heap.size + 1) 0 (.int .i64 0)) 0 (.int .i64 10)
    have k4 := blk_other (blk_set H1.out 0 (.int .i64 0)) n4 0 (.int .i64 10)
    have hK2 := blk_other (blk_other hK (by omega : D ≠ w.heap.size + 1) 0 (.int .i64 0)) (by omega : D ≠ w.heap.size + 1 + 1) 0 (.int .i64 10)
    refine ⟨by simp, .inl ⟨_, _, rfl, run_takeDeferred hK2, ?_⟩⟩
    have q1 := blk_cell (blk_kept k4 (grownBy_putObj' _ D (.deferred none)) (fun r e => by cases e; exact ⟨_, hK2, rfl⟩)) 0
    have q2 := blk_cell (blk_kept k3 (grownBy_putObj' _ D (.deferred none)) (fun r e => by cases e; exact ⟨_, hK2, rfl⟩)) 0
    have hB2 := (HB.out.setCell (p := ⟨w.heap.size + 1, 0, none⟩) (by show _ ≤ w.heap.size + 1; omega) (.int .i64 0)).setCell (p := ⟨w.heap.size + 1 + 1, 0, none⟩) (by show _ ≤ w.heap.size + 1 + 1; omega) (.int .i64 10)
    refine ⟨.tuple #[.int .i64 0, .int .i64 10], ?_, ⟨ys, by rw [hys]; exact List.prefix_refl _, .inr (.inr ⟨hys, hp, rfl⟩)⟩, hB2.trans (belowK_b (w := w) (Nat.le_refl _) _ D _ _ (by omega) hK2 rfl rfl)⟩
    simp [results, Tryd.f19, go_sem, q1, q2]
  case stop =>
    rintro D c pre W hD hpre ⟨⟨ini, last, e1, e2, h⟩, hB⟩ hK
    rcases h with ⟨rfl, hy, b0, b1, b2, b3⟩ | ⟨rfl, hy, b0, b1, b2, b3⟩
    · gi_wp2
      refine ⟨by simp, .inl ⟨_, _, rfl, run_takeDeferred hK, ?_⟩⟩
      have k1 := blk_cell (blk_kept b1 (grownBy_putObj' _ D (.deferred none)) (fun r e => by cases e; exact ⟨_, hK, rfl⟩)) 0
      have k2 := blk_cell (blk_kept b2 (grownBy_putObj' _ D (.deferred none)) (fun r e => by cases e; exact ⟨_, hK, rfl⟩)) 0
      subst e1
      refine ⟨.tuple #[.int .i64 (last.1.1 + y - 1), .int .i64 0], ?_, ⟨ini ++ [last], hpre, .inl ⟨ini, last, rfl, e2, hy, rfl⟩⟩, hB.trans (belowK_b (w := w) (Nat.le_refl _) W D _ _ (by omega) hK rfl rfl)⟩
      simp [results, Tryd.f19, go_sem, k1, k2]
    · skip
      have f1 := blk_free b1 0
      have f2 := blk_free b2 0
      have c1 := blk_cell b1 0
      have c2 := blk_cell b2 0
      have n4 : w.heap.size + 1 ≠ w.heap.size + 1 + 1 := by omega
      have H1 := hide b1
      have H2 := hide b2
      have HB := hide hB
      clear b0 b1 b2 b3 hB
      subst e1
      gi_wp2
      have k3 := blk_set (blk_other H2.out (by omega : w.heap.size + 1 + 1 ≠ w.heap.size + 1) 0 (.int .i64 0)) 0 (.int .i64 10)
      have k4 := blk_other (blk_set H1.out 0 (.int .i64 0)) n4 0 (.int .i64 10)
      have hK2 := blk_other (blk_other hK (by omega : D ≠ w.heap.size + 1) 0 (.int .i64 0)) (by omega : D ≠ w.heap.size + 1 + 1) 0 (.int .i64 10)
      refine ⟨by simp, .inl ⟨_, _, rfl, run_takeDeferred hK2, ?_⟩⟩
      have q1 := blk_cell (blk_kept k4 (grownBy_putObj' _ D (.deferred none)) (fun r e => by cases e; exact ⟨_, hK2, rfl⟩)) 0
      have q2 := blk_cell (blk_kept k3 (grownBy_putObj' _ D (.deferred none)) (fun r e => by cases e; exact ⟨_, hK2, rfl⟩)) 0
      have hB2 := (HB.out.setCell (p := ⟨w.heap.size + 1, 0, none⟩) (by show _ ≤ w.heap.size + 1; omega) (.int .i64 0)).setCell (p := ⟨w.heap.size + 1 + 1, 0, none⟩) (by show _ ≤ w.heap.size + 1 + 1; omega) (.int .i64 10)
      refine ⟨.tuple #[.int .i64 0, .int .i64 10], ?_, ⟨ini ++ [last], hpre, .inr (.inl ⟨ini, last, rfl, e2, hy, rfl⟩)⟩, hB2.trans (belowK_b (w := w) (Nat.le_refl _) _ D _ _ (by omega) hK2 rfl rfl)⟩
      simp [results, Tryd.f19, go_sem, q1, q2]

theorem at_any (s : ByteArray) (hs : s.size ≤ 1000000) (x y : Int) (w : World) :
    Calls Tryd.prog 19 #[.string s, .agg #[.int .i64 x, .int .i64 y]] w fun e W' => AtSays s x y e ∧ Below w.heap.size w W' :=
  callsIn_wide.1 (at_in s hs x y w)

theorem line_any (s : ByteArray) (hs : s.size ≤ 1000000) (n : Int) (w : World) :
    Calls Tryd.prog 16 #[.string s, .int .i64 n] w fun e W' =>
      (∃ ys : List Ln, ys.map (·.1) <+: linesOf s (s.size + 1) 0 ∧ ((∃ ini last, ys = ini ++ [last] ∧ n = (ini.length : Int) + 1 ∧ e = .returned (.tuple #[.string last.1.2, .int .i64 0])) ∨
        (ys.map (·.1) = linesOf s (s.size + 1) 0 ∧ ¬ (1 ≤ n ∧ n ≤ (ys.length : Int)) ∧ e = .returned (.tuple #[.string ⟨#[]⟩, .int .i64 10])))) ∧ Below w.heap.size w W' :=
  callsIn_wide.1 (line_in s hs n w)

end Go.Proofs.YtcabkkfehdcagaaDoor
