/- place.Compare and the reference's: which of two places is ahead. -/
import Derived.Test.YtcabkkfehdcagaaDoorNumber
import Derived.Deep.RegionHeld3
namespace Go.Proofs.YtcabkkfehdcagaaDoor
open Go.RowKit
set_option linter.unusedVariables false
set_option linter.unusedSimpArgs false

def cmp2 (a b c d : Int) : Int := if a < c ∨ (a = c ∧ b < d) then -1 else if a = c ∧ b = d then 0 else 1

set_option maxRecDepth 100000 in
theorem refComp_any (a b c d : Int) (w : World) :
   Calls Tryd.prog 24 #[.agg #[.int .i64 a, .int .i64 b], .agg #[.int .i64 c, .int .i64 d]] w fun e w' => e = .returned (.int .i64 (cmp2 a b c d)) ∧ Below w.heap.size w w' := by
  go_enter Tryd.func24, Tryd.ntmps24
  go_wp2_with fail
  all_goals
    go_ret
    refine ⟨ret_int ?_, ((Below.refl _ w).alloc (Nat.le_refl _) _).alloc (by simp) _⟩
    simp only [cmp2]
    (repeat' split) <;> first | rfl | omega

def first0 (a b : Int) : Int := if a = 0 then b else a

set_option maxRecDepth 100000 in
theorem or_any (w : World) (g : Nat) (a b : Int) (h0 : w.cell? ⟨g, 0, none⟩ = some (.int .i64 a)) (h1 : w.cell? ⟨g, 1, none⟩ = some (.int .i64 b)):
   Calls Tryd.prog 29 #[.slice (some ⟨g, 0, none⟩) 2 2] w fun e w' => e = .returned (.int .i64 (first0 a b)) ∧ Below w.heap.size w w' := by
  by_cases ha : a = 0
  · subst ha
    by_cases hb : b = 0
    · subst hb
      go_enter Tryd.func29, Tryd.ntmps29
      go_wp2_with fail
      refine wp_loop_rounds 3 ?_
      rw [rounds_succ]
      go_wp2_with fail
      rw [rounds_succ]
      go_wp2_with fail
      rw [rounds_succ]
      go_wp2_with fail
      go_ret
      refine ⟨rfl, ?_⟩
      go_grown
    · have hb2 : (b != 0) = true := by simp [hb]
      have hb3 : (b == 0) = false := by simp [hb]
      go_enter Tryd.func29, Tryd.ntmps29
      go_wp2_with fail
      refine wp_loop_rounds 3 ?_
      rw [rounds_succ]
      go_wp2_with fail
      rw [rounds_succ]
      go_wp2_with fail
      go_ret
      refine ⟨rfl, ?_⟩
      go_grown
  · have hb2 : (a != 0) = true := by simp [ha]
    have hb3 : (a == 0) = false := by simp [ha]
    have e : first0 a b = a := by unfold first0; rw [if_neg ha]
    rw [e]
    go_enter Tryd.func29, Tryd.ntmps29
    go_wp2_with fail
    refine wp_loop_rounds 3 ?_
    rw [rounds_succ]
    go_wp2_with fail
    go_ret
    refine ⟨rfl, ?_⟩
    go_grown

set_option maxRecDepth 100000 in
set_option maxHeartbeats 4000000 in
theorem comp_any (a b c d : Int) (w : World) :
   Calls Tryd.prog 23 #[.agg #[.int .i64 a, .int .i64 b], .agg #[.int .i64 c, .int .i64 d]] w fun e w' => e = .returned (.int .i64 (cmp2 a b c d)) ∧ Below w.heap.size w w' := by
  have cc := hide (fun x y w => Tryd.cmp_Compare_int x y w)
  go_enter Tryd.func23, Tryd.ntmps23
  go_wp2_with fail
  obtain ⟨W0, hW0⟩ : ∃ W0, W0 = ((w.alloc (Obj.cells #[Value.int IntKind.i64 a, Value.int IntKind.i64 b] 30)).alloc (Obj.cells #[Value.int IntKind.i64 c, Value.int IntKind.i64 d] 30)) := ⟨_, rfl⟩
  have k0 : W0.heap[w.heap.size]? = some (Obj.cells #[Value.int IntKind.i64 a, Value.int IntKind.i64 b] 30) := by rw [hW0]; exact blk_alloc (blk_new w _)
  have k1 : W0.heap[w.heap.size + 1]? = some (Obj.cells #[Value.int IntKind.i64 c, Value.int IntKind.i64 d] 30) := by
    rw [hW0]
    have := blk_new (w.alloc (Obj.cells #[Value.int IntKind.i64 a, Value.int IntKind.i64 b] 30)) (Obj.cells #[Value.int IntKind.i64 c, Value.int IntKind.i64 d] 30)
    simpa using this
  have qB : Below w.heap.size w W0 := by rw [hW0]; exact ((Below.refl _ w).alloc (Nat.le_refl _) _).alloc (by simp) _
  have HB := hide qB
  rw [← hW0]
  clear hW0 qB
  obtain ⟨A, hA⟩ : ∃ A, w.heap.size = A := ⟨_, rfl⟩
  rw [hA] at k0 k1 ⊢
  clear hA
  have A0 := blk_cell k0 0
  have A1 := blk_cell k0 1
  have B0 := blk_cell k1 0
  have B1 := blk_cell k1 1
  have lA := blk_lt k0
  have lB := blk_lt k1
  clear k0 k1
  have hb := blk_new W0 (Obj.cells #[Value.int IntKind.i64 (Lib.compareInt a c), Value.int IntKind.i64 (Lib.compareInt b d)] 3)
  have oo := hide (or_any (W0.alloc (Obj.cells #[Value.int IntKind.i64 (Lib.compareInt a c), Value.int IntKind.i64 (Lib.compareInt b d)] 3)).drew W0.heap.size (Lib.compareInt a c) (Lib.compareInt b d) (blk_cell hb 0) (blk_cell hb 1))
  have hal := hide (((Below.refl _ W0).alloc (Nat.le_refl _) (Obj.cells #[Value.int IntKind.i64 (Lib.compareInt a c), Value.int IntKind.i64 (Lib.compareInt b d)] 3)).drew)
  have hsz : W0.heap.size ≤ (W0.alloc (Obj.cells #[Value.int IntKind.i64 (Lib.compareInt a c), Value.int IntKind.i64 (Lib.compareInt b d)] 3)).drew.heap.size := by simp
  have he : Hid (first0 (Lib.compareInt a c) (Lib.compareInt b d) = cmp2 a b c d) := by
    unfold Hid first0 cmp2 Lib.compareInt
    (repeat' split) <;> first | rfl | omega
  clear hb
  go_wp2_with fail
  go_region_held3 (fun w' => w'.cell? ⟨A, 0, none⟩ = some (.int .i64 a) ∧ w'.cell? ⟨A, 1, none⟩ = some (.int .i64 b) ∧ w'.cell? ⟨A + 1, 0, none⟩ = some (.int .i64 c) ∧ w'.cell? ⟨A + 1, 1, none⟩ = some (.int .i64 d))
    (go_keep)
    (first
      | (go_at_call 30; refine (cc.out _ _ _).mono ?_; rintro e w3 ⟨rfl, rfl⟩)
      | (go_at_call 29; refine oo.out.mono ?_; rintro e w3 ⟨rfl, h3⟩; have Hd : Below W0.heap.size W0 w3 := hal.out.trans (h3.mono hsz); have DA0 := (Hd.cell (p := ⟨A, 0, none⟩) lA).trans A0; have DA1 := (Hd.cell (p := ⟨A, 1, none⟩) lA).trans A1; have DB0 := (Hd.cell (p := ⟨A + 1, 0, none⟩) lB).trans B0; have DB1 := (Hd.cell (p := ⟨A + 1, 1, none⟩) lB).trans B1; have H3 := hide Hd; clear Hd h3))
  all_goals
    go_wp2_with fail
    go_ret
    exact ⟨ret_int he.out, HB.out.trans (H3.out.mono HB.out.size)⟩
end Go.Proofs.YtcabkkfehdcagaaDoor
