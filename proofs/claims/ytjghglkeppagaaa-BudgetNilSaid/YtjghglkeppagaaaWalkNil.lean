/- The walk of BudgetNil. -/
import Derived.Test.YtjghglkeppagaaaWalkAlls
namespace Go.Proofs.Ytjghglkeppagaaa
open Go.RowKit

theorem pAll_one_nil (g cap : Nat) (n : Int) (w : World) (hc : w.cell? ⟨g, 0, none⟩ = some (.int .i64 n)) :
    Calls Try.prog 12 #[.pointer none, .slice (some ⟨g, 0, none⟩) 1 cap] w fun e w' => e = .returned (.bool false) ∧ w = w' := by
  have sp := hide (pSpend_nil n w)
  go_enter Try.func12, Try.ntmps12
  go_wp2_with fail
  refine wp_loop_rounds 1 ?_
  rw [rounds_succ]
  go_wp2_with fail
  refine sp.out.mono ?_
  rintro e w1 ⟨rfl, rfl⟩
  go_wp2_with fail
  go_ret
  exact ⟨rfl, rfl⟩

theorem nil_walk (n : Int) (w : World) :
    Calls Try.prog 7 #[.int .i64 n] w fun e w' => e = .returned (.bool true) ∧ Below w.heap.size w w' := by
  go_enter Try.func7, Try.ntmps7
  go_wp2_with fail
  refine (pSplit_nil _ _).mono ?_
  rintro e w1 ⟨rfl, p1, g1⟩
  have p1' := (p1.chg ((Chg.refl (fun _ => False) w1).alloc (.cells #[.pointer (some ⟨w.heap.size, 0, none⟩)] 24)) (fun h => h))
  have g1' := g1.alloc (.cells #[.pointer (some ⟨w.heap.size, 0, none⟩)] 24)
  have P1 := hide p1'
  have G1 := hide g1'
  clear p1 p1' g1 g1'
  go_wp2_with fail
  refine (pBack_nil _ _).mono ?_
  rintro e w2 ⟨rfl, rfl⟩
  go_wp2_with fail
  have hq : wrap64 (-1 - wrap64 (IntKind.u64.wrap n / 2)) < 0 := by
    have h0 : 0 ≤ IntKind.u64.wrap n ∧ IntKind.u64.wrap n < 18446744073709551616 := by rw [IntKind.wrap_u64]; omega
    rw [wrap_in (IntKind.u64.wrap n / 2) (by omega), wrap_in _ (by omega)]
    omega
  generalize wrap64 (-1 - wrap64 (IntKind.u64.wrap n / 2)) = q at hq ⊢
  generalize (w1.alloc (Obj.cells #[Value.pointer (some ⟨w.heap.size, 0, none⟩)] 24)) = W at P1 G1 ⊢
  refine (pNew_at q 0 (Or.inl ⟨hq, rfl⟩) _).mono ?_
  rintro e w2 ⟨rfl, p2, g2⟩
  have P2 := hide p2
  have G2 := hide g2
  clear p2 g2 hq
  go_wp2_with fail
  refine (known_any _).mono ?_
  rintro e w3 ⟨rfl, g3⟩
  have G3 := hide g3
  clear g3
  go_wp2_with fail
  refine (pSpend_nil _ _).mono ?_
  rintro e w4 ⟨rfl, rfl⟩
  go_wp2_with fail
  refine (pAll_one_nil _ _ n _ (by simp)).mono ?_
  rintro e w4 ⟨rfl, rfl⟩
  have g4 := (Chg.refl (fun _ => False) w3).alloc (.cells #[.int .i64 n] 3)
  have G4 := hide g4
  clear g4
  generalize (w3.alloc (.cells #[.int .i64 n] 3)) = w4 at G4 ⊢
  go_wp2_with fail
  refine (pAll_nil _ _ _ _).mono ?_
  rintro e w5 ⟨rfl, rfl⟩
  go_wp2_with fail
  refine (left_nil _).mono ?_
  rintro e w5 ⟨rfl, rfl⟩
  go_wp2_with fail
  refine (used_nil _).mono ?_
  rintro e w5 ⟨rfl, rfl⟩
  go_wp2_with fail
  refine (dry_nil _).mono ?_
  rintro e w5 ⟨rfl, rfl⟩
  have q1 : PB w4 w.heap.size 0 0 false := ((P1.out.chg G2.out (fun h => h)).chg G3.out (fun h => h)).chg G4.out (fun h => h)
  have q2 : PB w4 W.heap.size 0 0 false := (P2.out.chg G3.out (fun h => h)).chg G4.out (fun h => h)
  have Q1 := hide q1
  have Q2 := hide q2
  clear q1 q2
  go_wp2_with fail
  refine (pLeft _ _ _ _ _ Q1.out).mono ?_
  rintro e w5 ⟨rfl, rfl⟩
  go_wp2_with fail
  refine (pLeft _ _ _ _ _ Q2.out).mono ?_
  rintro e w5 ⟨rfl, rfl⟩
  go_wp2_with fail
  refine (pDry _ _ _ _ _ Q2.out).mono ?_
  rintro e w5 ⟨rfl, rfl⟩
  go_wp2_with fail
  refine (pSpend_yes _ _ _ _ _ Q2.out (by omega) (by omega) (by omega) (by omega)).mono ?_
  rintro e w5 ⟨rfl, p5, g5⟩
  have P5 : Hid (PB w5 W.heap.size 0 0 false) := p5
  have G5 := hide g5
  clear p5 g5
  go_wp2_with fail
  refine (pSpend_no _ _ _ _ _ _ P5.out (by omega) (by omega) (by omega) (by omega) (by omega)).mono ?_
  rintro e w6 ⟨rfl, p6, g6⟩
  have G6 := hide g6
  clear p6 g6
  go_wp2_with fail
  go_ret
  refine ⟨rfl, ?_⟩
  have s1 := G1.out.size
  have h1 : Chg (fun k => w.heap.size ≤ k) w w4 := (((G1.out.trans G2.out).trans G3.out).trans G4.out).mono (fun _ _ h => h.elim)
  have h2 : Chg (fun k => w.heap.size ≤ k) w w6 := h1.trans ((G5.out.trans G6.out).mono (fun k _ h => by omega))
  exact h2.below (Nat.le_refl _) (fun k h => h)
end Go.Proofs.Ytjghglkeppagaaa
