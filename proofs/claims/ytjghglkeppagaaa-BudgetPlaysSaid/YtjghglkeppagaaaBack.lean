/- budget's Back, as the laws call it. -/
import Derived.Test.YtjghglkeppagaaaAll
import Derived.LaidEqlPtr
namespace Go.Proofs.Ytjghglkeppagaaa
open Go.RowKit

theorem info60 : (Try.prog.info? 60).map (fun i => decide (i.size = 0)) = some false := by kernel_rfl

theorem eql_same (b : Nat) (w : World) : (binOp .eql 24 (.pointer (some ⟨b, 0, none⟩)) (.pointer (some ⟨b, 0, none⟩))).run Try.prog w = .ok (.bool true) w := by
  obtain ⟨i, hi, _⟩ := Option.map_eq_some_iff.1 info60
  exact run_eql_ptr_same w _ Try.underlying24 hi

theorem eql_other {b o : Nat} (hbo : b ≠ o) {w : World} {l u l2 u2 d d2 : Int} (h : Bud w b l u d) (k : Bud w o l2 u2 d2) :
    (binOp .eql 24 (.pointer (some ⟨o, 0, none⟩)) (.pointer (some ⟨b, 0, none⟩))).run Try.prog w = .ok (.bool false) w := by
  obtain ⟨i, hi, hz⟩ := Option.map_eq_some_iff.1 info60
  exact run_eql_ptr_other w Try.underlying24 hi (by simpa using hz) (by intro e; injection e with e1; exact hbo e1.symm) k h

/-- what comes back of another one -/
theorem pBack_other (b o g off cap : Nat) (l u l2 u2 : Int) (d d2 : Bool) (w : World) (hbo : b ≠ o) (h : PB w b l u d) (k : PB w o l2 u2 d2)
    (hc : w.cell? ⟨g, off, none⟩ = some (.pointer (some ⟨o, 0, none⟩)))
    (hl : 0 ≤ l ∧ l ≤ 100000000) (hu : -1000000000 ≤ u ∧ u ≤ 1000000000) (hl2 : 0 ≤ l2 ∧ l2 ≤ 100000000) (hu2 : -1000000000 ≤ u2 ∧ u2 ≤ 1000000000) :
    Calls Try.prog 17 #[.pointer (some ⟨b, 0, none⟩), .slice (some ⟨g, off, none⟩) 1 cap] w fun e w' =>
      e = .returned (.tuple #[]) ∧ PB w' b (l + l2) (u - l2) (d || d2) ∧ PB w' o 0 (u2 + l2) d2 ∧ Chg (fun k => k = b ∨ k = o) w w' := by
  have hob : ¬ o = b := fun e => hbo e.symm
  have hbo2 : ¬ b = o := hbo
  have hne := eql_other hbo h k
  have q1 := hide (pLeft o l2 u2 d2 w k)
  have q2 := hide (pTake o l2 u2 l2 d2 w k (by omega) (by omega) (by omega))
  obtain ⟨hl1, hl3⟩ := hl
  obtain ⟨hl4, hl5⟩ := hl2
  have e1 : l2 - l2 = 0 := by omega
  rw [e1] at q2
  have H := hide (And.intro h (And.intro hu hu2))
  clear h k hu hu2 e1
  go_enter Try.func17, Try.ntmps17
  go_wp2_with fail
  refine wp_loop_rounds 2 ?_
  rw [rounds_succ]
  go_wp2_with fail
  refine q1.out.mono ?_
  rintro e w1 ⟨rfl, rfl⟩
  go_wp2_with fail
  refine q2.out.mono ?_
  rintro e w1 ⟨rfl, h1, g1⟩
  go_wp2_with fail
  refine (pTake b l u (-l2) d w1 (H.out.1.chg g1 hbo) (by omega) (by have := H.out.2; omega) (by omega)).mono ?_
  rintro e w2 ⟨rfl, h2, g2⟩
  rw [show l - -l2 = l + l2 by omega, show u + -l2 = u - l2 by omega] at h2
  have h3 := h1.chg g2 hob
  have g3 : Chg (fun k => k = b ∨ k = o) w w2 := (g1.mono (fun _ _ h => Or.inr h)).trans (g2.mono (fun _ _ h => Or.inl h))
  clear g1 g2 h1
  go_wp2_with fail
  refine (pDry _ _ _ _ _ h3).mono ?_
  rintro e w3 ⟨rfl, rfl⟩
  cases d2
  · have H3 := hide (And.intro h2 (And.intro h3 g3))
    clear h2 h3 g3
    go_wp2_with fail
    rw [rounds_succ]
    go_wp2_with fail
    go_end0
    exact ⟨rfl, by rw [Bool.or_false]; exact H3.out⟩
  · go_wp2_with fail
    refine (pDried _ _ _ _ _ h2).mono ?_
    rintro e w3 ⟨rfl, h4, g4⟩
    have H3 := hide (And.intro h4 (And.intro (h3.chg g4 hob) (g3.trans (g4.mono (fun _ _ h => Or.inl h)))))
    clear h2 h3 g3 h4 g4
    go_wp2_with fail
    rw [rounds_succ]
    go_wp2_with fail
    go_end0
    exact ⟨rfl, by rw [Bool.or_true]; exact H3.out⟩

theorem pBack_same (b g off cap : Nat) (w : World) (hc : w.cell? ⟨g, off, none⟩ = some (.pointer (some ⟨b, 0, none⟩))) :
    Calls Try.prog 17 #[.pointer (some ⟨b, 0, none⟩), .slice (some ⟨g, off, none⟩) 1 cap] w fun e w' => e = .returned (.tuple #[]) ∧ w = w' := by
  have hs := eql_same b w
  go_enter Try.func17, Try.ntmps17
  go_wp2_with fail
  refine wp_loop_rounds 2 ?_
  rw [rounds_succ]
  go_wp2_with fail
  rw [rounds_succ]
  go_wp2_with fail
  go_end0
  exact ⟨rfl, rfl⟩

theorem pBack_nil (v : Value) (w : World) :
    Calls Try.prog 17 #[.pointer none, v] w fun e w' => e = .returned (.tuple #[]) ∧ w = w' := by
  go_enter Try.func17, Try.ntmps17
  go_wp2_with fail
  refine bodyPost_ret (results_none rfl _ _ _) rfl ?_
  exact ⟨rfl, rfl⟩

set_option maxHeartbeats 1000000 in
/-- 'b.Back(c, nil, b, c)' -/
theorem pBack_four (b o g : Nat) (l u l2 u2 : Int) (d d2 : Bool) (w : World) (hbo : b ≠ o) (hgb : g ≠ b) (hgo : g ≠ o) (h : PB w b l u d) (k : PB w o l2 u2 d2)
    (c0 : w.cell? ⟨g, 0, none⟩ = some (.pointer (some ⟨o, 0, none⟩))) (c1 : w.cell? ⟨g, 1, none⟩ = some (.pointer none))
    (c2 : w.cell? ⟨g, 2, none⟩ = some (.pointer (some ⟨b, 0, none⟩))) (c3 : w.cell? ⟨g, 3, none⟩ = some (.pointer (some ⟨o, 0, none⟩)))
    (hl : 0 ≤ l ∧ l ≤ 100000000) (hu : -1000000000 ≤ u ∧ u ≤ 1000000000) (hl2 : 0 ≤ l2 ∧ l2 ≤ 100000000) (hu2 : -1000000000 ≤ u2 ∧ u2 ≤ 1000000000) :
    Calls Try.prog 17 #[.pointer (some ⟨b, 0, none⟩), .slice (some ⟨g, 0, none⟩) 4 4] w fun e w' =>
      e = .returned (.tuple #[]) ∧ PB w' b (l + l2) (u - l2) (d || d2) ∧ PB w' o 0 (u2 + l2) d2 ∧ Chg (fun k => k = b ∨ k = o) w w' := by
  have hob : ¬ o = b := fun e => hbo e.symm
  have hbo2 : ¬ b = o := hbo
  have hne := eql_other hbo h k
  have q1 := hide (pLeft o l2 u2 d2 w k)
  have q2 := hide (pTake o l2 u2 l2 d2 w k (by omega) (by omega) (by omega))
  obtain ⟨hl1, hl3⟩ := hl
  obtain ⟨hl4, hl5⟩ := hl2
  have e1 : l2 - l2 = 0 := by omega
  rw [e1] at q2
  have H := hide (And.intro h (And.intro hu hu2))
  have H1 := hide c1
  have H2 := hide c2
  have H3 := hide c3
  clear h k hu hu2 e1 c1 c2 c3
  go_enter Try.func17, Try.ntmps17
  go_wp2_with fail
  refine wp_loop_rounds 5 ?_
  rw [rounds_succ]
  go_wp2_with fail
  refine q1.out.mono ?_
  rintro e w1 ⟨rfl, rfl⟩
  go_wp2_with fail
  refine q2.out.mono ?_
  rintro e w1 ⟨rfl, h1, g1⟩
  go_wp2_with fail
  refine (pTake b l u (-l2) d w1 (H.out.1.chg g1 hbo) (by omega) (by have := H.out.2; omega) (by omega)).mono ?_
  rintro e w2 ⟨rfl, h2, g2⟩
  rw [show l - -l2 = l + l2 by omega, show u + -l2 = u - l2 by omega] at h2
  have h3 := h1.chg g2 hob
  have g3 : Chg (fun k => k = b ∨ k = o) w w2 := (g1.mono (fun _ _ h => Or.inr h)).trans (g2.mono (fun _ _ h => Or.inl h))
  clear g1 g2 h1
  go_wp2_with fail
  refine (pDry _ _ _ _ _ h3).mono ?_
  rintro e w3 ⟨rfl, rfl⟩
  cases d2
  · have F := hide (And.intro h2 (And.intro h3 g3))
    clear h2 h3 g3
    have hs := eql_same b w2
    have hne4 := eql_other hbo F.out.1 F.out.2.1
    have c1 := F.out.2.2.cell (by simp [hgb, hgo]) H1.out
    have c2 := F.out.2.2.cell (by simp [hgb, hgo]) H2.out
    have c3 := F.out.2.2.cell (by simp [hgb, hgo]) H3.out
    have Q3 := hide (pLeft o 0 (u2 + l2) false w2 F.out.2.1)
    have Q4 := hide (pTake o 0 (u2 + l2) 0 false w2 F.out.2.1 (by omega) (by have := H.out.2; omega) (by omega))
    rw [show (0 : Int) - 0 = 0 by omega, show u2 + l2 + 0 = u2 + l2 by omega] at Q4
    go_wp2_with fail
    rw [rounds_succ]
    go_wp2_with fail
    rw [rounds_succ]
    go_wp2_with fail
    rw [rounds_succ]
    go_wp2_with fail
    refine Q3.out.mono ?_
    rintro e w5 ⟨rfl, rfl⟩
    go_wp2_with fail
    refine Q4.out.mono ?_
    rintro e w5 ⟨rfl, h5, g5⟩
    go_wp2_with fail
    refine (pTake b (l + l2) (u - l2) 0 _ w5 (F.out.1.chg g5 hbo) (by omega) (by have := H.out.2; omega) (by omega)).mono ?_
    rintro e w6 ⟨rfl, h6, g6⟩
    rw [show l + l2 - 0 = l + l2 by omega, show u - l2 + 0 = u - l2 by omega] at h6
    have h7 := h5.chg g6 hob
    have g7 : Chg (fun k => k = b ∨ k = o) w w6 := F.out.2.2.trans ((g5.mono (fun _ _ h => Or.inr h)).trans (g6.mono (fun _ _ h => Or.inl h)))
    clear g5 g6 h5
    go_wp2_with fail
    refine (pDry _ _ _ _ _ h7).mono ?_
    rintro e w7 ⟨rfl, rfl⟩
    have F2 := hide (And.intro h6 (And.intro h7 g7))
    clear h6 h7 g7
    go_wp2_with fail
    rw [rounds_succ]
    go_wp2_with fail
    go_end0
    exact ⟨rfl, by rw [Bool.or_false]; exact F2.out⟩
  · go_wp2_with fail
    refine (pDried _ _ _ _ _ h2).mono ?_
    rintro e w3 ⟨rfl, h4, g4⟩
    have F := hide (And.intro h4 (And.intro (h3.chg g4 hob) (g3.trans (g4.mono (fun _ _ h => Or.inl h)))))
    clear h2 h3 g3 h4 g4
    have hs := eql_same b w3
    have hne4 := eql_other hbo F.out.1 F.out.2.1
    have c1 := F.out.2.2.cell (by simp [hgb, hgo]) H1.out
    have c2 := F.out.2.2.cell (by simp [hgb, hgo]) H2.out
    have c3 := F.out.2.2.cell (by simp [hgb, hgo]) H3.out
    have Q3 := hide (pLeft o 0 (u2 + l2) true w3 F.out.2.1)
    have Q4 := hide (pTake o 0 (u2 + l2) 0 true w3 F.out.2.1 (by omega) (by have := H.out.2; omega) (by omega))
    rw [show (0 : Int) - 0 = 0 by omega, show u2 + l2 + 0 = u2 + l2 by omega] at Q4
    go_wp2_with fail
    rw [rounds_succ]
    go_wp2_with fail
    rw [rounds_succ]
    go_wp2_with fail
    rw [rounds_succ]
    go_wp2_with fail
    refine Q3.out.mono ?_
    rintro e w5 ⟨rfl, rfl⟩
    go_wp2_with fail
    refine Q4.out.mono ?_
    rintro e w5 ⟨rfl, h5, g5⟩
    go_wp2_with fail
    refine (pTake b (l + l2) (u - l2) 0 _ w5 (F.out.1.chg g5 hbo) (by omega) (by have := H.out.2; omega) (by omega)).mono ?_
    rintro e w6 ⟨rfl, h6, g6⟩
    rw [show l + l2 - 0 = l + l2 by omega, show u - l2 + 0 = u - l2 by omega] at h6
    have h7 := h5.chg g6 hob
    have g7 : Chg (fun k => k = b ∨ k = o) w w6 := F.out.2.2.trans ((g5.mono (fun _ _ h => Or.inr h)).trans (g6.mono (fun _ _ h => Or.inl h)))
    clear g5 g6 h5
    go_wp2_with fail
    refine (pDry _ _ _ _ _ h7).mono ?_
    rintro e w7 ⟨rfl, rfl⟩
    go_wp2_with fail
    refine (pDried _ _ _ _ _ h6).mono ?_
    rintro e w8 ⟨rfl, h8, g8⟩
    have F2 := hide (And.intro h8 (And.intro (h7.chg g8 hob) (g7.trans (g8.mono (fun _ _ h => Or.inl h)))))
    clear h6 h7 g7 h8 g8
    go_wp2_with fail
    rw [rounds_succ]
    go_wp2_with fail
    go_end0
    exact ⟨rfl, by rw [Bool.or_true]; exact F2.out⟩

end Go.Proofs.Ytjghglkeppagaaa
