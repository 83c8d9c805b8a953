/- known: the chapter's examples. -/
import Derived.Test.YtdcpcemihpkkaaaLine
namespace Go.Proofs.Ytdcpcemihpkkaaa
open Go.RowKit Go.Maps
set_option linter.unusedVariables false
set_option linter.unusedSimpArgs false

theorem irow_made1 (w : World) (x y : Int) : IRow (w.alloc (.cells #[.int .i64 x, .int .i64 y] 43)) (w.heap.size + 1) (.slice (some ⟨w.heap.size, 0, none⟩) 1 1) [(x, y)] := by
  refine ⟨_, 1, rfl, Or.inr ⟨w.heap.size, 0, rfl, Nat.lt_succ_self _, fun i hi => ?_⟩⟩
  have h0 : i = 0 := by simp at hi; omega
  subst h0
  exact ⟨by rw [blk_cell (blk_new w _)]; rfl, by rw [blk_cell (blk_new w _)]; rfl⟩
theorem irow_made2 (w : World) (x y z u : Int) : IRow (w.alloc (.cells #[.int .i64 x, .int .i64 y, .int .i64 z, .int .i64 u] 43)) (w.heap.size + 1) (.slice (some ⟨w.heap.size, 0, none⟩) 2 2) [(x, y), (z, u)] := by
  refine ⟨_, 2, rfl, Or.inr ⟨w.heap.size, 0, rfl, Nat.lt_succ_self _, fun i hi => ?_⟩⟩
  have h0 : i = 0 ∨ i = 1 := by simp at hi; omega
  rcases h0 with h0 | h0 <;> subst h0 <;> exact ⟨by rw [blk_cell (blk_new w _)]; rfl, by rw [blk_cell (blk_new w _)]; rfl⟩
theorem irow_none (w : World) (B : Nat) : IRow w B (.slice none 0 0) [] := ⟨none, 0, rfl, Or.inl rfl⟩
theorem ints_made3 (w : World) (x y z : Int) : Ints (w.alloc (.cells #[.int .i64 x, .int .i64 y, .int .i64 z] 3)) (w.heap.size + 1) (.slice (some ⟨w.heap.size, 0, none⟩) 3 3) [x, y, z] := by
  refine ⟨_, 3, rfl, Or.inr ⟨w.heap.size, 0, rfl, Nat.lt_succ_self _, fun i hi => ?_⟩⟩
  have h0 : i = 0 ∨ i = 1 ∨ i = 2 := by simp at hi; omega
  rcases h0 with h0 | h0 | h0 <;> subst h0 <;> (rw [blk_cell (blk_new w _)]; rfl)

theorem al_size (w : World) (o : Obj) : w.heap.size + 1 ≤ (w.alloc o).heap.size := blk_lt (blk_new w o)

theorem bd_a : Bd [(0, 2)] 3 := fun p hp => by simp at hp; subst hp; decide
theorem bd_b : Bd [(2, 0)] 3 := fun p hp => by simp at hp; subst hp; decide
theorem code_a : newCode 3 [(0, 2)] [] = 0 := by decide
theorem code_b : newCode 3 [(2, 0)] [] = 0 := by decide
theorem code_c : newCode 2 [(0, 1), (1, 0)] [] = 8 := by decide
theorem line_a : lineG 3 [(0, 2)] 3 (cntP (pairsF 3 [(0, 2)] 3)) = some [0, 1, 2] := by decide
theorem line_b : lineG 3 [(2, 0)] 3 (cntP (pairsF 3 [(2, 0)] 3)) = some [1, 2, 0] := by decide

set_option maxRecDepth 100000 in
set_option maxHeartbeats 16000000 in
theorem known_any (w : World) : Calls Try.prog 10 #[] w fun e w' => e = .returned (.bool true) ∧ Chg (fun _ => False) w w' := by
  have hn := hide (fun (n : Int) (pv : Value) (rp : List (Int × Int)) (hlp : rp.length ≤ 1000) (Bi : Nat) (w : World) (hBi : Bi ≤ w.heap.size) (hp : IRow w Bi pv rp) => new_any n pv (.slice none 0 0) rp [] hlp (Nat.zero_le _) (fun s h => by cases h) Bi w hBi hp (irow_none w Bi))
  have m1 := hide (fun w => irow_made1 w 0 2)
  have m2 := hide (fun w => irow_made1 w 2 0)
  have m3 := hide (fun w => irow_made2 w 0 1 1 0)
  have i1 := hide (fun w => ints_made3 w 0 1 2)
  have i2 := hide (fun w => ints_made3 w 1 2 0)
  have C1 := hide (al w (.cells #[.int .i64 0, .int .i64 2] 43))
  have n1 := hide (hn.out 3 _ [(0, 2)] (by decide) _ _ (al_size _ _) (m1.out w))
  go_enter Try.func10, Try.ntmps10
  go_wp2_with fail
  refine n1.out.mono ?_
  rintro e wa ⟨h1, g1⟩
  rcases h1 with ⟨h1, _⟩ | ⟨_, ba, Ba, sva, rfl, hba, hBa, ra, _, ia⟩
  · exact absurd code_a h1
  obtain ⟨sa1, sa2, rfl, _⟩ := ia
  have A1 := hide ra
  have C2 := hide (C1.out.trans g1)
  have HA : Hid (w.heap.size ≤ ba) := hide (Nat.le_trans C1.out.size hba)
  clear ra g1 n1 C1 m1 hba hBa
  have C3 := hide (al wa (.cells #[.int .i64 2, .int .i64 0] 43))
  have n2 := hide (hn.out 3 _ [(2, 0)] (by decide) _ _ (al_size _ _) (m2.out wa))
  go_wp2_with fail
  refine n2.out.mono ?_
  rintro e wb ⟨h1, g1⟩
  rcases h1 with ⟨h1, _⟩ | ⟨_, bb, Bb, svb, rfl, hbb, hBb, rb, _, ib⟩
  · exact absurd code_b h1
  obtain ⟨sb1, sb2, rfl, _⟩ := ib
  have B1 := hide rb
  have C4 := hide (C3.out.trans g1)
  have A2 := hide (A1.out.chg C4.out (fun _ _ h => h))
  have HAB : Hid (ba < bb) := hide (Nat.lt_of_lt_of_le A1.out.lt (Nat.le_trans C3.out.size hbb))
  have C5 := hide (C2.out.trans C4.out)
  clear rb g1 n2 C3 m2 hbb hBb A1 C2 C4
  have C6 := hide (al wb (.cells #[.int .i64 0, .int .i64 1, .int .i64 1, .int .i64 0] 43))
  have n3 := hide (hn.out 2 _ [(0, 1), (1, 0)] (by decide) _ _ (al_size _ _) (m3.out wb))
  go_wp2_with fail
  refine n3.out.mono ?_
  rintro e wc ⟨h1, g1⟩
  rcases h1 with ⟨_, rfl⟩ | ⟨h1, _⟩
  rotate_left 1
  · rw [code_c] at h1; exact absurd h1 (by decide)
  rw [code_c]
  have C7 := hide (C6.out.trans g1)
  have A3 := hide (A2.out.chg C7.out (fun _ _ h => h))
  have B3 := hide (B1.out.chg C7.out (fun _ _ h => h))
  have C8 := hide (C5.out.trans C7.out)
  clear g1 n3 C6 m3 A2 B1 C5 C7 hn
  have la := hide (line_some ba 3 (by decide) [(0, 2)] (by decide) bd_a (.map (some Ba)) (.slice sa1 (List.length ([] : List (Int × Int))) sa2) [0, 1, 2] line_a wc A3.out)
  go_wp2_with fail
  refine la.out.mono ?_
  rintro e wd ⟨⟨v1, rfl, o1⟩, r1, g1⟩
  have O1 := hide (o1.chg (al wd (.cells #[.int .i64 0, .int .i64 1, .int .i64 2] 3)) (fun _ _ h => h))
  have B4 := hide ((B3.out.chgR A3.out (by have := HAB.out; omega) g1).chg (al wd (.cells #[.int .i64 0, .int .i64 1, .int .i64 2] 3)) (fun _ _ h => h))
  have C9 := hide ((C8.out.none.trans g1).trans (al wd (.cells #[.int .i64 0, .int .i64 1, .int .i64 2] 3)).none)
  clear o1 r1 g1 la A3 B3 C8
  have k1 := hide (like_any v1 _ [0, 1, 2] [0, 1, 2] (by decide) _ _ _ O1.out (i1.out wd))
  go_wp2_with fail
  refine k1.out.mono ?_
  rintro e we ⟨rfl, g1⟩
  have B5 := hide (B4.out.chg g1 (fun _ _ h => h))
  have C10 := hide (C9.out.trans g1.none)
  clear g1 k1 O1 B4 C9 i1
  have lb := hide (line_some bb 3 (by decide) [(2, 0)] (by decide) bd_b (.map (some Bb)) (.slice sb1 (List.length ([] : List (Int × Int))) sb2) [1, 2, 0] line_b we B5.out)
  go_wp2_with fail
  refine lb.out.mono ?_
  rintro e wf ⟨⟨v2, rfl, o2⟩, r2, g2⟩
  have O2 := hide (o2.chg (al wf (.cells #[.int .i64 1, .int .i64 2, .int .i64 0] 3)) (fun _ _ h => h))
  have C11 := hide ((C10.out.mono (T := fun x => x = ba ∨ x = bb) (fun _ _ h => Or.inl h)).trans (g2.mono (T := fun x => x = ba ∨ x = bb) (fun _ _ h => Or.inr h)))
  have C12 := hide (C11.out.trans (al wf (.cells #[.int .i64 1, .int .i64 2, .int .i64 0] 3)).none)
  clear o2 r2 g2 lb B5 C10 C11
  have k2 := hide (like_any v2 _ [1, 2, 0] [1, 2, 0] (by decide) _ _ _ O2.out (i2.out wf))
  go_wp2_with fail
  refine k2.out.mono ?_
  rintro e wg ⟨rfl, g2⟩
  have F : Hid (Chg (fun _ => False) w wg) := hide ((C12.out.trans g2.none).mono (fun x hx h => by have := HA.out; have := HAB.out; omega))
  clear g2 k2 O2 C12 i2
  go_wp2_with fail
  go_ret
  exact ⟨rfl, F.out⟩

end Go.Proofs.Ytdcpcemihpkkaaa
