/- parse.Term, parse.Type. -/
import Derived.Test.YtboeeaekhijboaaPparsedT
namespace Go.Proofs.Ytboeeaekhijboaa
open Go.RowKit
set_option linter.unusedVariables false
set_option linter.unusedSimpArgs false

set_option maxRecDepth 100000 in
set_option maxHeartbeats 4000000 in
theorem term14_any (s : ByteArray) (hs : s.size ≤ 20000) (w : World) :
    Calls Try.prog 14 #[.string s] w fun e w' => (∃ u, e = .returned (.tuple #[u, f4V (resS zN s (termS (lexT s) s 60 0)).1]) ∧ NV w' (fun x => w.heap.size ≤ x ∧ x < w'.heap.size) u (resS zN s (termS (lexT s) s 60 0)).2) ∧ Chg (fun _ => False) w w' := by
  obtain ⟨RR, hRR⟩ : ∃ RR, resS zN s (termS (lexT s) s 60 0) = RR := ⟨_, rfl⟩
  have PI := hide (fun w => parsedT_any s hs w)
  rw [hRR] at PI ⊢
  clear hRR hs
  obtain ⟨⟨f0, f1, f2, f3⟩, l⟩ := RR
  dsimp only at PI ⊢
  have ev : f4V (f0, f1, f2, f3) = .agg #[.int .i64 f0, .int .i64 f1, .int .i64 f2, .string f3] := rfl
  rw [ev] at PI ⊢
  clear ev
  have GA := al w (.cells #[.int .i64 0, .string ⟨#[]⟩, .int .i64 0, .slice none 0 0] 51)
  have BA := blk_new w (.cells #[.int .i64 0, .string ⟨#[]⟩, .int .i64 0, .slice none 0 0] 51)
  have GB := al (w.alloc (.cells #[.int .i64 0, .string ⟨#[]⟩, .int .i64 0, .slice none 0 0] 51)) (.cells #[.int .i64 0, .int .i64 0, .int .i64 0, .string ⟨#[]⟩] 27)
  have BB := blk_new (w.alloc (.cells #[.int .i64 0, .string ⟨#[]⟩, .int .i64 0, .slice none 0 0] 51)) (.cells #[.int .i64 0, .int .i64 0, .int .i64 0, .string ⟨#[]⟩] 27)
  have s1 := al_sz w (.cells #[.int .i64 0, .string ⟨#[]⟩, .int .i64 0, .slice none 0 0] 51)
  rw [s1] at BB
  obtain ⟨A, hA⟩ : ∃ A, w.heap.size = A := ⟨_, rfl⟩
  obtain ⟨B, hB⟩ : ∃ B, A + 1 = B := ⟨_, rfl⟩
  rw [hA] at BA BB
  rw [hB] at BB
  have G1 := hide (GA.trans GB)
  have A1 := hide (GB.blk BA)
  have B1 := hide BB
  have HB : Hid (w.heap.size = A ∧ A + 1 = B) := hide ⟨hA, hB⟩
  clear GA BA GB BB s1
  go_enter Try.func14, Try.ntmps14
  go_wp2_with fail
  try rw [hA]
  try rw [hB]
  clear hA hB
  generalize ((w.alloc (.cells #[.int .i64 0, .string ⟨#[]⟩, .int .i64 0, .slice none 0 0] 51)).alloc (.cells #[.int .i64 0, .int .i64 0, .int .i64 0, .string ⟨#[]⟩] 27)) = w1 at *
  refine (PI.out w1).mono ?_
  rintro e w2 ⟨⟨u, rfl, hl⟩, g2⟩
  obtain ⟨n0, n1, n2, n3⟩ := l
  obtain ⟨na, nc, rfl, hn⟩ := hl
  dsimp only [Nd.kind, Nd.word, Nd.at, Nd.kids] at hn ⊢
  have A2 := hide (g2.blk A1.out)
  have B2 := hide (g2.blk B1.out)
  have b0 := blk_cell A2.out 0
  have ff0 := blk_free A2.out 0
  have b1 := blk_cell A2.out 1
  have ff1 := blk_free A2.out 1
  have b2 := blk_cell A2.out 2
  have ff2 := blk_free A2.out 2
  have b3 := blk_cell A2.out 3
  have ff3 := blk_free A2.out 3
  have bb0 := blk_cell B2.out 0
  have fg0 := blk_free B2.out 0
  have bb1 := blk_cell B2.out 1
  have fg1 := blk_free B2.out 1
  have bb2 := blk_cell B2.out 2
  have fg2 := blk_free B2.out 2
  have bb3 := blk_cell B2.out 3
  have fg3 := blk_free B2.out 3
  have hAB : ¬ A = B := by have := HB.out; omega
  have hBA : ¬ B = A := by have := HB.out; omega
  go_wp2_with fail
  clear b0 b1 b2 b3 ff0 ff1 ff2 ff3 bb0 bb1 bb2 bb3 fg0 fg1 fg2 fg3
  have NA : Hid (((((w2.setCell ⟨A, 0, none⟩ (.int .i64 n0)).setCell ⟨A, 1, none⟩ (.string n1)).setCell ⟨A, 2, none⟩ (.int .i64 n2)).setCell ⟨A, 3, none⟩ (.slice na n3.len nc)).heap[A]? = some (.cells #[.int .i64 n0, .string n1, .int .i64 n2, .slice na n3.len nc] 51) ∧ Chg (fun x => x = A) w2 ((((w2.setCell ⟨A, 0, none⟩ (.int .i64 n0)).setCell ⟨A, 1, none⟩ (.string n1)).setCell ⟨A, 2, none⟩ (.int .i64 n2)).setCell ⟨A, 3, none⟩ (.slice na n3.len nc))) := hide ⟨(blk_set (blk_set (blk_set (blk_set A2.out 0 (.int .i64 n0)) 1 (.string n1)) 2 (.int .i64 n2)) 3 (.slice na n3.len nc)), ((((Chg.set w2 A 0 (.int .i64 n0)).trans (Chg.set (w2.setCell ⟨A, 0, none⟩ (.int .i64 n0)) A 1 (.string n1))).trans (Chg.set ((w2.setCell ⟨A, 0, none⟩ (.int .i64 n0)).setCell ⟨A, 1, none⟩ (.string n1)) A 2 (.int .i64 n2))).trans (Chg.set (((w2.setCell ⟨A, 0, none⟩ (.int .i64 n0)).setCell ⟨A, 1, none⟩ (.string n1)).setCell ⟨A, 2, none⟩ (.int .i64 n2)) A 3 (.slice na n3.len nc)))⟩
  have B3 := hide (NA.out.2.blkS (by have := HB.out; omega) B2.out)
  have NB : Hid (((((((((w2.setCell ⟨A, 0, none⟩ (.int .i64 n0)).setCell ⟨A, 1, none⟩ (.string n1)).setCell ⟨A, 2, none⟩ (.int .i64 n2)).setCell ⟨A, 3, none⟩ (.slice na n3.len nc)).setCell ⟨B, 0, none⟩ (.int .i64 f0)).setCell ⟨B, 1, none⟩ (.int .i64 f1)).setCell ⟨B, 2, none⟩ (.int .i64 f2)).setCell ⟨B, 3, none⟩ (.string f3)).heap[B]? = some (.cells #[.int .i64 f0, .int .i64 f1, .int .i64 f2, .string f3] 27) ∧ Chg (fun x => x = B) ((((w2.setCell ⟨A, 0, none⟩ (.int .i64 n0)).setCell ⟨A, 1, none⟩ (.string n1)).setCell ⟨A, 2, none⟩ (.int .i64 n2)).setCell ⟨A, 3, none⟩ (.slice na n3.len nc)) ((((((((w2.setCell ⟨A, 0, none⟩ (.int .i64 n0)).setCell ⟨A, 1, none⟩ (.string n1)).setCell ⟨A, 2, none⟩ (.int .i64 n2)).setCell ⟨A, 3, none⟩ (.slice na n3.len nc)).setCell ⟨B, 0, none⟩ (.int .i64 f0)).setCell ⟨B, 1, none⟩ (.int .i64 f1)).setCell ⟨B, 2, none⟩ (.int .i64 f2)).setCell ⟨B, 3, none⟩ (.string f3))) := hide ⟨(blk_set (blk_set (blk_set (blk_set B3.out 0 (.int .i64 f0)) 1 (.int .i64 f1)) 2 (.int .i64 f2)) 3 (.string f3)), ((((Chg.set ((((w2.setCell ⟨A, 0, none⟩ (.int .i64 n0)).setCell ⟨A, 1, none⟩ (.string n1)).setCell ⟨A, 2, none⟩ (.int .i64 n2)).setCell ⟨A, 3, none⟩ (.slice na n3.len nc)) B 0 (.int .i64 f0)).trans (Chg.set (((((w2.setCell ⟨A, 0, none⟩ (.int .i64 n0)).setCell ⟨A, 1, none⟩ (.string n1)).setCell ⟨A, 2, none⟩ (.int .i64 n2)).setCell ⟨A, 3, none⟩ (.slice na n3.len nc)).setCell ⟨B, 0, none⟩ (.int .i64 f0)) B 1 (.int .i64 f1))).trans (Chg.set ((((((w2.setCell ⟨A, 0, none⟩ (.int .i64 n0)).setCell ⟨A, 1, none⟩ (.string n1)).setCell ⟨A, 2, none⟩ (.int .i64 n2)).setCell ⟨A, 3, none⟩ (.slice na n3.len nc)).setCell ⟨B, 0, none⟩ (.int .i64 f0)).setCell ⟨B, 1, none⟩ (.int .i64 f1)) B 2 (.int .i64 f2))).trans (Chg.set (((((((w2.setCell ⟨A, 0, none⟩ (.int .i64 n0)).setCell ⟨A, 1, none⟩ (.string n1)).setCell ⟨A, 2, none⟩ (.int .i64 n2)).setCell ⟨A, 3, none⟩ (.slice na n3.len nc)).setCell ⟨B, 0, none⟩ (.int .i64 f0)).setCell ⟨B, 1, none⟩ (.int .i64 f1)).setCell ⟨B, 2, none⟩ (.int .i64 f2)) B 3 (.string f3)))⟩
  have NA2 := hide (NB.out.2.blkS (by have := HB.out; omega) NA.out.1)
  have GC2 := hide ((NA.out.2.mono (T := fun x => x = A ∨ x = B) (fun x _ h => Or.inl h)).trans (NB.out.2.mono (fun x _ h => Or.inr h)))
  have hz1 : B < w1.heap.size := olt B1.out
  have GF : Hid (Chg (fun _ => False) w ((((((((w2.setCell ⟨A, 0, none⟩ (.int .i64 n0)).setCell ⟨A, 1, none⟩ (.string n1)).setCell ⟨A, 2, none⟩ (.int .i64 n2)).setCell ⟨A, 3, none⟩ (.slice na n3.len nc)).setCell ⟨B, 0, none⟩ (.int .i64 f0)).setCell ⟨B, 1, none⟩ (.int .i64 f1)).setCell ⟨B, 2, none⟩ (.int .i64 f2)).setCell ⟨B, 3, none⟩ (.string f3))) := hide ((((G1.out.trans g2).mono (T := fun x => x = A ∨ x = B) (fun x _ h => h.elim)).trans GC2.out).mono (fun x hx e => by have := HB.out; rcases e with e | e <;> omega))
  have LF := hide ((hn.chg GC2.out (fun x hx e => by have := hx.1; have := HB.out; rcases e with e | e <;> omega)).up (Y := fun x => w.heap.size ≤ x ∧ x < ((((((((w2.setCell ⟨A, 0, none⟩ (.int .i64 n0)).setCell ⟨A, 1, none⟩ (.string n1)).setCell ⟨A, 2, none⟩ (.int .i64 n2)).setCell ⟨A, 3, none⟩ (.slice na n3.len nc)).setCell ⟨B, 0, none⟩ (.int .i64 f0)).setCell ⟨B, 1, none⟩ (.int .i64 f1)).setCell ⟨B, 2, none⟩ (.int .i64 f2)).setCell ⟨B, 3, none⟩ (.string f3)).heap.size) (fun x hx => ⟨by have := hx.1; have := HB.out; omega, by have := GC2.out.size; have := hx.2; omega⟩))
  generalize ((((((((w2.setCell ⟨A, 0, none⟩ (.int .i64 n0)).setCell ⟨A, 1, none⟩ (.string n1)).setCell ⟨A, 2, none⟩ (.int .i64 n2)).setCell ⟨A, 3, none⟩ (.slice na n3.len nc)).setCell ⟨B, 0, none⟩ (.int .i64 f0)).setCell ⟨B, 1, none⟩ (.int .i64 f1)).setCell ⟨B, 2, none⟩ (.int .i64 f2)).setCell ⟨B, 3, none⟩ (.string f3)) = wF at *
  have r0 := blk_cell NB.out.1 0
  have r1 := blk_cell NB.out.1 1
  have r2 := blk_cell NB.out.1 2
  have r3 := blk_cell NB.out.1 3
  have a0 := blk_cell NA2.out 0
  have a1 := blk_cell NA2.out 1
  have a2 := blk_cell NA2.out 2
  have a3 := blk_cell NA2.out 3
  refine bodyPost_ret (v := .tuple #[.agg #[.int .i64 n0, .string n1, .int .i64 n2, .slice na n3.len nc], .agg #[.int .i64 f0, .int .i64 f1, .int .i64 f2, .string f3]]) (by simp [results, Try.results14, go_sem, r0, r1, r2, r3, a0, a1, a2, a3]) rfl ?_
  exact ⟨⟨_, rfl, ⟨na, nc, rfl, LF.out⟩⟩, GF.out⟩
end Go.Proofs.Ytboeeaekhijboaa
