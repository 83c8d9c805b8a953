/- parse.Term, parse.Type. parse.Text. The chapter's examples. -/
import Derived.Test.YtboeeaekhijboaaPparsedT
import Derived.Test.YtboeeaekhijboaaShort
import Derived.Test.YtboeeaekhijboaaPparsed
namespace Go.Proofs.Ytboeeaekhijboaa
open Go.RowKit
set_option linter.unusedVariables false
set_option linter.unusedSimpArgs false

set_option maxRecDepth 100000 in
set_option maxHeartbeats 4000000 in
theorem term14_any (s : ByteArray) (hs : s.size ≤ 20000) (w : World) :
  Calls Try.prog 14 #[.string s] w fun e w' => (∃ u, e = .returned (.tuple #[u, f4V (resS zN s (termS (lexT s) s 60 0)).1]) ∧ NV w' (fun x => w.heap.size ≤ x ∧ x < w'.heap.size) u (resS zN s (termS (lexT s) s 60 0)).2) ∧ Chg (fun _ => False) w w' := by
 obtain ⟨RR, hRR⟩ : ∃ RR, resS zN s (termS (lexT s) s 60 0) = RR := ⟨_, rfl⟩
 have PI := hide (fun w => parsedT_any s hs w)
 rw [hRR] at PI ⊢
 clear hRR hs
 obtain ⟨⟨f0, f1, f2, f3⟩, l⟩ := RR
 dsimp only at PI ⊢
 have ev : f4V (f0, f1, f2, f3) = .agg #[.int .i64 f0, .int .i64 f1, .int .i64 f2, .string f3] := rfl
 rw [ev] at PI ⊢
 clear ev
 have GA := al w (.cells #[.int .i64 0, .string ⟨#[]⟩, .int .i64 0, .slice none 0 0] 51)
 have BA := blk_new w (.cells #[.int .i64 0, .string ⟨#[]⟩, .int .i64 0, .slice none 0 0] 51)
 have GB := al (w.alloc (.cells #[.int .i64 0, .string ⟨#[]⟩, .int .i64 0, .slice none 0 0] 51)) (.cells #[.int .i64 0, .int .i64 0, .int .i64 0, .string ⟨#[]⟩] 27)
 have BB := blk_new (w.alloc (.cells #[.int .i64 0, .string ⟨#[]⟩, .int .i64 0, .slice none 0 0] 51)) (.cells #[.int .i64 0, .int .i64 0, .int .i64 0, .string ⟨#[]⟩] 27)
 have s1 := al_sz w (.cells #[.int .i64 0, .string ⟨#[]⟩, .int .i64 0, .slice none 0 0] 51)
 rw [s1] at BB
 obtain ⟨A, hA⟩ : ∃ A, w.heap.size = A := ⟨_, rfl⟩
 obtain ⟨B, hB⟩ : ∃ B, A + 1 = B := ⟨_, rfl⟩
 rw [hA] at BA BB
 rw [hB] at BB
 have G1 := hide (GA.trans GB)
 have A1 := hide (GB.blk BA)
 have B1 := hide BB
 have HB : Hid (w.heap.size = A ∧ A + 1 = B) := hide ⟨hA, hB⟩
 clear GA BA GB BB s1
 go_enter Try.func14, Try.ntmps14
 go_wp2_with fail
 try rw [hA]
 try rw [hB]
 clear hA hB
 generalize ((w.alloc (.cells #[.int .i64 0, .string ⟨#[]⟩, .int .i64 0, .slice none 0 0] 51)).alloc (.cells #[.int .i64 0, .int .i64 0, .int .i64 0, .string ⟨#[]⟩] 27)) = w1 at *
 refine (PI.out w1).mono ?_
 rintro e w2 ⟨⟨u, rfl, hl⟩, g2⟩
 obtain ⟨n0, n1, n2, n3⟩ := l
 obtain ⟨na, nc, rfl, hn⟩ := hl
 dsimp only [Nd.kind, Nd.word, Nd.at, Nd.kids] at hn ⊢
 have A2 := hide (g2.blk A1.out)
 have B2 := hide (g2.blk B1.out)
 have b0 := blk_cell A2.out 0
 have ff0 := blk_free A2.out 0
 have b1 := blk_cell A2.out 1
 have ff1 := blk_free A2.out 1
 have b2 := blk_cell A2.out 2
 have ff2 := blk_free A2.out 2
 have b3 := blk_cell A2.out 3
 have ff3 := blk_free A2.out 3
 have bb0 := blk_cell B2.out 0
 have fg0 := blk_free B2.out 0
 have bb1 := blk_cell B2.out 1
 have fg1 := blk_free B2.out 1
 have bb2 := blk_cell B2.out 2
 have fg2 := blk_free B2.out 2
 have bb3 := blk_cell B2.out 3
 have fg3 := blk_free B2.out 3
 have hAB : ¬ A = B := by have := HB.out; omega
 have hBA : ¬ B = A := by have := HB.out; omega
 go_wp2_with fail
 clear b0 b1 b2 b3 ff0 ff1 ff2 ff3 bb0 bb1 bb2 bb3 fg0 fg1 fg2 fg3
 have NA : Hid (((((w2.setCell ⟨A, 0, none⟩ (.int .i64 n0)).setCell ⟨A, 1, none⟩ (.string n1)).setCell ⟨A, 2, none⟩ (.int .i64 n2)).setCell ⟨A, 3, none⟩ (.slice na n3.len nc)).heap[A]? = some (.cells #[.int .i64 n0, .string n1, .int .i64 n2, .slice na n3.len nc] 51) ∧ Chg (fun x => x = A) w2 ((((w2.setCell ⟨A, 0, none⟩ (.int .i64 n0)).setCell ⟨A, 1, none⟩ (.string n1)).setCell ⟨A, 2, none⟩ (.int .i64 n2)).setCell ⟨A, 3, none⟩ (.slice na n3.len nc))) := hide ⟨(blk_set (blk_set (blk_set (blk_set A2.out 0 (.int .i64 n0)) 1 (.string n1)) 2 (.int .i64 n2)) 3 (.slice na n3.len nc)), ((((Chg.set w2 A 0 (.int .i64 n0)).trans (Chg.set (w2.setCell ⟨A, 0, none⟩ (.int .i64 n0)) A 1 (.string n1))).trans (Chg.set ((w2.setCell ⟨A, 0, none⟩ (.int .i64 n0)).setCell ⟨A, 1, none⟩ (.string n1)) A 2 (.int .i64 n2))).trans (Chg.set (((w2.setCell ⟨A, 0, none⟩ (.int .i64 n0)).setCell ⟨A, 1, none⟩ (.string n1)).setCell ⟨A, 2, none⟩ (.int .i64 n2)) A 3 (.slice na n3.len nc)))⟩
 have B3 := hide (NA.out.2.blkS (by have := HB.out; omega) B2.out)
 have NB : Hid (((((((((w2.setCell ⟨A, 0, none⟩ (.int .i64 n0)).setCell ⟨A, 1, none⟩ (.string n1)).setCell ⟨A, 2, none⟩ (.int .i64 n2)).setCell ⟨A, 3, none⟩ (.slice na n3.len nc)).setCell ⟨B, 0, none⟩ (.int .i64 f0)).setCell ⟨B, 1, none⟩ (.int .i64 f1)).setCell ⟨B, 2, none⟩ (.int .i64 f2)).setCell ⟨B, 3, none⟩ (.string f3)).heap[B]? = some (.cells #[.int .i64 f0, .int .i64 f1, .int .i64 f2, .string f3] 27) ∧ Chg (fun x => x = B) ((((w2.setCell ⟨A, 0, none⟩ (.int .i64 n0)).setCell ⟨A, 1, none⟩ (.string n1)).setCell ⟨A, 2, none⟩ (.int .i64 n2)).setCell ⟨A, 3, none⟩ (.slice na n3.len nc)) ((((((((w2.setCell ⟨A, 0, none⟩ (.int .i64 n0)).setCell ⟨A, 1, none⟩ (.string n1)).setCell ⟨A, 2, none⟩ (.int .i64 n2)).setCell ⟨A, 3, none⟩ (.slice na n3.len nc)).setCell ⟨B, 0, none⟩ (.int .i64 f0)).setCell ⟨B, 1, none⟩ (.int .i64 f1)).setCell ⟨B, 2, none⟩ (.int .i64 f2)).setCell ⟨B, 3, none⟩ (.string f3))) := hide ⟨(blk_set (blk_set (blk_set (blk_set B3.out 0 (.int .i64 f0)) 1 (.int .i64 f1)) 2 (.int .i64 f2)) 3 (.string f3)), ((((Chg.set ((((w2.setCell ⟨A, 0, none⟩ (.int .i64 n0)).setCell ⟨A, 1, none⟩ (.string n1)).setCell ⟨A, 2, none⟩ (.int .i64 n2)).setCell ⟨A, 3, none⟩ (.slice na n3.len nc)) B 0 (.int .i64 f0)).trans (Chg.set (((((w2.setCell ⟨A, 0, none⟩ (.int .i64 n0)).setCell ⟨A, 1, none⟩ (.string n1)).setCell ⟨A, 2, none⟩ (.int .i64 n2)).setCell ⟨A, 3, none⟩ (.slice na n3.len nc)).setCell ⟨B, 0, none⟩ (.int .i64 f0)) B 1 (.int .i64 f1))).trans (Chg.set ((((((w2.setCell ⟨A, 0, none⟩ (.int .i64 n0)).setCell ⟨A, 1, none⟩ (.string n1)).setCell ⟨A, 2, none⟩ (.int .i64 n2)).setCell ⟨A, 3, none⟩ (.slice na n3.len nc)).setCell ⟨B, 0, none⟩ (.int .i64 f0)).setCell ⟨B, 1, none⟩ (.int .i64 f1)) B 2 (.int .i64 f2))).trans (Chg.set (((((((w2.setCell ⟨A, 0, none⟩ (.int .i64 n0)).setCell ⟨A, 1, none⟩ (.string n1)).setCell ⟨A, 2, none⟩ (.int .i64 n2)).setCell ⟨A, 3, none⟩ (.slice na n3.len nc)).setCell ⟨B, 0, none⟩ (.int .i64 f0)).setCell ⟨B, 1, none⟩ (.int .i64 f1)).setCell ⟨B, 2, none⟩ (.int .i64 f2)) B 3 (.string f3)))⟩
 have NA2 := hide (NB.out.2.blkS (by have := HB.out; omega) NA.out.1)
 have GC2 := hide ((NA.out.2.mono (T := fun x => x = A ∨ x = B) (fun x _ h => Or.inl h)).trans (NB.out.2.mono (fun x _ h => Or.inr h)))
 have hz1 : B < w1.heap.size := olt B1.out
 have GF : Hid (Chg (fun _ => False) w ((((((((w2.setCell ⟨A, 0, none⟩ (.int .i64 n0)).setCell ⟨A, 1, none⟩ (.string n1)).setCell ⟨A, 2, none⟩ (.int .i64 n2)).setCell ⟨A, 3, none⟩ (.slice na n3.len nc)).setCell ⟨B, 0, none⟩ (.int .i64 f0)).setCell ⟨B, 1, none⟩ (.int .i64 f1)).setCell ⟨B, 2, none⟩ (.int .i64 f2)).setCell ⟨B, 3, none⟩ (.string f3))) := hide ((((G1.out.trans g2).mono (T := fun x => x = A ∨ x = B) (fun x _ h => h.elim)).trans GC2.out).mono (fun x hx e => by have := HB.out; rcases e with e | e <;> omega))
 have LF := hide ((hn.chg GC2.out (fun x hx e => by have := hx.1; have := HB.out; rcases e with e | e <;> omega)).up (Y := fun x => w.heap.size ≤ x ∧ x < ((((((((w2.setCell ⟨A, 0, none⟩ (.int .i64 n0)).setCell ⟨A, 1, none⟩ (.string n1)).setCell ⟨A, 2, none⟩ (.int .i64 n2)).setCell ⟨A, 3, none⟩ (.slice na n3.len nc)).setCell ⟨B, 0, none⟩ (.int .i64 f0)).setCell ⟨B, 1, none⟩ (.int .i64 f1)).setCell ⟨B, 2, none⟩ (.int .i64 f2)).setCell ⟨B, 3, none⟩ (.string f3)).heap.size) (fun x hx => ⟨by have := hx.1; have := HB.out; omega, by have := GC2.out.size; have := hx.2; omega⟩))
 generalize ((((((((w2.setCell ⟨A, 0, none⟩ (.int .i64 n0)).setCell ⟨A, 1, none⟩ (.string n1)).setCell ⟨A, 2, none⟩ (.int .i64 n2)).setCell ⟨A, 3, none⟩ (.slice na n3.len nc)).setCell ⟨B, 0, none⟩ (.int .i64 f0)).setCell ⟨B, 1, none⟩ (.int .i64 f1)).setCell ⟨B, 2, none⟩ (.int .i64 f2)).setCell ⟨B, 3, none⟩ (.string f3)) = wF at *
 have r0 := blk_cell NB.out.1 0
 have r1 := blk_cell NB.out.1 1
 have r2 := blk_cell NB.out.1 2
 have r3 := blk_cell NB.out.1 3
 have a0 := blk_cell NA2.out 0
 have a1 := blk_cell NA2.out 1
 have a2 := blk_cell NA2.out 2
 have a3 := blk_cell NA2.out 3
 refine bodyPost_ret (v := .tuple #[.agg #[.int .i64 n0, .string n1, .int .i64 n2, .slice na n3.len nc], .agg #[.int .i64 f0, .int .i64 f1, .int .i64 f2, .string f3]]) (by simp [results, Try.results14, go_sem, r0, r1, r2, r3, a0, a1, a2, a3]) rfl ?_
 exact ⟨⟨_, rfl, ⟨na, nc, rfl, LF.out⟩⟩, GF.out⟩
end Go.Proofs.Ytboeeaekhijboaa
namespace Go.Proofs.Ytboeeaekhijboaa
open Go.RowKit
set_option linter.unusedVariables false
set_option linter.unusedSimpArgs false

set_option maxRecDepth 100000 in
theorem text_any (s : ByteArray) (hs : s.size ≤ 20000) (w : World) :
  Calls Try.prog 8 #[.string s] w fun e w' => (∃ u, e = .returned (.tuple #[u, f4V (resS [] s (itemsS (lexT s) s 1000 [] 0)).1]) ∧ Iw w' (fun x => w.heap.size ≤ x ∧ x < w'.heap.size) u (resS [] s (itemsS (lexT s) s 1000 [] 0)).2) ∧ Chg (fun _ => False) w w' := by
 obtain ⟨RR, hRR⟩ : ∃ RR, resS [] s (itemsS (lexT s) s 1000 [] 0) = RR := ⟨_, rfl⟩
 have PI := hide (fun w => parsedI_any s hs w)
 rw [hRR] at PI ⊢
 clear hRR hs
 obtain ⟨⟨f0, f1, f2, f3⟩, l⟩ := RR
 dsimp only at PI ⊢
 have ev : f4V (f0, f1, f2, f3) = .agg #[.int .i64 f0, .int .i64 f1, .int .i64 f2, .string f3] := rfl
 rw [ev] at PI ⊢
 clear ev
 have GB := hide (al w (.cells #[.int .i64 0, .int .i64 0, .int .i64 0, .string ⟨#[]⟩] 27))
 have BB := hide (blk_new w (.cells #[.int .i64 0, .int .i64 0, .int .i64 0, .string ⟨#[]⟩] 27))
 obtain ⟨B, hB⟩ : ∃ B, w.heap.size = B := ⟨_, rfl⟩
 have HB := hide hB
 rw [hB] at BB
 clear hB
 go_enter Try.func8, Try.ntmps8
 go_wp2_with fail
 rw [HB.out]
 generalize w.alloc (.cells #[.int .i64 0, .int .i64 0, .int .i64 0, .string ⟨#[]⟩] 27) = w1 at *
 refine (PI.out w1).mono ?_
 rintro e w2 ⟨⟨u, rfl, hl⟩, g2⟩
 have B2 := hide (g2.blk BB.out)
 have b0 := blk_cell B2.out 0
 have b1 := blk_cell B2.out 1
 have b2 := blk_cell B2.out 2
 have b3 := blk_cell B2.out 3
 have ff0 := blk_free B2.out 0
 have ff1 := blk_free B2.out 1
 have ff2 := blk_free B2.out 2
 have ff3 := blk_free B2.out 3
 have NS := hide (show ((((w2.setCell ⟨B, 0, none⟩ (.int .i64 f0)).setCell ⟨B, 1, none⟩ (.int .i64 f1)).setCell ⟨B, 2, none⟩ (.int .i64 f2)).setCell ⟨B, 3, none⟩ (.string f3)).heap[B]? = some (.cells #[.int .i64 f0, .int .i64 f1, .int .i64 f2, .string f3] 27) ∧ Chg (fun x => x = B) w2 ((((w2.setCell ⟨B, 0, none⟩ (.int .i64 f0)).setCell ⟨B, 1, none⟩ (.int .i64 f1)).setCell ⟨B, 2, none⟩ (.int .i64 f2)).setCell ⟨B, 3, none⟩ (.string f3)) from
  ⟨blk_set (blk_set (blk_set (blk_set B2.out 0 (.int .i64 f0)) 1 (.int .i64 f1)) 2 (.int .i64 f2)) 3 (.string f3), (((Chg.set w2 B 0 (.int .i64 f0)).trans (Chg.set _ B 1 (.int .i64 f1))).trans (Chg.set _ B 2 (.int .i64 f2))).trans (Chg.set _ B 3 (.string f3))⟩)
 have hz1 : B < w1.heap.size := olt BB.out
 have G3 : Hid (Chg (fun _ => False) w ((((w2.setCell ⟨B, 0, none⟩ (.int .i64 f0)).setCell ⟨B, 1, none⟩ (.int .i64 f1)).setCell ⟨B, 2, none⟩ (.int .i64 f2)).setCell ⟨B, 3, none⟩ (.string f3))) := hide (((((GB.out.trans g2).mono (T := fun x => x = B) (fun x _ h => h.elim)).trans NS.out.2).mono (fun x hx e => by have := HB.out; omega)))
 have L3 := hide ((hl.chg NS.out.2 (fun x hx e => by have := hx.1; omega)).up (Y := fun x => w.heap.size ≤ x ∧ x < ((((w2.setCell ⟨B, 0, none⟩ (.int .i64 f0)).setCell ⟨B, 1, none⟩ (.int .i64 f1)).setCell ⟨B, 2, none⟩ (.int .i64 f2)).setCell ⟨B, 3, none⟩ (.string f3)).heap.size) (fun x hx => ⟨by have := hx.1; have := HB.out; omega, by have := hx.2; have := NS.out.2.size; omega⟩))
 clear g2 hl PI
 go_wp2_with fail
 generalize ((((w2.setCell ⟨B, 0, none⟩ (.int .i64 f0)).setCell ⟨B, 1, none⟩ (.int .i64 f1)).setCell ⟨B, 2, none⟩ (.int .i64 f2)).setCell ⟨B, 3, none⟩ (.string f3)) = wF at *
 have r0 := blk_cell NS.out.1 0
 have r1 := blk_cell NS.out.1 1
 have r2 := blk_cell NS.out.1 2
 have r3 := blk_cell NS.out.1 3
 obtain ⟨ua, uc, hu, _⟩ := id L3.out
 subst hu
 refine bodyPost_ret (v := .tuple #[.slice ua l.length uc, .agg #[.int .i64 f0, .int .i64 f1, .int .i64 f2, .string f3]]) (by simp [results, Try.results8, go_sem, r0, r1, r2, r3]) rfl ?_
 exact ⟨⟨_, rfl, L3.out⟩, G3.out⟩
end Go.Proofs.Ytboeeaekhijboaa
namespace Go.Proofs.Ytboeeaekhijboaa
open Go.RowKit
set_option linter.unusedVariables false
set_option linter.unusedSimpArgs false

def kS1 : ByteArray := ⟨#[115, 111, 114, 116, 32, 97, 59, 32, 99, 111, 110, 115, 116, 32, 102, 32, 58, 32, 97, 32, 45, 62, 32, 97, 59]⟩
def kS2 : ByteArray := ⟨#[102, 32, 120]⟩
def kS3 : ByteArray := ⟨#[115, 111, 114, 116, 32, 59]⟩
def bA : ByteArray := ⟨#[97]⟩
set_option maxRecDepth 1000000 in
theorem known1 : resS [] kS1 (itemsS (lexT kS1) kS1 1000 [] 0) = ((0, 0, 0, ⟨#[]⟩), [(1, [bA], .nil, 0, 0), (2, [⟨#[102]⟩], .cons 2 ⟨#[]⟩ 18 (.cons 1 bA 18 .nil (.cons 1 bA 23 .nil .nil)) .nil, 0, 8)]) := by kernel_rfl
set_option maxRecDepth 1000000 in
theorem known2 : resS zN kS2 (termS (lexT kS2) kS2 60 0) = ((0, 0, 0, ⟨#[]⟩), (4, ⟨#[]⟩, 0, .cons 1 ⟨#[102]⟩ 0 .nil (.cons 1 ⟨#[120]⟩ 2 .nil .nil))) := by kernel_rfl
set_option maxRecDepth 1000000 in
theorem known3 : resS [] kS3 (itemsS (lexT kS3) kS3 1000 [] 0) = ((3, 1, 6, ⟨#[59]⟩), []) := by kernel_rfl

theorem known1_call (w : World) : Calls Try.prog 8 #[.string ⟨#[115, 111, 114, 116, 32, 97, 59, 32, 99, 111, 110, 115, 116, 32, 102, 32, 58, 32, 97, 32, 45, 62, 32, 97, 59]⟩] w fun e w' =>
  ∃ g off cap g2 off2 cap2, e = .returned (.tuple #[.slice (some ⟨g, off, none⟩) 2 cap, .agg #[.int .i64 0, .int .i64 0, .int .i64 0, .string ⟨#[]⟩]]) ∧
   w'.cell? ⟨g, off + 5, none⟩ = some (.int .i64 2) ∧ w'.cell? ⟨g, off + 5 + 2, none⟩ = some (.slice (some ⟨g2, off2, none⟩) 1 cap2) ∧ w'.cell? ⟨g2, off2, none⟩ = some (.int .i64 2) ∧ Chg (fun _ => False) w w' := by
 refine (text_any kS1 (by decide) w).mono ?_
 rw [known1]
 rintro e w' ⟨⟨u, rfl, a, cap, rfl, h⟩, gc⟩
 rcases h with h | ⟨g, off, rfl, hg, h⟩
 ·
  cases h
 ·
  obtain ⟨⟨p0, p1, p2, p3, p4⟩, ⟨e0, e1, e2, e3, e4⟩, c0, c1, c2, c3, c4⟩ := h 1 (by decide)
  dsimp only at e0 e1 e2 e3 e4 c0 c1 c2 c3 c4
  obtain ⟨a2, cap2, rfl, h2⟩ := e2
  rcases h2 with h2 | ⟨g2, off2, rfl, hg2, hl⟩
  ·
   cases h2
  ·
   refine ⟨g, off, cap, g2, off2, cap2, rfl, ?_, c2, ?_, gc⟩
   ·
    rw [c0, e0]; rfl
   ·
    exact hl.1
theorem known2_call (w : World) : Calls Try.prog 14 #[.string ⟨#[102, 32, 120]⟩] w fun e w' =>
  ∃ g off cap, e = .returned (.tuple #[.agg #[.int .i64 4, .string ⟨#[]⟩, .int .i64 0, .slice (some ⟨g, off, none⟩) 2 cap], .agg #[.int .i64 0, .int .i64 0, .int .i64 0, .string ⟨#[]⟩]]) ∧
   w'.cell? ⟨g, off + 4 + 1, none⟩ = some (.string ⟨#[120]⟩) ∧ Chg (fun _ => False) w w' := by
 refine (term14_any kS2 (by decide) w).mono ?_
 rw [known2]
 rintro e w' ⟨⟨u, rfl, a, cap, rfl, h⟩, gc⟩
 obtain ⟨a', cap', e', h⟩ := h
 injection e' with ea el ec
 subst ea ec
 rcases h with h | ⟨g, off, rfl, hg, h⟩
 ·
  cases h
 ·
  exact ⟨g, off, cap, rfl, (lies_cons.1 h).2.2.2.2.2.1, gc⟩
theorem known3_call (w : World) : Calls Try.prog 8 #[.string ⟨#[115, 111, 114, 116, 32, 59]⟩] w fun e w' =>
  ∃ u cap, e = .returned (.tuple #[.slice u 0 cap, .agg #[.int .i64 3, .int .i64 1, .int .i64 6, .string ⟨#[59]⟩]]) ∧ Chg (fun _ => False) w w' := by
 refine (text_any kS3 (by decide) w).mono ?_
 rw [known3]
 rintro e w' ⟨⟨u, rfl, a, cap, rfl, h⟩, gc⟩
 exact ⟨a, cap, rfl, gc⟩

set_option maxRecDepth 100000 in
set_option maxHeartbeats 16000000 in
theorem known_any (w : World) : Calls Try.prog 10 #[] w fun e w' => e = .returned (.bool true) ∧ Chg (fun _ => False) w w' := by
 go_enter Try.func10, Try.ntmps10
 go_wp2_with fail
 refine (known1_call _).mono ?_
 rintro e w1 ⟨g, off, cap, g2, off2, cap2, rfl, c0, c1, c2, g1⟩
 have G1 := hide g1
 obtain ⟨B, hB⟩ : ∃ B, w1.heap.size = B := ⟨_, rfl⟩
 have GB := al w1 (.cells #[.int .i64 0, .int .i64 0, .int .i64 0, .string ⟨#[]⟩] 27)
 have B2 := blk_new w1 (.cells #[.int .i64 0, .int .i64 0, .int .i64 0, .string ⟨#[]⟩] 27)
 rw [hB] at B2
 have c0 := GB.cell (fun h => h) c0
 have c1 := GB.cell (fun h => h) c1
 have c2 := GB.cell (fun h => h) c2
 have G2 := hide (g1.trans GB)
 have B2 := hide B2
 have C0 := hide c0
 have C1 := hide c1
 have C2 := hide c2
 have HB := hide hB
 clear g1 GB c0 c1 c2 hB
 go_wp2_with fail
 try rw [HB.out]
 generalize w1.alloc (.cells #[.int .i64 0, .int .i64 0, .int .i64 0, .string ⟨#[]⟩] 27) = w2 at *
 refine (known2_call _).mono ?_
 rintro e w3 ⟨h, offh, caph, rfl, d0, g3⟩
 obtain ⟨D, hD⟩ : ∃ D, w3.heap.size = D := ⟨_, rfl⟩
 have GD := al w3 (.cells #[.int .i64 4, .string ⟨#[]⟩, .int .i64 0, .slice (some ⟨h, offh, none⟩) 2 caph] 51)
 have D4 := blk_new w3 (.cells #[.int .i64 4, .string ⟨#[]⟩, .int .i64 0, .slice (some ⟨h, offh, none⟩) 2 caph] 51)
 have GE := al (w3.alloc (.cells #[.int .i64 4, .string ⟨#[]⟩, .int .i64 0, .slice (some ⟨h, offh, none⟩) 2 caph] 51)) (.cells #[.int .i64 0, .int .i64 0, .int .i64 0, .string ⟨#[]⟩] 27)
 have E4 := blk_new (w3.alloc (.cells #[.int .i64 4, .string ⟨#[]⟩, .int .i64 0, .slice (some ⟨h, offh, none⟩) 2 caph] 51)) (.cells #[.int .i64 0, .int .i64 0, .int .i64 0, .string ⟨#[]⟩] 27)
 rw [al_sz] at E4
 rw [hD] at D4 E4
 have D4 := hide (GE.blk D4)
 have E4 := hide E4
 have GG := (g3.trans GD).trans GE
 have B4 := hide (GG.blk B2.out)
 have C0 := hide (GG.cell (fun h => h) C0.out)
 have C1 := hide (GG.cell (fun h => h) C1.out)
 have C2 := hide (GG.cell (fun h => h) C2.out)
 have D0 := hide ((GD.trans GE).cell (fun h => h) d0)
 have G4 := hide (G2.out.trans GG)
 obtain ⟨E, hE⟩ : ∃ E, D + 1 = E := ⟨_, rfl⟩
 rw [hE] at E4
 have HE := hide hE
 have HD := hide hD
 clear g3 GD GE GG d0 hD hE
 go_wp2_with fail
 try rw [HD.out]
 try rw [HE.out]
 generalize ((w3.alloc (.cells #[.int .i64 4, .string ⟨#[]⟩, .int .i64 0, .slice (some ⟨h, offh, none⟩) 2 caph] 51)).alloc (.cells #[.int .i64 0, .int .i64 0, .int .i64 0, .string ⟨#[]⟩] 27)) = w4 at *
 refine (known3_call _).mono ?_
 rintro e w5 ⟨u, capu, rfl, g5⟩
 obtain ⟨F, hF⟩ : ∃ F, w5.heap.size = F := ⟨_, rfl⟩
 have GF := al w5 (.cells #[.int .i64 3, .int .i64 1, .int .i64 6, .string ⟨#[59]⟩] 27)
 have F6 := blk_new w5 (.cells #[.int .i64 3, .int .i64 1, .int .i64 6, .string ⟨#[59]⟩] 27)
 rw [hF] at F6
 have GG := g5.trans GF
 have G6 := hide (G4.out.trans GG)
 have b0 := blk_cell (GG.blk B4.out) 0
 have d0 := blk_cell (GG.blk D4.out) 0
 have d3 := blk_cell (GG.blk D4.out) 3
 have e0 := blk_cell (GG.blk E4.out) 0
 have f0 := blk_cell F6 0
 have f1 := blk_cell F6 1
 have f2 := blk_cell F6 2
 have f3 := blk_cell F6 3
 have c0 := GG.cell (fun h => h) C0.out
 have c1 := GG.cell (fun h => h) C1.out
 have c2 := GG.cell (fun h => h) C2.out
 have k0 := GG.cell (fun h => h) D0.out
 simp only [gets] at b0 d0 d3 e0 f0 f1 f2 f3
 have HF := hide hF
 clear g5 GF GG F6 B4 D4 E4 C0 C1 C2 D0 G4 B2 G2 G1 hF
 go_wp2_with fail
 try rw [HF.out]
 generalize w5.alloc (.cells #[.int .i64 3, .int .i64 1, .int .i64 6, .string ⟨#[59]⟩] 27) = w6 at *
 go_ret
 exact ⟨rfl, G6.out⟩
end Go.Proofs.Ytboeeaekhijboaa
