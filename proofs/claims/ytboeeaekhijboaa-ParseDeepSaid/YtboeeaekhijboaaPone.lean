/- The document's One: a term. The document's One: a type. -/
import Derived.Test.YtboeeaekhijboaaPrfault
import Derived.Test.YtboeeaekhijboaaRows4
import Derived.Test.YtboeeaekhijboaaPrterm
import Derived.Test.YtboeeaekhijboaaPparsedT
import Derived.Test.YtboeeaekhijboaaWalkSplits
namespace Go.Proofs.Ytboeeaekhijboaa
open Go.RowKit
set_option linter.unusedVariables false
set_option linter.unusedSimpArgs false

set_option maxRecDepth 100000 in
set_option maxHeartbeats 32000000 in
theorem oneT_any (s : ByteArray) (hs : s.size ≤ 20000) (w : World) :
    Calls Try.prog 15 #[.string s, .bool true] w fun e w' => (∃ u, e = .returned (.tuple #[u, f4V (resS zN s (termS (lexT s) s 60 0)).1]) ∧ NV w' (fun x => w.heap.size ≤ x ∧ x < w'.heap.size) u (resS zN s (termS (lexT s) s 60 0)).2) ∧ Chg (fun _ => False) w w' := by
  obtain ⟨RR, hRR⟩ : ∃ RR, resS zN s (termS (lexT s) s 60 0) = RR := ⟨_, rfl⟩
  rw [hRR]
  have HRR := hide hRR
  clear hRR
  have GA := al w (.cells #[.int .i64 0, .string ⟨#[]⟩, .int .i64 0, .slice none 0 0] 55)
  have BA := blk_new w (.cells #[.int .i64 0, .string ⟨#[]⟩, .int .i64 0, .slice none 0 0] 55)
  have GB := al (w.alloc (.cells #[.int .i64 0, .string ⟨#[]⟩, .int .i64 0, .slice none 0 0] 55)) (.cells #[.int .i64 0, .int .i64 0, .int .i64 0, .string ⟨#[]⟩] 33)
  have BB := blk_new (w.alloc (.cells #[.int .i64 0, .string ⟨#[]⟩, .int .i64 0, .slice none 0 0] 55)) (.cells #[.int .i64 0, .int .i64 0, .int .i64 0, .string ⟨#[]⟩] 33)
  have s1 := al_sz w (.cells #[.int .i64 0, .string ⟨#[]⟩, .int .i64 0, .slice none 0 0] 55)
  rw [s1] at BB
  obtain ⟨A, hA⟩ : ∃ A, w.heap.size = A := ⟨_, rfl⟩
  obtain ⟨B, hB⟩ : ∃ B, A + 1 = B := ⟨_, rfl⟩
  rw [hA] at BA BB
  rw [hB] at BB
  have GB0 := hide (GA.trans GB)
  have A1 := hide (GB.blk BA)
  have B1 := hide BB
  have HB : Hid (w.heap.size = A ∧ A + 1 = B) := hide ⟨hA, hB⟩
  obtain ⟨F, hF⟩ : ∃ F, F = flt s (lexG s (s.size + 1) 0 false) := ⟨_, rfl⟩
  have SP := hide (fun w => refSplit_told s hs w F hF)
  have HF := hide hF
  have HS := hide hs
  clear hF hs GA BA GB BB s1
  obtain ⟨f0, f1, f2, f3⟩ := F
  dsimp only at SP
  go_enter Try.func15, Try.ntmps15
  go_wp2_with fail
  try rw [hA]
  try rw [hB]
  clear hA hB
  generalize (w.alloc (.cells #[.int .i64 0, .string ⟨#[]⟩, .int .i64 0, .slice none 0 0] 55)).alloc (.cells #[.int .i64 0, .int .i64 0, .int .i64 0, .string ⟨#[]⟩] 33) = w1 at *
  refine (SP.out w1).mono ?_
  rintro e w2 ⟨⟨tv, rfl, ht⟩, g2⟩
  have C2 := Chg.ofB g2
  have GD := al w2 (.cells #[.int .i64 f0, .int .i64 f1, .int .i64 f2, .string f3] 33)
  have D3 := hide (blk_new w2 (.cells #[.int .i64 f0, .int .i64 f1, .int .i64 f2, .string f3] 33))
  have A3 := hide (GD.blk (C2.blk A1.out))
  have B3 := hide (GD.blk (C2.blk B1.out))
  have G3 := hide ((GB0.out.trans C2).trans GD)
  have T2 := hide ht
  obtain ⟨D, hD⟩ : ∃ D, w2.heap.size = D := ⟨_, rfl⟩
  have DL : Hid (A < B ∧ B < D ∧ w.heap.size = A) := hide ⟨by have := HB.out; omega, by have := olt (C2.blk B1.out); omega, HB.out.1⟩
  rw [hD] at D3
  have GD2 := hide GD
  clear g2 C2 ht GD SP
  cases hl : lexF s with
  | some x =>
    obtain ⟨hf, htk⟩ := flt_some hl
    have h0 : f0 = x.1 := by have := HF.out; rw [hf] at this; exact congrArg Prod.fst this
    have hc : x.1 = 2 ∨ x.1 = 3 := lexG_fault s _ _ _ x hl
    have e0 : (f0 == 0) = false := by rw [h0]; rcases hc with h | h <;> rw [h] <;> rfl
    have e1 : (f0 != 0) = true := by rw [h0]; rcases hc with h | h <;> rw [h] <;> rfl
    have HR : Hid (RR = ((f0, f1, f2, f3), zN)) := hide (by rw [← HRR.out]; unfold resS; rw [hl]; dsimp only; rw [← hf, ← HF.out])
    have q0 := blk_cell D3.out 0
    have q1 := blk_cell D3.out 1
    have q2 := blk_cell D3.out 2
    have q3 := blk_cell D3.out 3
    simp only [List.getElem?_toArray, List.getElem?_cons_zero, List.getElem?_cons_succ] at q0 q1 q2 q3
    clear hf htk h0 hc HF T2
    go_wp2_with fail
    clear hD
    generalize w2.alloc (.cells #[.int .i64 f0, .int .i64 f1, .int .i64 f2, .string f3] 33) = w3 at *
    refine wp_region_held_drew (S := (fun w' => w'.cell? ⟨D, 0, none⟩ = some (.int .i64 f0) ∧ w'.cell? ⟨D, 1, none⟩ = some (.int .i64 f1) ∧ w'.cell? ⟨D, 2, none⟩ = some (.int .i64 f2) ∧ w'.cell? ⟨D, 3, none⟩ = some (.string f3))) (by kernel_rfl) (by go_keep) (fun hHeld => ?_)
    first
      | (refine wpAnyH_take (i := 0) (v := undef) rfl (by kernel_rfl) (by kernel_rfl) (by kernel_rfl) (fun _ _ _ h => h) (Or.inr ⟨by rfl, rfl⟩) (by assumption) ?_)
      | (refine wpAnyH_take (i := 0) (v := ?_) rfl (by kernel_rfl) (by kernel_rfl) (by kernel_rfl) (fun _ _ _ h => h) (Or.inl ⟨by rfl, ?_⟩) (by assumption) ?_
         rotate_left
         (intro w hSw
          (try dsimp only at hSw)
          (go_simp <;> with_reducible rfl)))
    try simp only [Act.put, List.getElem_toArray, List.getElem_cons_zero, List.getElem_cons_succ, List.setIfInBounds_toArray, List.set_cons_zero, List.set_cons_succ]
    first
      | (refine wpAnyH_take (i := 1) (v := undef) rfl (by kernel_rfl) (by kernel_rfl) (by kernel_rfl) (fun _ _ _ h => h) (Or.inr ⟨by rfl, rfl⟩) (by assumption) ?_)
      | (refine wpAnyH_take (i := 1) (v := ?_) rfl (by kernel_rfl) (by kernel_rfl) (by kernel_rfl) (fun _ _ _ h => h) (Or.inl ⟨by rfl, ?_⟩) (by assumption) ?_
         rotate_left
         (intro w hSw
          (try dsimp only at hSw)
          (go_simp <;> with_reducible rfl)))
    try simp only [Act.put, List.getElem_toArray, List.getElem_cons_zero, List.getElem_cons_succ, List.setIfInBounds_toArray, List.set_cons_zero, List.set_cons_succ]
    refine wpAnyH_ready (rs := [2]) (by kernel_rfl) (by simp) ?_
    refine AllReadyH.cons (i := 2) (o := _) rfl (fun K hK => ?_) ?_
    rotate_left
    · exact AllReadyH.nil
    have b0 := blk_cell A3.out 0
    have ff0 := blk_free A3.out 0
    have b1 := blk_cell A3.out 1
    have ff1 := blk_free A3.out 1
    have b2 := blk_cell A3.out 2
    have ff2 := blk_free A3.out 2
    have b3 := blk_cell A3.out 3
    have ff3 := blk_free A3.out 3
    go_simp
    have NA : Hid (((((w3.setCell ⟨A, 0, none⟩ (.int .i64 0)).setCell ⟨A, 1, none⟩ (.string ⟨#[]⟩)).setCell ⟨A, 2, none⟩ (.int .i64 0)).setCell ⟨A, 3, none⟩ (.slice none 0 0)).heap[A]? = some (.cells #[.int .i64 0, .string ⟨#[]⟩, .int .i64 0, .slice none 0 0] 55) ∧ Chg (fun x => x = A) w3 ((((w3.setCell ⟨A, 0, none⟩ (.int .i64 0)).setCell ⟨A, 1, none⟩ (.string ⟨#[]⟩)).setCell ⟨A, 2, none⟩ (.int .i64 0)).setCell ⟨A, 3, none⟩ (.slice none 0 0))) := hide ⟨(blk_set (blk_set (blk_set (blk_set A3.out 0 (.int .i64 0)) 1 (.string ⟨#[]⟩)) 2 (.int .i64 0)) 3 (.slice none 0 0)), ((((Chg.set w3 A 0 (.int .i64 0)).trans (Chg.set (w3.setCell ⟨A, 0, none⟩ (.int .i64 0)) A 1 (.string ⟨#[]⟩))).trans (Chg.set ((w3.setCell ⟨A, 0, none⟩ (.int .i64 0)).setCell ⟨A, 1, none⟩ (.string ⟨#[]⟩)) A 2 (.int .i64 0))).trans (Chg.set (((w3.setCell ⟨A, 0, none⟩ (.int .i64 0)).setCell ⟨A, 1, none⟩ (.string ⟨#[]⟩)).setCell ⟨A, 2, none⟩ (.int .i64 0)) A 3 (.slice none 0 0)))⟩
    have u0 := NA.out.2.cell (by have := DL.out; omega) q0
    have u1 := NA.out.2.cell (by have := DL.out; omega) q1
    have u2 := NA.out.2.cell (by have := DL.out; omega) q2
    have u3 := NA.out.2.cell (by have := DL.out; omega) q3
    refine hK.out _ _ ⟨drc u0, drc u1, drc u2, drc u3⟩ (fun hHeld => ?_)
    clear hK K
    try simp only [Act.put, List.getElem_toArray, List.getElem_cons_zero, List.getElem_cons_succ, List.setIfInBounds_toArray, List.set_cons_zero, List.set_cons_succ]
    have B4 := hide (NA.out.2.blkS (by have := DL.out; omega) B3.out)
    generalize ((((w3.setCell ⟨A, 0, none⟩ (.int .i64 0)).setCell ⟨A, 1, none⟩ (.string ⟨#[]⟩)).setCell ⟨A, 2, none⟩ (.int .i64 0)).setCell ⟨A, 3, none⟩ (.slice none 0 0)) = w4 at *
    clear b0 b1 b2 b3 ff0 ff1 ff2 ff3
    refine wpAnyH_ready (rs := [3]) (by kernel_rfl) (by simp) ?_
    refine AllReadyH.cons (i := 3) (o := _) rfl (fun K hK => ?_) ?_
    rotate_left
    · exact AllReadyH.nil
    have b0 := blk_cell B4.out 0
    have ff0 := blk_free B4.out 0
    have b1 := blk_cell B4.out 1
    have ff1 := blk_free B4.out 1
    have b2 := blk_cell B4.out 2
    have ff2 := blk_free B4.out 2
    have b3 := blk_cell B4.out 3
    have ff3 := blk_free B4.out 3
    go_simp
    have NB : Hid (((((w4.setCell ⟨B, 0, none⟩ (.int .i64 f0)).setCell ⟨B, 1, none⟩ (.int .i64 f1)).setCell ⟨B, 2, none⟩ (.int .i64 f2)).setCell ⟨B, 3, none⟩ (.string f3)).heap[B]? = some (.cells #[.int .i64 f0, .int .i64 f1, .int .i64 f2, .string f3] 33) ∧ Chg (fun x => x = B) w4 ((((w4.setCell ⟨B, 0, none⟩ (.int .i64 f0)).setCell ⟨B, 1, none⟩ (.int .i64 f1)).setCell ⟨B, 2, none⟩ (.int .i64 f2)).setCell ⟨B, 3, none⟩ (.string f3))) := hide ⟨(blk_set (blk_set (blk_set (blk_set B4.out 0 (.int .i64 f0)) 1 (.int .i64 f1)) 2 (.int .i64 f2)) 3 (.string f3)), ((((Chg.set w4 B 0 (.int .i64 f0)).trans (Chg.set (w4.setCell ⟨B, 0, none⟩ (.int .i64 f0)) B 1 (.int .i64 f1))).trans (Chg.set ((w4.setCell ⟨B, 0, none⟩ (.int .i64 f0)).setCell ⟨B, 1, none⟩ (.int .i64 f1)) B 2 (.int .i64 f2))).trans (Chg.set (((w4.setCell ⟨B, 0, none⟩ (.int .i64 f0)).setCell ⟨B, 1, none⟩ (.int .i64 f1)).setCell ⟨B, 2, none⟩ (.int .i64 f2)) B 3 (.string f3)))⟩
    have uu0 := NB.out.2.cell (by have := DL.out; omega) u0
    have uu1 := NB.out.2.cell (by have := DL.out; omega) u1
    have uu2 := NB.out.2.cell (by have := DL.out; omega) u2
    have uu3 := NB.out.2.cell (by have := DL.out; omega) u3
    refine hK.out _ _ ⟨drc uu0, drc uu1, drc uu2, drc uu3⟩ (fun hHeld => ?_)
    clear hK K
    try simp only [Act.put, List.getElem_toArray, List.getElem_cons_zero, List.getElem_cons_succ, List.setIfInBounds_toArray, List.set_cons_zero, List.set_cons_succ]
    refine wpAnyH_done (by kernel_rfl) ?_ _
    go_wp2_with fail
    have NA2 := hide (NB.out.2.blkS (by have := DL.out; omega) NA.out.1)
    have GF : Hid (Chg (fun _ => False) w ((((w4.setCell ⟨B, 0, none⟩ (.int .i64 f0)).setCell ⟨B, 1, none⟩ (.int .i64 f1)).setCell ⟨B, 2, none⟩ (.int .i64 f2)).setCell ⟨B, 3, none⟩ (.string f3))) := hide (((((G3.out.mono (T := fun x => x = A ∨ x = B) (fun x _ h => h.elim)).trans (NA.out.2.mono (fun x _ h => Or.inl h))).trans (NB.out.2.mono (fun x _ h => Or.inr h))).mono (fun x hx e => by have := DL.out; omega)))
    generalize ((((w4.setCell ⟨B, 0, none⟩ (.int .i64 f0)).setCell ⟨B, 1, none⟩ (.int .i64 f1)).setCell ⟨B, 2, none⟩ (.int .i64 f2)).setCell ⟨B, 3, none⟩ (.string f3)) = wF at *
    have r0 := blk_cell NB.out.1 0
    have r1 := blk_cell NB.out.1 1
    have r2 := blk_cell NB.out.1 2
    have r3 := blk_cell NB.out.1 3
    have a0 := blk_cell NA2.out 0
    have a1 := blk_cell NA2.out 1
    have a2 := blk_cell NA2.out 2
    have a3 := blk_cell NA2.out 3
    refine bodyPost_ret (v := .tuple #[.agg #[.int .i64 0, .string ⟨#[]⟩, .int .i64 0, .slice none 0 0], f4V (f0, f1, f2, f3)]) (by simp [results, Try.results15, go_sem, r0, r1, r2, r3, a0, a1, a2, a3]) rfl ?_
    exact ⟨⟨_, by rw [HR.out], by rw [HR.out]; exact NV.leaf _ _ 0 ⟨#[]⟩ 0⟩, GF.out.drew⟩
  | none =>
    obtain ⟨hf, htk⟩ := flt_none hl
    have hf' := HF.out.trans hf
    injection hf' with ha hb'
    injection hb' with hb' hc'
    injection hc' with hc' hd'
    subst ha hb' hc' hd'
    have T2 := hide (htk ▸ T2.out)
    have HR : Hid (RR = match endS (lexT s) (termS (lexT s) s 60 0) with | .error e => (fl4 (lexT s) s (some e), zN) | .ok q => ((0, 0, 0, ⟨#[]⟩), q.1)) := hide (by rw [← HRR.out]; unfold resS; rw [hl]; dsimp only; cases endS (lexT s) (termS (lexT s) s 60 0) <;> rfl)
    have EV := hide (lexT_renv HS.out)
    have HAT : Hid (∀ t ∈ lexT s, t.2.2 ≤ s.size) := hide (fun t ht => (lexT_is s t ht).size.2)
    have HTX : Hid (∀ t ∈ lexT s, t.2.1.size ≤ 1000000) := hide (fun t ht => by have := (lexT_is s t ht).size.1; have := HS.out; omega)
    clear hf htk hl HF
    have TL : Hid ((lexT s).length ≤ 20000) := hide (by have := lexT_len s; have := HS.out; omega)
    have HI := hide (fun tb v w (h : RS w tb v (lexT s) s (.ok 0)) => rterm_any (tb := tb) (v := v) (ts := lexT s) (s := s) 60 0 rfl (.ok 0) w h)
    have eR : St.bind (.ok 0) (termS (lexT s) s 60) = termS (lexT s) s 60 0 := rfl
    have e00 : ((0 : Nat) : Int) = 0 := rfl
    rw [eR, e00] at HI
    have q0 := blk_cell D3.out 0
    simp only [List.getElem?_toArray, List.getElem?_cons_zero] at q0
    have T3 := hide (isToks_chg T2.out GD2.out)
    clear eR e00
    generalize lexT s = ts at *
    generalize termS ts s 60 0 = r at *
    have GP := al (w2.alloc (.cells #[.int .i64 0, .int .i64 0, .int .i64 0, .string ⟨#[]⟩] 33)) (.cells #[tv, .string s, .int .i64 0, .int .i64 0, .int .i64 0] 88)
    have BP := blk_new (w2.alloc (.cells #[.int .i64 0, .int .i64 0, .int .i64 0, .string ⟨#[]⟩] 33)) (.cells #[tv, .string s, .int .i64 0, .int .i64 0, .int .i64 0] 88)
    obtain ⟨P, hP⟩ : ∃ P, (w2.alloc (.cells #[.int .i64 0, .int .i64 0, .int .i64 0, .string ⟨#[]⟩] 33)).heap.size = P := ⟨_, rfl⟩
    have hP2 : w2.heap.size + 1 = P := by rw [← hP, al_sz]
    have GE := al ((w2.alloc (.cells #[.int .i64 0, .int .i64 0, .int .i64 0, .string ⟨#[]⟩] 33)).alloc (.cells #[tv, .string s, .int .i64 0, .int .i64 0, .int .i64 0] 88)) (.cells #[.int .i64 0, .string ⟨#[]⟩, .int .i64 0, .slice none 0 0] 55)
    have BE := blk_new ((w2.alloc (.cells #[.int .i64 0, .int .i64 0, .int .i64 0, .string ⟨#[]⟩] 33)).alloc (.cells #[tv, .string s, .int .i64 0, .int .i64 0, .int .i64 0] 88)) (.cells #[.int .i64 0, .string ⟨#[]⟩, .int .i64 0, .slice none 0 0] 55)
    rw [al_sz] at BE
    rw [hP] at BP BE
    obtain ⟨E, hE⟩ : ∃ E, P + 1 = E := ⟨_, rfl⟩
    rw [hE] at BE
    have R4 : RS ((w2.alloc (.cells #[.int .i64 0, .int .i64 0, .int .i64 0, .string ⟨#[]⟩] 33)).alloc (.cells #[tv, .string s, .int .i64 0, .int .i64 0, .int .i64 0] 88)) P tv ts s (.ok 0) := ⟨BP, by
      obtain ⟨ta, tc, et, h⟩ := T3.out
      refine ⟨ta, tc, et, ?_⟩
      rcases h with h | ⟨g, e1, h2, h3⟩
      · exact Or.inl h
      · refine Or.inr ⟨g, e1, by rw [← hP]; exact h2, fun i hi => ?_⟩
        obtain ⟨a, b, c⟩ := h3 i hi
        exact ⟨GP.cell (fun h => h) a, GP.cell (fun h => h) b, GP.cell (fun h => h) c⟩, Nat.zero_le _, EV.out, fun e he => by cases he⟩
    have R5 := hide (R4.chg GE (fun _ _ h => h))
    have E5 := hide BE
    have A5 := hide (GE.blk (GP.blk A3.out))
    have B5 := hide (GE.blk (GP.blk B3.out))
    have G5 := hide ((G3.out.trans GP).trans GE)
    have PL : Hid (A < B ∧ B < P ∧ P + 1 = E ∧ w.heap.size = A ∧ ((((w2.alloc (.cells #[.int .i64 0, .int .i64 0, .int .i64 0, .string ⟨#[]⟩] 33)).alloc (.cells #[tv, .string s, .int .i64 0, .int .i64 0, .int .i64 0] 88)).alloc (.cells #[.int .i64 0, .string ⟨#[]⟩, .int .i64 0, .slice none 0 0] 55)).heap.size = E + 1)) := hide ⟨DL.out.1, by have := DL.out; omega, hE, DL.out.2.2, by rw [al_sz, al_sz, hP, hE]⟩
    have RE := hide (HI.out P tv _ R5.out)
    have tvx : ∃ ta tc, tv = .slice ta ts.length tc := by obtain ⟨ta, tc, et, _⟩ := T3.out; exact ⟨ta, tc, et⟩
    obtain ⟨ta, tc, rfl⟩ := tvx
    clear GP BP GE BE R4
    go_wp2_with fail
    try rw [hD]
    try rw [hP]
    try rw [hP2]
    try rw [hE]
    clear hD hP hP2 hE
    generalize ((w2.alloc (.cells #[.int .i64 0, .int .i64 0, .int .i64 0, .string ⟨#[]⟩] 33)).alloc (.cells #[.slice ta ts.length tc, .string s, .int .i64 0, .int .i64 0, .int .i64 0] 88)).alloc (.cells #[.int .i64 0, .string ⟨#[]⟩, .int .i64 0, .slice none 0 0] 55) = w5 at *
    refine RE.out.mono ?_
    rintro e w6 ⟨⟨u, n, rfl, hn, hq⟩, h6, g6⟩
    obtain ⟨n0, n1, n2, n3⟩ := n
    obtain ⟨na, nc, rfl, hn⟩ := hn
    dsimp only [Nd.kind, Nd.word, Nd.at, Nd.kids] at hn ⊢
    have A6 := hide (g6.blkS (by have := PL.out; omega) A5.out)
    have B6 := hide (g6.blkS (by have := PL.out; omega) B5.out)
    have E6 := hide (g6.blkS (by have := PL.out; omega) E5.out)
    have G6 : Hid (Chg (fun x => A ≤ x) w w6) := hide ((G5.out.mono (T := fun x => A ≤ x) (fun x _ h => h.elim)).trans (g6.mono (fun x _ e => by have := PL.out; omega)))
    have N6 := hide (hn.up (Y := fun x => E < x ∧ x < w6.heap.size) (fun x hx => ⟨by have := PL.out; omega, hx.2⟩))
    have HQ := hide hq
    have H6 := hide h6
    clear g6 hn hq h6 R5 A5 B5 E5 G5 RE
    have b0 := blk_cell E6.out 0
    have ff0 := blk_free E6.out 0
    have b1 := blk_cell E6.out 1
    have ff1 := blk_free E6.out 1
    have b2 := blk_cell E6.out 2
    have ff2 := blk_free E6.out 2
    have b3 := blk_cell E6.out 3
    have ff3 := blk_free E6.out 3
    have NE : Hid (((((w6.setCell ⟨E, 0, none⟩ (.int .i64 n0)).setCell ⟨E, 1, none⟩ (.string n1)).setCell ⟨E, 2, none⟩ (.int .i64 n2)).setCell ⟨E, 3, none⟩ (.slice na n3.len nc)).heap[E]? = some (.cells #[.int .i64 n0, .string n1, .int .i64 n2, .slice na n3.len nc] 55) ∧ Chg (fun x => x = E) w6 ((((w6.setCell ⟨E, 0, none⟩ (.int .i64 n0)).setCell ⟨E, 1, none⟩ (.string n1)).setCell ⟨E, 2, none⟩ (.int .i64 n2)).setCell ⟨E, 3, none⟩ (.slice na n3.len nc))) := hide ⟨(blk_set (blk_set (blk_set (blk_set E6.out 0 (.int .i64 n0)) 1 (.string n1)) 2 (.int .i64 n2)) 3 (.slice na n3.len nc)), ((((Chg.set w6 E 0 (.int .i64 n0)).trans (Chg.set (w6.setCell ⟨E, 0, none⟩ (.int .i64 n0)) E 1 (.string n1))).trans (Chg.set ((w6.setCell ⟨E, 0, none⟩ (.int .i64 n0)).setCell ⟨E, 1, none⟩ (.string n1)) E 2 (.int .i64 n2))).trans (Chg.set (((w6.setCell ⟨E, 0, none⟩ (.int .i64 n0)).setCell ⟨E, 1, none⟩ (.string n1)).setCell ⟨E, 2, none⟩ (.int .i64 n2)) E 3 (.slice na n3.len nc)))⟩
    have A7 := hide (NE.out.2.blkS (by have := PL.out; omega) A6.out)
    have B7 := hide (NE.out.2.blkS (by have := PL.out; omega) B6.out)
    have E7 := hide NE.out.1
    have H7 := hide (H6.out.chg NE.out.2 (fun x hx e => by have := PL.out; omega))
    have G7 : Hid (Chg (fun x => A ≤ x) w ((((w6.setCell ⟨E, 0, none⟩ (.int .i64 n0)).setCell ⟨E, 1, none⟩ (.string n1)).setCell ⟨E, 2, none⟩ (.int .i64 n2)).setCell ⟨E, 3, none⟩ (.slice na n3.len nc))) := hide (G6.out.trans (NE.out.2.mono (fun x _ e => by have := PL.out; omega)))
    have N7 := hide ((N6.out.chg NE.out.2 (fun x hx e => by have := hx.1; omega)).up (Y := fun x => E < x ∧ x < ((((w6.setCell ⟨E, 0, none⟩ (.int .i64 n0)).setCell ⟨E, 1, none⟩ (.string n1)).setCell ⟨E, 2, none⟩ (.int .i64 n2)).setCell ⟨E, 3, none⟩ (.slice na n3.len nc)).heap.size) (fun x hx => ⟨hx.1, by have := NE.out.2.size; have := hx.2; omega⟩))
    go_upto_region 9 with fail
    clear b0 b1 b2 b3 ff0 ff1 ff2 ff3
    generalize ((((w6.setCell ⟨E, 0, none⟩ (.int .i64 n0)).setCell ⟨E, 1, none⟩ (.string n1)).setCell ⟨E, 2, none⟩ (.int .i64 n2)).setCell ⟨E, 3, none⟩ (.slice na n3.len nc)) = w7 at *
    cases r with
    | error x =>
      have HX : Hid (RR = (fl4 ts s (some x), zN)) := hide HR.out
      obtain ⟨e1, e2⟩ := rerr_ne (H7.out.code x rfl)
      have c3 : w7.cell? ⟨P, 3, none⟩ = some (.int .i64 x.1) := H7.out.cells.2.2.2.1
      clear HR HQ
      go_wp2_with fail
      clear c3
      refine (rfault_any HAT.out HTX.out H7.out).mono ?_
      rintro e w8 ⟨rfl, h8, g8⟩
      have A8 := hide (g8.blkS (by have := PL.out; omega) A7.out)
      have B8 := hide (g8.blkS (by have := PL.out; omega) B7.out)
      have G8 := hide (G7.out.trans (g8.mono (fun x _ e => by have := PL.out; omega)))
      obtain ⟨FF, hFF⟩ : ∃ FF, fl4 ts s (some x) = FF := ⟨_, rfl⟩
      rw [hFF] at HX ⊢
      obtain ⟨f0, f1, f2, f3⟩ := FF
      dsimp only
      have HR : Hid (RR = ((f0, f1, f2, f3), zN)) := hide HX.out
      clear h8 g8 hFF H7 A7 B7 G7 e1 e2
      have b0 := blk_cell A8.out 0
      have ff0 := blk_free A8.out 0
      have b1 := blk_cell A8.out 1
      have ff1 := blk_free A8.out 1
      have b2 := blk_cell A8.out 2
      have ff2 := blk_free A8.out 2
      have b3 := blk_cell A8.out 3
      have ff3 := blk_free A8.out 3
      have bb0 := blk_cell B8.out 0
      have fg0 := blk_free B8.out 0
      have bb1 := blk_cell B8.out 1
      have fg1 := blk_free B8.out 1
      have bb2 := blk_cell B8.out 2
      have fg2 := blk_free B8.out 2
      have bb3 := blk_cell B8.out 3
      have fg3 := blk_free B8.out 3
      have hAB : ¬ A = B := by have := PL.out; omega
      have hBA : ¬ B = A := by have := PL.out; omega
      go_wp2_with fail
      clear b0 b1 b2 b3 ff0 ff1 ff2 ff3 bb0 bb1 bb2 bb3 fg0 fg1 fg2 fg3
      have NA : Hid (((((w8.setCell ⟨A, 0, none⟩ (.int .i64 0)).setCell ⟨A, 1, none⟩ (.string ⟨#[]⟩)).setCell ⟨A, 2, none⟩ (.int .i64 0)).setCell ⟨A, 3, none⟩ (.slice none 0 0)).heap[A]? = some (.cells #[.int .i64 0, .string ⟨#[]⟩, .int .i64 0, .slice none 0 0] 55) ∧ Chg (fun x => x = A) w8 ((((w8.setCell ⟨A, 0, none⟩ (.int .i64 0)).setCell ⟨A, 1, none⟩ (.string ⟨#[]⟩)).setCell ⟨A, 2, none⟩ (.int .i64 0)).setCell ⟨A, 3, none⟩ (.slice none 0 0))) := hide ⟨(blk_set (blk_set (blk_set (blk_set A8.out 0 (.int .i64 0)) 1 (.string ⟨#[]⟩)) 2 (.int .i64 0)) 3 (.slice none 0 0)), ((((Chg.set w8 A 0 (.int .i64 0)).trans (Chg.set (w8.setCell ⟨A, 0, none⟩ (.int .i64 0)) A 1 (.string ⟨#[]⟩))).trans (Chg.set ((w8.setCell ⟨A, 0, none⟩ (.int .i64 0)).setCell ⟨A, 1, none⟩ (.string ⟨#[]⟩)) A 2 (.int .i64 0))).trans (Chg.set (((w8.setCell ⟨A, 0, none⟩ (.int .i64 0)).setCell ⟨A, 1, none⟩ (.string ⟨#[]⟩)).setCell ⟨A, 2, none⟩ (.int .i64 0)) A 3 (.slice none 0 0)))⟩
      have B9 := hide (NA.out.2.blkS (by have := PL.out; omega) B8.out)
      have NB : Hid (((((((((w8.setCell ⟨A, 0, none⟩ (.int .i64 0)).setCell ⟨A, 1, none⟩ (.string ⟨#[]⟩)).setCell ⟨A, 2, none⟩ (.int .i64 0)).setCell ⟨A, 3, none⟩ (.slice none 0 0)).setCell ⟨B, 0, none⟩ (.int .i64 f0)).setCell ⟨B, 1, none⟩ (.int .i64 f1)).setCell ⟨B, 2, none⟩ (.int .i64 f2)).setCell ⟨B, 3, none⟩ (.string f3)).heap[B]? = some (.cells #[.int .i64 f0, .int .i64 f1, .int .i64 f2, .string f3] 33) ∧ Chg (fun x => x = B) ((((w8.setCell ⟨A, 0, none⟩ (.int .i64 0)).setCell ⟨A, 1, none⟩ (.string ⟨#[]⟩)).setCell ⟨A, 2, none⟩ (.int .i64 0)).setCell ⟨A, 3, none⟩ (.slice none 0 0)) ((((((((w8.setCell ⟨A, 0, none⟩ (.int .i64 0)).setCell ⟨A, 1, none⟩ (.string ⟨#[]⟩)).setCell ⟨A, 2, none⟩ (.int .i64 0)).setCell ⟨A, 3, none⟩ (.slice none 0 0)).setCell ⟨B, 0, none⟩ (.int .i64 f0)).setCell ⟨B, 1, none⟩ (.int .i64 f1)).setCell ⟨B, 2, none⟩ (.int .i64 f2)).setCell ⟨B, 3, none⟩ (.string f3))) := hide ⟨(blk_set (blk_set (blk_set (blk_set B9.out 0 (.int .i64 f0)) 1 (.int .i64 f1)) 2 (.int .i64 f2)) 3 (.string f3)), ((((Chg.set ((((w8.setCell ⟨A, 0, none⟩ (.int .i64 0)).setCell ⟨A, 1, none⟩ (.string ⟨#[]⟩)).setCell ⟨A, 2, none⟩ (.int .i64 0)).setCell ⟨A, 3, none⟩ (.slice none 0 0)) B 0 (.int .i64 f0)).trans (Chg.set (((((w8.setCell ⟨A, 0, none⟩ (.int .i64 0)).setCell ⟨A, 1, none⟩ (.string ⟨#[]⟩)).setCell ⟨A, 2, none⟩ (.int .i64 0)).setCell ⟨A, 3, none⟩ (.slice none 0 0)).setCell ⟨B, 0, none⟩ (.int .i64 f0)) B 1 (.int .i64 f1))).trans (Chg.set ((((((w8.setCell ⟨A, 0, none⟩ (.int .i64 0)).setCell ⟨A, 1, none⟩ (.string ⟨#[]⟩)).setCell ⟨A, 2, none⟩ (.int .i64 0)).setCell ⟨A, 3, none⟩ (.slice none 0 0)).setCell ⟨B, 0, none⟩ (.int .i64 f0)).setCell ⟨B, 1, none⟩ (.int .i64 f1)) B 2 (.int .i64 f2))).trans (Chg.set (((((((w8.setCell ⟨A, 0, none⟩ (.int .i64 0)).setCell ⟨A, 1, none⟩ (.string ⟨#[]⟩)).setCell ⟨A, 2, none⟩ (.int .i64 0)).setCell ⟨A, 3, none⟩ (.slice none 0 0)).setCell ⟨B, 0, none⟩ (.int .i64 f0)).setCell ⟨B, 1, none⟩ (.int .i64 f1)).setCell ⟨B, 2, none⟩ (.int .i64 f2)) B 3 (.string f3)))⟩
      have NA2 := hide (NB.out.2.blkS (by have := PL.out; omega) NA.out.1)
      have GF : Hid (Chg (fun _ => False) w ((((((((w8.setCell ⟨A, 0, none⟩ (.int .i64 0)).setCell ⟨A, 1, none⟩ (.string ⟨#[]⟩)).setCell ⟨A, 2, none⟩ (.int .i64 0)).setCell ⟨A, 3, none⟩ (.slice none 0 0)).setCell ⟨B, 0, none⟩ (.int .i64 f0)).setCell ⟨B, 1, none⟩ (.int .i64 f1)).setCell ⟨B, 2, none⟩ (.int .i64 f2)).setCell ⟨B, 3, none⟩ (.string f3))) := hide (((G8.out.trans (NA.out.2.mono (fun x _ h => by have := PL.out; omega))).trans (NB.out.2.mono (fun x _ h => by have := PL.out; omega))).mono (fun x hx e => by have := PL.out; omega))
      generalize ((((((((w8.setCell ⟨A, 0, none⟩ (.int .i64 0)).setCell ⟨A, 1, none⟩ (.string ⟨#[]⟩)).setCell ⟨A, 2, none⟩ (.int .i64 0)).setCell ⟨A, 3, none⟩ (.slice none 0 0)).setCell ⟨B, 0, none⟩ (.int .i64 f0)).setCell ⟨B, 1, none⟩ (.int .i64 f1)).setCell ⟨B, 2, none⟩ (.int .i64 f2)).setCell ⟨B, 3, none⟩ (.string f3)) = wF at *
      have r0 := blk_cell NB.out.1 0
      have r1 := blk_cell NB.out.1 1
      have r2 := blk_cell NB.out.1 2
      have r3 := blk_cell NB.out.1 3
      have a0 := blk_cell NA2.out 0
      have a1 := blk_cell NA2.out 1
      have a2 := blk_cell NA2.out 2
      have a3 := blk_cell NA2.out 3
      refine bodyPost_ret (v := .tuple #[.agg #[.int .i64 0, .string ⟨#[]⟩, .int .i64 0, .slice none 0 0], f4V (f0, f1, f2, f3)]) (by simp [results, Try.results15, go_sem, r0, r1, r2, r3, a0, a1, a2, a3]) rfl ?_
      exact ⟨⟨_, by rw [HR.out], by rw [HR.out]; exact NV.leaf _ _ 0 ⟨#[]⟩ 0⟩, GF.out⟩
    | ok q =>
      obtain ⟨qn, k⟩ := q
      have hqn := HQ.out (qn, k) rfl
      dsimp only at hqn
      subst hqn
      have c2 : w7.cell? ⟨P, 2, none⟩ = some (.int .i64 (k : Int)) := H7.out.cells.2.2.1
      have c3 : w7.cell? ⟨P, 3, none⟩ = some (.int .i64 0) := H7.out.cells.2.2.2.1
      by_cases hk : k < ts.length
      · have HX : Hid (RR = (fl4 ts s (some (3, k)), zN)) := hide (by
          rw [HR.out]
          have : endS ts (.ok ((n0, n1, n2, n3), k) : Rz Nd) = .error (3, k) := by unfold endS; simp only [Rz.bind]; rw [if_pos hk]
          rw [this])
        have qk : decide (k < ts.length) = true := by simp [hk]
        clear HR HQ
        go_wp2_with fail
        clear c2 c3
        refine (rfail_ok 3 (Or.inr rfl) H7.out).mono ?_
        rintro e w7' ⟨rfl, h7, g7⟩
        have A7 := hide (g7.blkS (by have := PL.out; omega) A7.out)
        have B7 := hide (g7.blkS (by have := PL.out; omega) B7.out)
        have G7 := hide (G7.out.trans (g7.mono (fun x _ e => by have := PL.out; omega)))
        have H7 := hide h7
        obtain ⟨x, hx⟩ : ∃ x : Pf, ((3 : Int), k) = x := ⟨_, rfl⟩
        rw [hx] at HX H7
        obtain ⟨e1, e2⟩ := rerr_ne (H7.out.code x rfl)
        have c3 : w7'.cell? ⟨P, 3, none⟩ = some (.int .i64 x.1) := H7.out.cells.2.2.2.1
        clear hx h7 g7
        go_wp2_with fail
        clear c3
        refine (rfault_any HAT.out HTX.out H7.out).mono ?_
        rintro e w8 ⟨rfl, h8, g8⟩
        have A8 := hide (g8.blkS (by have := PL.out; omega) A7.out)
        have B8 := hide (g8.blkS (by have := PL.out; omega) B7.out)
        have G8 := hide (G7.out.trans (g8.mono (fun x _ e => by have := PL.out; omega)))
        obtain ⟨FF, hFF⟩ : ∃ FF, fl4 ts s (some x) = FF := ⟨_, rfl⟩
        rw [hFF] at HX ⊢
        obtain ⟨f0, f1, f2, f3⟩ := FF
        dsimp only
        have HR : Hid (RR = ((f0, f1, f2, f3), zN)) := hide HX.out
        clear h8 g8 hFF H7 A7 B7 G7 e1 e2
        have b0 := blk_cell A8.out 0
        have ff0 := blk_free A8.out 0
        have b1 := blk_cell A8.out 1
        have ff1 := blk_free A8.out 1
        have b2 := blk_cell A8.out 2
        have ff2 := blk_free A8.out 2
        have b3 := blk_cell A8.out 3
        have ff3 := blk_free A8.out 3
        have bb0 := blk_cell B8.out 0
        have fg0 := blk_free B8.out 0
        have bb1 := blk_cell B8.out 1
        have fg1 := blk_free B8.out 1
        have bb2 := blk_cell B8.out 2
        have fg2 := blk_free B8.out 2
        have bb3 := blk_cell B8.out 3
        have fg3 := blk_free B8.out 3
        have hAB : ¬ A = B := by have := PL.out; omega
        have hBA : ¬ B = A := by have := PL.out; omega
        go_wp2_with fail
        clear b0 b1 b2 b3 ff0 ff1 ff2 ff3 bb0 bb1 bb2 bb3 fg0 fg1 fg2 fg3
        have NA : Hid (((((w8.setCell ⟨A, 0, none⟩ (.int .i64 0)).setCell ⟨A, 1, none⟩ (.string ⟨#[]⟩)).setCell ⟨A, 2, none⟩ (.int .i64 0)).setCell ⟨A, 3, none⟩ (.slice none 0 0)).heap[A]? = some (.cells #[.int .i64 0, .string ⟨#[]⟩, .int .i64 0, .slice none 0 0] 55) ∧ Chg (fun x => x = A) w8 ((((w8.setCell ⟨A, 0, none⟩ (.int .i64 0)).setCell ⟨A, 1, none⟩ (.string ⟨#[]⟩)).setCell ⟨A, 2, none⟩ (.int .i64 0)).setCell ⟨A, 3, none⟩ (.slice none 0 0))) := hide ⟨(blk_set (blk_set (blk_set (blk_set A8.out 0 (.int .i64 0)) 1 (.string ⟨#[]⟩)) 2 (.int .i64 0)) 3 (.slice none 0 0)), ((((Chg.set w8 A 0 (.int .i64 0)).trans (Chg.set (w8.setCell ⟨A, 0, none⟩ (.int .i64 0)) A 1 (.string ⟨#[]⟩))).trans (Chg.set ((w8.setCell ⟨A, 0, none⟩ (.int .i64 0)).setCell ⟨A, 1, none⟩ (.string ⟨#[]⟩)) A 2 (.int .i64 0))).trans (Chg.set (((w8.setCell ⟨A, 0, none⟩ (.int .i64 0)).setCell ⟨A, 1, none⟩ (.string ⟨#[]⟩)).setCell ⟨A, 2, none⟩ (.int .i64 0)) A 3 (.slice none 0 0)))⟩
        have B9 := hide (NA.out.2.blkS (by have := PL.out; omega) B8.out)
        have NB : Hid (((((((((w8.setCell ⟨A, 0, none⟩ (.int .i64 0)).setCell ⟨A, 1, none⟩ (.string ⟨#[]⟩)).setCell ⟨A, 2, none⟩ (.int .i64 0)).setCell ⟨A, 3, none⟩ (.slice none 0 0)).setCell ⟨B, 0, none⟩ (.int .i64 f0)).setCell ⟨B, 1, none⟩ (.int .i64 f1)).setCell ⟨B, 2, none⟩ (.int .i64 f2)).setCell ⟨B, 3, none⟩ (.string f3)).heap[B]? = some (.cells #[.int .i64 f0, .int .i64 f1, .int .i64 f2, .string f3] 33) ∧ Chg (fun x => x = B) ((((w8.setCell ⟨A, 0, none⟩ (.int .i64 0)).setCell ⟨A, 1, none⟩ (.string ⟨#[]⟩)).setCell ⟨A, 2, none⟩ (.int .i64 0)).setCell ⟨A, 3, none⟩ (.slice none 0 0)) ((((((((w8.setCell ⟨A, 0, none⟩ (.int .i64 0)).setCell ⟨A, 1, none⟩ (.string ⟨#[]⟩)).setCell ⟨A, 2, none⟩ (.int .i64 0)).setCell ⟨A, 3, none⟩ (.slice none 0 0)).setCell ⟨B, 0, none⟩ (.int .i64 f0)).setCell ⟨B, 1, none⟩ (.int .i64 f1)).setCell ⟨B, 2, none⟩ (.int .i64 f2)).setCell ⟨B, 3, none⟩ (.string f3))) := hide ⟨(blk_set (blk_set (blk_set (blk_set B9.out 0 (.int .i64 f0)) 1 (.int .i64 f1)) 2 (.int .i64 f2)) 3 (.string f3)), ((((Chg.set ((((w8.setCell ⟨A, 0, none⟩ (.int .i64 0)).setCell ⟨A, 1, none⟩ (.string ⟨#[]⟩)).setCell ⟨A, 2, none⟩ (.int .i64 0)).setCell ⟨A, 3, none⟩ (.slice none 0 0)) B 0 (.int .i64 f0)).trans (Chg.set (((((w8.setCell ⟨A, 0, none⟩ (.int .i64 0)).setCell ⟨A, 1, none⟩ (.string ⟨#[]⟩)).setCell ⟨A, 2, none⟩ (.int .i64 0)).setCell ⟨A, 3, none⟩ (.slice none 0 0)).setCell ⟨B, 0, none⟩ (.int .i64 f0)) B 1 (.int .i64 f1))).trans (Chg.set ((((((w8.setCell ⟨A, 0, none⟩ (.int .i64 0)).setCell ⟨A, 1, none⟩ (.string ⟨#[]⟩)).setCell ⟨A, 2, none⟩ (.int .i64 0)).setCell ⟨A, 3, none⟩ (.slice none 0 0)).setCell ⟨B, 0, none⟩ (.int .i64 f0)).setCell ⟨B, 1, none⟩ (.int .i64 f1)) B 2 (.int .i64 f2))).trans (Chg.set (((((((w8.setCell ⟨A, 0, none⟩ (.int .i64 0)).setCell ⟨A, 1, none⟩ (.string ⟨#[]⟩)).setCell ⟨A, 2, none⟩ (.int .i64 0)).setCell ⟨A, 3, none⟩ (.slice none 0 0)).setCell ⟨B, 0, none⟩ (.int .i64 f0)).setCell ⟨B, 1, none⟩ (.int .i64 f1)).setCell ⟨B, 2, none⟩ (.int .i64 f2)) B 3 (.string f3)))⟩
        have NA2 := hide (NB.out.2.blkS (by have := PL.out; omega) NA.out.1)
        have GF : Hid (Chg (fun _ => False) w ((((((((w8.setCell ⟨A, 0, none⟩ (.int .i64 0)).setCell ⟨A, 1, none⟩ (.string ⟨#[]⟩)).setCell ⟨A, 2, none⟩ (.int .i64 0)).setCell ⟨A, 3, none⟩ (.slice none 0 0)).setCell ⟨B, 0, none⟩ (.int .i64 f0)).setCell ⟨B, 1, none⟩ (.int .i64 f1)).setCell ⟨B, 2, none⟩ (.int .i64 f2)).setCell ⟨B, 3, none⟩ (.string f3))) := hide (((G8.out.trans (NA.out.2.mono (fun x _ h => by have := PL.out; omega))).trans (NB.out.2.mono (fun x _ h => by have := PL.out; omega))).mono (fun x hx e => by have := PL.out; omega))
        generalize ((((((((w8.setCell ⟨A, 0, none⟩ (.int .i64 0)).setCell ⟨A, 1, none⟩ (.string ⟨#[]⟩)).setCell ⟨A, 2, none⟩ (.int .i64 0)).setCell ⟨A, 3, none⟩ (.slice none 0 0)).setCell ⟨B, 0, none⟩ (.int .i64 f0)).setCell ⟨B, 1, none⟩ (.int .i64 f1)).setCell ⟨B, 2, none⟩ (.int .i64 f2)).setCell ⟨B, 3, none⟩ (.string f3)) = wF at *
        have r0 := blk_cell NB.out.1 0
        have r1 := blk_cell NB.out.1 1
        have r2 := blk_cell NB.out.1 2
        have r3 := blk_cell NB.out.1 3
        have a0 := blk_cell NA2.out 0
        have a1 := blk_cell NA2.out 1
        have a2 := blk_cell NA2.out 2
        have a3 := blk_cell NA2.out 3
        refine bodyPost_ret (v := .tuple #[.agg #[.int .i64 0, .string ⟨#[]⟩, .int .i64 0, .slice none 0 0], f4V (f0, f1, f2, f3)]) (by simp [results, Try.results15, go_sem, r0, r1, r2, r3, a0, a1, a2, a3]) rfl ?_
        exact ⟨⟨_, by rw [HR.out], by rw [HR.out]; exact NV.leaf _ _ 0 ⟨#[]⟩ 0⟩, GF.out⟩
      · have HX : Hid (RR = ((0, 0, 0, ⟨#[]⟩), (n0, n1, n2, n3))) := hide (by
          rw [HR.out]
          have : endS ts (.ok ((n0, n1, n2, n3), k) : Rz Nd) = .ok ((n0, n1, n2, n3), k) := by unfold endS; simp only [Rz.bind]; rw [if_neg hk]
          rw [this])
        have qk : decide (k < ts.length) = false := by simp [hk]
        have y0 := blk_cell E7.out 0
        have y1 := blk_cell E7.out 1
        have y2 := blk_cell E7.out 2
        have y3 := blk_cell E7.out 3
        simp only [List.getElem?_toArray, List.getElem?_cons_zero, List.getElem?_cons_succ] at y0 y1 y2 y3
        clear HR HQ
        have b0 := blk_cell A7.out 0
        have ff0 := blk_free A7.out 0
        have b1 := blk_cell A7.out 1
        have ff1 := blk_free A7.out 1
        have b2 := blk_cell A7.out 2
        have ff2 := blk_free A7.out 2
        have b3 := blk_cell A7.out 3
        have ff3 := blk_free A7.out 3
        have bb0 := blk_cell B7.out 0
        have fg0 := blk_free B7.out 0
        have bb1 := blk_cell B7.out 1
        have fg1 := blk_free B7.out 1
        have bb2 := blk_cell B7.out 2
        have fg2 := blk_free B7.out 2
        have bb3 := blk_cell B7.out 3
        have fg3 := blk_free B7.out 3
        have hAB : ¬ A = B := by have := PL.out; omega
        have hBA : ¬ B = A := by have := PL.out; omega
        go_wp2_with fail
        clear b0 b1 b2 b3 ff0 ff1 ff2 ff3 bb0 bb1 bb2 bb3 fg0 fg1 fg2 fg3
        have NA : Hid (((((w7.setCell ⟨A, 0, none⟩ (.int .i64 n0)).setCell ⟨A, 1, none⟩ (.string n1)).setCell ⟨A, 2, none⟩ (.int .i64 n2)).setCell ⟨A, 3, none⟩ (.slice na n3.len nc)).heap[A]? = some (.cells #[.int .i64 n0, .string n1, .int .i64 n2, .slice na n3.len nc] 55) ∧ Chg (fun x => x = A) w7 ((((w7.setCell ⟨A, 0, none⟩ (.int .i64 n0)).setCell ⟨A, 1, none⟩ (.string n1)).setCell ⟨A, 2, none⟩ (.int .i64 n2)).setCell ⟨A, 3, none⟩ (.slice na n3.len nc))) := hide ⟨(blk_set (blk_set (blk_set (blk_set A7.out 0 (.int .i64 n0)) 1 (.string n1)) 2 (.int .i64 n2)) 3 (.slice na n3.len nc)), ((((Chg.set w7 A 0 (.int .i64 n0)).trans (Chg.set (w7.setCell ⟨A, 0, none⟩ (.int .i64 n0)) A 1 (.string n1))).trans (Chg.set ((w7.setCell ⟨A, 0, none⟩ (.int .i64 n0)).setCell ⟨A, 1, none⟩ (.string n1)) A 2 (.int .i64 n2))).trans (Chg.set (((w7.setCell ⟨A, 0, none⟩ (.int .i64 n0)).setCell ⟨A, 1, none⟩ (.string n1)).setCell ⟨A, 2, none⟩ (.int .i64 n2)) A 3 (.slice na n3.len nc)))⟩
        have B9 := hide (NA.out.2.blkS (by have := PL.out; omega) B7.out)
        have NB : Hid (((((((((w7.setCell ⟨A, 0, none⟩ (.int .i64 n0)).setCell ⟨A, 1, none⟩ (.string n1)).setCell ⟨A, 2, none⟩ (.int .i64 n2)).setCell ⟨A, 3, none⟩ (.slice na n3.len nc)).setCell ⟨B, 0, none⟩ (.int .i64 0)).setCell ⟨B, 1, none⟩ (.int .i64 0)).setCell ⟨B, 2, none⟩ (.int .i64 0)).setCell ⟨B, 3, none⟩ (.string ⟨#[]⟩)).heap[B]? = some (.cells #[.int .i64 0, .int .i64 0, .int .i64 0, .string ⟨#[]⟩] 33) ∧ Chg (fun x => x = B) ((((w7.setCell ⟨A, 0, none⟩ (.int .i64 n0)).setCell ⟨A, 1, none⟩ (.string n1)).setCell ⟨A, 2, none⟩ (.int .i64 n2)).setCell ⟨A, 3, none⟩ (.slice na n3.len nc)) ((((((((w7.setCell ⟨A, 0, none⟩ (.int .i64 n0)).setCell ⟨A, 1, none⟩ (.string n1)).setCell ⟨A, 2, none⟩ (.int .i64 n2)).setCell ⟨A, 3, none⟩ (.slice na n3.len nc)).setCell ⟨B, 0, none⟩ (.int .i64 0)).setCell ⟨B, 1, none⟩ (.int .i64 0)).setCell ⟨B, 2, none⟩ (.int .i64 0)).setCell ⟨B, 3, none⟩ (.string ⟨#[]⟩))) := hide ⟨(blk_set (blk_set (blk_set (blk_set B9.out 0 (.int .i64 0)) 1 (.int .i64 0)) 2 (.int .i64 0)) 3 (.string ⟨#[]⟩)), ((((Chg.set ((((w7.setCell ⟨A, 0, none⟩ (.int .i64 n0)).setCell ⟨A, 1, none⟩ (.string n1)).setCell ⟨A, 2, none⟩ (.int .i64 n2)).setCell ⟨A, 3, none⟩ (.slice na n3.len nc)) B 0 (.int .i64 0)).trans (Chg.set (((((w7.setCell ⟨A, 0, none⟩ (.int .i64 n0)).setCell ⟨A, 1, none⟩ (.string n1)).setCell ⟨A, 2, none⟩ (.int .i64 n2)).setCell ⟨A, 3, none⟩ (.slice na n3.len nc)).setCell ⟨B, 0, none⟩ (.int .i64 0)) B 1 (.int .i64 0))).trans (Chg.set ((((((w7.setCell ⟨A, 0, none⟩ (.int .i64 n0)).setCell ⟨A, 1, none⟩ (.string n1)).setCell ⟨A, 2, none⟩ (.int .i64 n2)).setCell ⟨A, 3, none⟩ (.slice na n3.len nc)).setCell ⟨B, 0, none⟩ (.int .i64 0)).setCell ⟨B, 1, none⟩ (.int .i64 0)) B 2 (.int .i64 0))).trans (Chg.set (((((((w7.setCell ⟨A, 0, none⟩ (.int .i64 n0)).setCell ⟨A, 1, none⟩ (.string n1)).setCell ⟨A, 2, none⟩ (.int .i64 n2)).setCell ⟨A, 3, none⟩ (.slice na n3.len nc)).setCell ⟨B, 0, none⟩ (.int .i64 0)).setCell ⟨B, 1, none⟩ (.int .i64 0)).setCell ⟨B, 2, none⟩ (.int .i64 0)) B 3 (.string ⟨#[]⟩)))⟩
        have NA2 := hide (NB.out.2.blkS (by have := PL.out; omega) NA.out.1)
        have GC2 := hide ((NA.out.2.mono (T := fun x => x = A ∨ x = B) (fun x _ h => Or.inl h)).trans (NB.out.2.mono (fun x _ h => Or.inr h)))
        have GF : Hid (Chg (fun _ => False) w ((((((((w7.setCell ⟨A, 0, none⟩ (.int .i64 n0)).setCell ⟨A, 1, none⟩ (.string n1)).setCell ⟨A, 2, none⟩ (.int .i64 n2)).setCell ⟨A, 3, none⟩ (.slice na n3.len nc)).setCell ⟨B, 0, none⟩ (.int .i64 0)).setCell ⟨B, 1, none⟩ (.int .i64 0)).setCell ⟨B, 2, none⟩ (.int .i64 0)).setCell ⟨B, 3, none⟩ (.string ⟨#[]⟩))) := hide ((G7.out.trans (GC2.out.mono (fun x _ h => by have := PL.out; rcases h with h | h <;> omega))).mono (fun x hx e => by have := PL.out; omega))
        have LF := hide ((N7.out.chg GC2.out (fun x hx e => by have := hx.1; have := PL.out; rcases e with e | e <;> omega)).up (Y := fun x => w.heap.size ≤ x ∧ x < ((((((((w7.setCell ⟨A, 0, none⟩ (.int .i64 n0)).setCell ⟨A, 1, none⟩ (.string n1)).setCell ⟨A, 2, none⟩ (.int .i64 n2)).setCell ⟨A, 3, none⟩ (.slice na n3.len nc)).setCell ⟨B, 0, none⟩ (.int .i64 0)).setCell ⟨B, 1, none⟩ (.int .i64 0)).setCell ⟨B, 2, none⟩ (.int .i64 0)).setCell ⟨B, 3, none⟩ (.string ⟨#[]⟩)).heap.size) (fun x hx => ⟨by have := hx.1; have := PL.out; omega, by have := GC2.out.size; have := hx.2; omega⟩))
        generalize ((((((((w7.setCell ⟨A, 0, none⟩ (.int .i64 n0)).setCell ⟨A, 1, none⟩ (.string n1)).setCell ⟨A, 2, none⟩ (.int .i64 n2)).setCell ⟨A, 3, none⟩ (.slice na n3.len nc)).setCell ⟨B, 0, none⟩ (.int .i64 0)).setCell ⟨B, 1, none⟩ (.int .i64 0)).setCell ⟨B, 2, none⟩ (.int .i64 0)).setCell ⟨B, 3, none⟩ (.string ⟨#[]⟩)) = wF at *
        have r0 := blk_cell NB.out.1 0
        have r1 := blk_cell NB.out.1 1
        have r2 := blk_cell NB.out.1 2
        have r3 := blk_cell NB.out.1 3
        have a0 := blk_cell NA2.out 0
        have a1 := blk_cell NA2.out 1
        have a2 := blk_cell NA2.out 2
        have a3 := blk_cell NA2.out 3
        refine bodyPost_ret (v := .tuple #[.agg #[.int .i64 n0, .string n1, .int .i64 n2, .slice na n3.len nc], f4V (0, 0, 0, ⟨#[]⟩)]) (by simp [results, Try.results15, go_sem, r0, r1, r2, r3, a0, a1, a2, a3]) rfl ?_
        exact ⟨⟨_, by rw [HX.out], by rw [HX.out]; exact ⟨na, nc, rfl, LF.out⟩⟩, GF.out⟩
end Go.Proofs.Ytboeeaekhijboaa
namespace Go.Proofs.Ytboeeaekhijboaa
open Go.RowKit
set_option linter.unusedVariables false
set_option linter.unusedSimpArgs false

set_option maxRecDepth 100000 in
set_option maxHeartbeats 32000000 in
theorem oneY_any (s : ByteArray) (hs : s.size ≤ 20000) (w : World) :
    Calls Try.prog 15 #[.string s, .bool false] w fun e w' => (∃ u, e = .returned (.tuple #[u, f4V (resS zN s (typS (lexT s) s 60 0)).1]) ∧ NV w' (fun x => w.heap.size ≤ x ∧ x < w'.heap.size) u (resS zN s (typS (lexT s) s 60 0)).2) ∧ Chg (fun _ => False) w w' := by
  obtain ⟨RR, hRR⟩ : ∃ RR, resS zN s (typS (lexT s) s 60 0) = RR := ⟨_, rfl⟩
  rw [hRR]
  have HRR := hide hRR
  clear hRR
  have GA := al w (.cells #[.int .i64 0, .string ⟨#[]⟩, .int .i64 0, .slice none 0 0] 55)
  have BA := blk_new w (.cells #[.int .i64 0, .string ⟨#[]⟩, .int .i64 0, .slice none 0 0] 55)
  have GB := al (w.alloc (.cells #[.int .i64 0, .string ⟨#[]⟩, .int .i64 0, .slice none 0 0] 55)) (.cells #[.int .i64 0, .int .i64 0, .int .i64 0, .string ⟨#[]⟩] 33)
  have BB := blk_new (w.alloc (.cells #[.int .i64 0, .string ⟨#[]⟩, .int .i64 0, .slice none 0 0] 55)) (.cells #[.int .i64 0, .int .i64 0, .int .i64 0, .string ⟨#[]⟩] 33)
  have s1 := al_sz w (.cells #[.int .i64 0, .string ⟨#[]⟩, .int .i64 0, .slice none 0 0] 55)
  rw [s1] at BB
  obtain ⟨A, hA⟩ : ∃ A, w.heap.size = A := ⟨_, rfl⟩
  obtain ⟨B, hB⟩ : ∃ B, A + 1 = B := ⟨_, rfl⟩
  rw [hA] at BA BB
  rw [hB] at BB
  have GB0 := hide (GA.trans GB)
  have A1 := hide (GB.blk BA)
  have B1 := hide BB
  have HB : Hid (w.heap.size = A ∧ A + 1 = B) := hide ⟨hA, hB⟩
  obtain ⟨F, hF⟩ : ∃ F, F = flt s (lexG s (s.size + 1) 0 false) := ⟨_, rfl⟩
  have SP := hide (fun w => refSplit_told s hs w F hF)
  have HF := hide hF
  have HS := hide hs
  clear hF hs GA BA GB BB s1
  obtain ⟨f0, f1, f2, f3⟩ := F
  dsimp only at SP
  go_enter Try.func15, Try.ntmps15
  go_wp2_with fail
  try rw [hA]
  try rw [hB]
  clear hA hB
  generalize (w.alloc (.cells #[.int .i64 0, .string ⟨#[]⟩, .int .i64 0, .slice none 0 0] 55)).alloc (.cells #[.int .i64 0, .int .i64 0, .int .i64 0, .string ⟨#[]⟩] 33) = w1 at *
  refine (SP.out w1).mono ?_
  rintro e w2 ⟨⟨tv, rfl, ht⟩, g2⟩
  have C2 := Chg.ofB g2
  have GD := al w2 (.cells #[.int .i64 f0, .int .i64 f1, .int .i64 f2, .string f3] 33)
  have D3 := hide (blk_new w2 (.cells #[.int .i64 f0, .int .i64 f1, .int .i64 f2, .string f3] 33))
  have A3 := hide (GD.blk (C2.blk A1.out))
  have B3 := hide (GD.blk (C2.blk B1.out))
  have G3 := hide ((GB0.out.trans C2).trans GD)
  have T2 := hide ht
  obtain ⟨D, hD⟩ : ∃ D, w2.heap.size = D := ⟨_, rfl⟩
  have DL : Hid (A < B ∧ B < D ∧ w.heap.size = A) := hide ⟨by have := HB.out; omega, by have := olt (C2.blk B1.out); omega, HB.out.1⟩
  rw [hD] at D3
  have GD2 := hide GD
  clear g2 C2 ht GD SP
  cases hl : lexF s with
  | some x =>
    obtain ⟨hf, htk⟩ := flt_some hl
    have h0 : f0 = x.1 := by have := HF.out; rw [hf] at this; exact congrArg Prod.fst this
    have hc : x.1 = 2 ∨ x.1 = 3 := lexG_fault s _ _ _ x hl
    have e0 : (f0 == 0) = false := by rw [h0]; rcases hc with h | h <;> rw [h] <;> rfl
    have e1 : (f0 != 0) = true := by rw [h0]; rcases hc with h | h <;> rw [h] <;> rfl
    have HR : Hid (RR = ((f0, f1, f2, f3), zN)) := hide (by rw [← HRR.out]; unfold resS; rw [hl]; dsimp only; rw [← hf, ← HF.out])
    have q0 := blk_cell D3.out 0
    have q1 := blk_cell D3.out 1
    have q2 := blk_cell D3.out 2
    have q3 := blk_cell D3.out 3
    simp only [List.getElem?_toArray, List.getElem?_cons_zero, List.getElem?_cons_succ] at q0 q1 q2 q3
    clear hf htk h0 hc HF T2
    go_wp2_with fail
    clear hD
    generalize w2.alloc (.cells #[.int .i64 f0, .int .i64 f1, .int .i64 f2, .string f3] 33) = w3 at *
    refine wp_region_held_drew (S := (fun w' => w'.cell? ⟨D, 0, none⟩ = some (.int .i64 f0) ∧ w'.cell? ⟨D, 1, none⟩ = some (.int .i64 f1) ∧ w'.cell? ⟨D, 2, none⟩ = some (.int .i64 f2) ∧ w'.cell? ⟨D, 3, none⟩ = some (.string f3))) (by kernel_rfl) (by go_keep) (fun hHeld => ?_)
    first
      | (refine wpAnyH_take (i := 0) (v := undef) rfl (by kernel_rfl) (by kernel_rfl) (by kernel_rfl) (fun _ _ _ h => h) (Or.inr ⟨by rfl, rfl⟩) (by assumption) ?_)
      | (refine wpAnyH_take (i := 0) (v := ?_) rfl (by kernel_rfl) (by kernel_rfl) (by kernel_rfl) (fun _ _ _ h => h) (Or.inl ⟨by rfl, ?_⟩) (by assumption) ?_
         rotate_left
         (intro w hSw
          (try dsimp only at hSw)
          (go_simp <;> with_reducible rfl)))
    try simp only [Act.put, List.getElem_toArray, List.getElem_cons_zero, List.getElem_cons_succ, List.setIfInBounds_toArray, List.set_cons_zero, List.set_cons_succ]
    first
      | (refine wpAnyH_take (i := 1) (v := undef) rfl (by kernel_rfl) (by kernel_rfl) (by kernel_rfl) (fun _ _ _ h => h) (Or.inr ⟨by rfl, rfl⟩) (by assumption) ?_)
      | (refine wpAnyH_take (i := 1) (v := ?_) rfl (by kernel_rfl) (by kernel_rfl) (by kernel_rfl) (fun _ _ _ h => h) (Or.inl ⟨by rfl, ?_⟩) (by assumption) ?_
         rotate_left
         (intro w hSw
          (try dsimp only at hSw)
          (go_simp <;> with_reducible rfl)))
    try simp only [Act.put, List.getElem_toArray, List.getElem_cons_zero, List.getElem_cons_succ, List.setIfInBounds_toArray, List.set_cons_zero, List.set_cons_succ]
    refine wpAnyH_ready (rs := [2]) (by kernel_rfl) (by simp) ?_
    refine AllReadyH.cons (i := 2) (o := _) rfl (fun K hK => ?_) ?_
    rotate_left
    · exact AllReadyH.nil
    have b0 := blk_cell A3.out 0
    have ff0 := blk_free A3.out 0
    have b1 := blk_cell A3.out 1
    have ff1 := blk_free A3.out 1
    have b2 := blk_cell A3.out 2
    have ff2 := blk_free A3.out 2
    have b3 := blk_cell A3.out 3
    have ff3 := blk_free A3.out 3
    go_simp
    have NA : Hid (((((w3.setCell ⟨A, 0, none⟩ (.int .i64 0)).setCell ⟨A, 1, none⟩ (.string ⟨#[]⟩)).setCell ⟨A, 2, none⟩ (.int .i64 0)).setCell ⟨A, 3, none⟩ (.slice none 0 0)).heap[A]? = some (.cells #[.int .i64 0, .string ⟨#[]⟩, .int .i64 0, .slice none 0 0] 55) ∧ Chg (fun x => x = A) w3 ((((w3.setCell ⟨A, 0, none⟩ (.int .i64 0)).setCell ⟨A, 1, none⟩ (.string ⟨#[]⟩)).setCell ⟨A, 2, none⟩ (.int .i64 0)).setCell ⟨A, 3, none⟩ (.slice none 0 0))) := hide ⟨(blk_set (blk_set (blk_set (blk_set A3.out 0 (.int .i64 0)) 1 (.string ⟨#[]⟩)) 2 (.int .i64 0)) 3 (.slice none 0 0)), ((((Chg.set w3 A 0 (.int .i64 0)).trans (Chg.set (w3.setCell ⟨A, 0, none⟩ (.int .i64 0)) A 1 (.string ⟨#[]⟩))).trans (Chg.set ((w3.setCell ⟨A, 0, none⟩ (.int .i64 0)).setCell ⟨A, 1, none⟩ (.string ⟨#[]⟩)) A 2 (.int .i64 0))).trans (Chg.set (((w3.setCell ⟨A, 0, none⟩ (.int .i64 0)).setCell ⟨A, 1, none⟩ (.string ⟨#[]⟩)).setCell ⟨A, 2, none⟩ (.int .i64 0)) A 3 (.slice none 0 0)))⟩
    have u0 := NA.out.2.cell (by have := DL.out; omega) q0
    have u1 := NA.out.2.cell (by have := DL.out; omega) q1
    have u2 := NA.out.2.cell (by have := DL.out; omega) q2
    have u3 := NA.out.2.cell (by have := DL.out; omega) q3
    refine hK.out _ _ ⟨drc u0, drc u1, drc u2, drc u3⟩ (fun hHeld => ?_)
    clear hK K
    try simp only [Act.put, List.getElem_toArray, List.getElem_cons_zero, List.getElem_cons_succ, List.setIfInBounds_toArray, List.set_cons_zero, List.set_cons_succ]
    have B4 := hide (NA.out.2.blkS (by have := DL.out; omega) B3.out)
    generalize ((((w3.setCell ⟨A, 0, none⟩ (.int .i64 0)).setCell ⟨A, 1, none⟩ (.string ⟨#[]⟩)).setCell ⟨A, 2, none⟩ (.int .i64 0)).setCell ⟨A, 3, none⟩ (.slice none 0 0)) = w4 at *
    clear b0 b1 b2 b3 ff0 ff1 ff2 ff3
    refine wpAnyH_ready (rs := [3]) (by kernel_rfl) (by simp) ?_
    refine AllReadyH.cons (i := 3) (o := _) rfl (fun K hK => ?_) ?_
    rotate_left
    · exact AllReadyH.nil
    have b0 := blk_cell B4.out 0
    have ff0 := blk_free B4.out 0
    have b1 := blk_cell B4.out 1
    have ff1 := blk_free B4.out 1
    have b2 := blk_cell B4.out 2
    have ff2 := blk_free B4.out 2
    have b3 := blk_cell B4.out 3
    have ff3 := blk_free B4.out 3
    go_simp
    have NB : Hid (((((w4.setCell ⟨B, 0, none⟩ (.int .i64 f0)).setCell ⟨B, 1, none⟩ (.int .i64 f1)).setCell ⟨B, 2, none⟩ (.int .i64 f2)).setCell ⟨B, 3, none⟩ (.string f3)).heap[B]? = some (.cells #[.int .i64 f0, .int .i64 f1, .int .i64 f2, .string f3] 33) ∧ Chg (fun x => x = B) w4 ((((w4.setCell ⟨B, 0, none⟩ (.int .i64 f0)).setCell ⟨B, 1, none⟩ (.int .i64 f1)).setCell ⟨B, 2, none⟩ (.int .i64 f2)).setCell ⟨B, 3, none⟩ (.string f3))) := hide ⟨(blk_set (blk_set (blk_set (blk_set B4.out 0 (.int .i64 f0)) 1 (.int .i64 f1)) 2 (.int .i64 f2)) 3 (.string f3)), ((((Chg.set w4 B 0 (.int .i64 f0)).trans (Chg.set (w4.setCell ⟨B, 0, none⟩ (.int .i64 f0)) B 1 (.int .i64 f1))).trans (Chg.set ((w4.setCell ⟨B, 0, none⟩ (.int .i64 f0)).setCell ⟨B, 1, none⟩ (.int .i64 f1)) B 2 (.int .i64 f2))).trans (Chg.set (((w4.setCell ⟨B, 0, none⟩ (.int .i64 f0)).setCell ⟨B, 1, none⟩ (.int .i64 f1)).setCell ⟨B, 2, none⟩ (.int .i64 f2)) B 3 (.string f3)))⟩
    have uu0 := NB.out.2.cell (by have := DL.out; omega) u0
    have uu1 := NB.out.2.cell (by have := DL.out; omega) u1
    have uu2 := NB.out.2.cell (by have := DL.out; omega) u2
    have uu3 := NB.out.2.cell (by have := DL.out; omega) u3
    refine hK.out _ _ ⟨drc uu0, drc uu1, drc uu2, drc uu3⟩ (fun hHeld => ?_)
    clear hK K
    try simp only [Act.put, List.getElem_toArray, List.getElem_cons_zero, List.getElem_cons_succ, List.setIfInBounds_toArray, List.set_cons_zero, List.set_cons_succ]
    refine wpAnyH_done (by kernel_rfl) ?_ _
    go_wp2_with fail
    have NA2 := hide (NB.out.2.blkS (by have := DL.out; omega) NA.out.1)
    have GF : Hid (Chg (fun _ => False) w ((((w4.setCell ⟨B, 0, none⟩ (.int .i64 f0)).setCell ⟨B, 1, none⟩ (.int .i64 f1)).setCell ⟨B, 2, none⟩ (.int .i64 f2)).setCell ⟨B, 3, none⟩ (.string f3))) := hide (((((G3.out.mono (T := fun x => x = A ∨ x = B) (fun x _ h => h.elim)).trans (NA.out.2.mono (fun x _ h => Or.inl h))).trans (NB.out.2.mono (fun x _ h => Or.inr h))).mono (fun x hx e => by have := DL.out; omega)))
    generalize ((((w4.setCell ⟨B, 0, none⟩ (.int .i64 f0)).setCell ⟨B, 1, none⟩ (.int .i64 f1)).setCell ⟨B, 2, none⟩ (.int .i64 f2)).setCell ⟨B, 3, none⟩ (.string f3)) = wF at *
    have r0 := blk_cell NB.out.1 0
    have r1 := blk_cell NB.out.1 1
    have r2 := blk_cell NB.out.1 2
    have r3 := blk_cell NB.out.1 3
    have a0 := blk_cell NA2.out 0
    have a1 := blk_cell NA2.out 1
    have a2 := blk_cell NA2.out 2
    have a3 := blk_cell NA2.out 3
    refine bodyPost_ret (v := .tuple #[.agg #[.int .i64 0, .string ⟨#[]⟩, .int .i64 0, .slice none 0 0], f4V (f0, f1, f2, f3)]) (by simp [results, Try.results15, go_sem, r0, r1, r2, r3, a0, a1, a2, a3]) rfl ?_
    exact ⟨⟨_, by rw [HR.out], by rw [HR.out]; exact NV.leaf _ _ 0 ⟨#[]⟩ 0⟩, GF.out.drew⟩
  | none =>
    obtain ⟨hf, htk⟩ := flt_none hl
    have hf' := HF.out.trans hf
    injection hf' with ha hb'
    injection hb' with hb' hc'
    injection hc' with hc' hd'
    subst ha hb' hc' hd'
    have T2 := hide (htk ▸ T2.out)
    have HR : Hid (RR = match endS (lexT s) (typS (lexT s) s 60 0) with | .error e => (fl4 (lexT s) s (some e), zN) | .ok q => ((0, 0, 0, ⟨#[]⟩), q.1)) := hide (by rw [← HRR.out]; unfold resS; rw [hl]; dsimp only; cases endS (lexT s) (typS (lexT s) s 60 0) <;> rfl)
    have EV := hide (lexT_renv HS.out)
    have HAT : Hid (∀ t ∈ lexT s, t.2.2 ≤ s.size) := hide (fun t ht => (lexT_is s t ht).size.2)
    have HTX : Hid (∀ t ∈ lexT s, t.2.1.size ≤ 1000000) := hide (fun t ht => by have := (lexT_is s t ht).size.1; have := HS.out; omega)
    clear hf htk hl HF
    have TL : Hid ((lexT s).length ≤ 20000) := hide (by have := lexT_len s; have := HS.out; omega)
    have HI := hide (fun tb v w (h : RS w tb v (lexT s) s (.ok 0)) => rtyp_any (tb := tb) (v := v) (ts := lexT s) (s := s) 60 0 rfl (.ok 0) w h)
    have eR : St.bind (.ok 0) (typS (lexT s) s 60) = typS (lexT s) s 60 0 := rfl
    have e00 : ((0 : Nat) : Int) = 0 := rfl
    rw [eR, e00] at HI
    have q0 := blk_cell D3.out 0
    simp only [List.getElem?_toArray, List.getElem?_cons_zero] at q0
    have T3 := hide (isToks_chg T2.out GD2.out)
    clear eR e00
    generalize lexT s = ts at *
    generalize typS ts s 60 0 = r at *
    have GP := al (w2.alloc (.cells #[.int .i64 0, .int .i64 0, .int .i64 0, .string ⟨#[]⟩] 33)) (.cells #[tv, .string s, .int .i64 0, .int .i64 0, .int .i64 0] 88)
    have BP := blk_new (w2.alloc (.cells #[.int .i64 0, .int .i64 0, .int .i64 0, .string ⟨#[]⟩] 33)) (.cells #[tv, .string s, .int .i64 0, .int .i64 0, .int .i64 0] 88)
    obtain ⟨P, hP⟩ : ∃ P, (w2.alloc (.cells #[.int .i64 0, .int .i64 0, .int .i64 0, .string ⟨#[]⟩] 33)).heap.size = P := ⟨_, rfl⟩
    have hP2 : w2.heap.size + 1 = P := by rw [← hP, al_sz]
    have GE := al ((w2.alloc (.cells #[.int .i64 0, .int .i64 0, .int .i64 0, .string ⟨#[]⟩] 33)).alloc (.cells #[tv, .string s, .int .i64 0, .int .i64 0, .int .i64 0] 88)) (.cells #[.int .i64 0, .string ⟨#[]⟩, .int .i64 0, .slice none 0 0] 55)
    have BE := blk_new ((w2.alloc (.cells #[.int .i64 0, .int .i64 0, .int .i64 0, .string ⟨#[]⟩] 33)).alloc (.cells #[tv, .string s, .int .i64 0, .int .i64 0, .int .i64 0] 88)) (.cells #[.int .i64 0, .string ⟨#[]⟩, .int .i64 0, .slice none 0 0] 55)
    rw [al_sz] at BE
    rw [hP] at BP BE
    obtain ⟨E, hE⟩ : ∃ E, P + 1 = E := ⟨_, rfl⟩
    rw [hE] at BE
    have R4 : RS ((w2.alloc (.cells #[.int .i64 0, .int .i64 0, .int .i64 0, .string ⟨#[]⟩] 33)).alloc (.cells #[tv, .string s, .int .i64 0, .int .i64 0, .int .i64 0] 88)) P tv ts s (.ok 0) := ⟨BP, by
      obtain ⟨ta, tc, et, h⟩ := T3.out
      refine ⟨ta, tc, et, ?_⟩
      rcases h with h | ⟨g, e1, h2, h3⟩
      · exact Or.inl h
      · refine Or.inr ⟨g, e1, by rw [← hP]; exact h2, fun i hi => ?_⟩
        obtain ⟨a, b, c⟩ := h3 i hi
        exact ⟨GP.cell (fun h => h) a, GP.cell (fun h => h) b, GP.cell (fun h => h) c⟩, Nat.zero_le _, EV.out, fun e he => by cases he⟩
    have R5 := hide (R4.chg GE (fun _ _ h => h))
    have E5 := hide BE
    have A5 := hide (GE.blk (GP.blk A3.out))
    have B5 := hide (GE.blk (GP.blk B3.out))
    have G5 := hide ((G3.out.trans GP).trans GE)
    have PL : Hid (A < B ∧ B < P ∧ P + 1 = E ∧ w.heap.size = A ∧ ((((w2.alloc (.cells #[.int .i64 0, .int .i64 0, .int .i64 0, .string ⟨#[]⟩] 33)).alloc (.cells #[tv, .string s, .int .i64 0, .int .i64 0, .int .i64 0] 88)).alloc (.cells #[.int .i64 0, .string ⟨#[]⟩, .int .i64 0, .slice none 0 0] 55)).heap.size = E + 1)) := hide ⟨DL.out.1, by have := DL.out; omega, hE, DL.out.2.2, by rw [al_sz, al_sz, hP, hE]⟩
    have RE := hide (HI.out P tv _ R5.out)
    have tvx : ∃ ta tc, tv = .slice ta ts.length tc := by obtain ⟨ta, tc, et, _⟩ := T3.out; exact ⟨ta, tc, et⟩
    obtain ⟨ta, tc, rfl⟩ := tvx
    clear GP BP GE BE R4
    go_wp2_with fail
    try rw [hD]
    try rw [hP]
    try rw [hP2]
    try rw [hE]
    clear hD hP hP2 hE
    generalize ((w2.alloc (.cells #[.int .i64 0, .int .i64 0, .int .i64 0, .string ⟨#[]⟩] 33)).alloc (.cells #[.slice ta ts.length tc, .string s, .int .i64 0, .int .i64 0, .int .i64 0] 88)).alloc (.cells #[.int .i64 0, .string ⟨#[]⟩, .int .i64 0, .slice none 0 0] 55) = w5 at *
    refine RE.out.mono ?_
    rintro e w6 ⟨⟨u, n, rfl, hn, hq⟩, h6, g6⟩
    obtain ⟨n0, n1, n2, n3⟩ := n
    obtain ⟨na, nc, rfl, hn⟩ := hn
    dsimp only [Nd.kind, Nd.word, Nd.at, Nd.kids] at hn ⊢
    have A6 := hide (g6.blkS (by have := PL.out; omega) A5.out)
    have B6 := hide (g6.blkS (by have := PL.out; omega) B5.out)
    have E6 := hide (g6.blkS (by have := PL.out; omega) E5.out)
    have G6 : Hid (Chg (fun x => A ≤ x) w w6) := hide ((G5.out.mono (T := fun x => A ≤ x) (fun x _ h => h.elim)).trans (g6.mono (fun x _ e => by have := PL.out; omega)))
    have N6 := hide (hn.up (Y := fun x => E < x ∧ x < w6.heap.size) (fun x hx => ⟨by have := PL.out; omega, hx.2⟩))
    have HQ := hide hq
    have H6 := hide h6
    clear g6 hn hq h6 R5 A5 B5 E5 G5 RE
    have b0 := blk_cell E6.out 0
    have ff0 := blk_free E6.out 0
    have b1 := blk_cell E6.out 1
    have ff1 := blk_free E6.out 1
    have b2 := blk_cell E6.out 2
    have ff2 := blk_free E6.out 2
    have b3 := blk_cell E6.out 3
    have ff3 := blk_free E6.out 3
    have NE : Hid (((((w6.setCell ⟨E, 0, none⟩ (.int .i64 n0)).setCell ⟨E, 1, none⟩ (.string n1)).setCell ⟨E, 2, none⟩ (.int .i64 n2)).setCell ⟨E, 3, none⟩ (.slice na n3.len nc)).heap[E]? = some (.cells #[.int .i64 n0, .string n1, .int .i64 n2, .slice na n3.len nc] 55) ∧ Chg (fun x => x = E) w6 ((((w6.setCell ⟨E, 0, none⟩ (.int .i64 n0)).setCell ⟨E, 1, none⟩ (.string n1)).setCell ⟨E, 2, none⟩ (.int .i64 n2)).setCell ⟨E, 3, none⟩ (.slice na n3.len nc))) := hide ⟨(blk_set (blk_set (blk_set (blk_set E6.out 0 (.int .i64 n0)) 1 (.string n1)) 2 (.int .i64 n2)) 3 (.slice na n3.len nc)), ((((Chg.set w6 E 0 (.int .i64 n0)).trans (Chg.set (w6.setCell ⟨E, 0, none⟩ (.int .i64 n0)) E 1 (.string n1))).trans (Chg.set ((w6.setCell ⟨E, 0, none⟩ (.int .i64 n0)).setCell ⟨E, 1, none⟩ (.string n1)) E 2 (.int .i64 n2))).trans (Chg.set (((w6.setCell ⟨E, 0, none⟩ (.int .i64 n0)).setCell ⟨E, 1, none⟩ (.string n1)).setCell ⟨E, 2, none⟩ (.int .i64 n2)) E 3 (.slice na n3.len nc)))⟩
    have A7 := hide (NE.out.2.blkS (by have := PL.out; omega) A6.out)
    have B7 := hide (NE.out.2.blkS (by have := PL.out; omega) B6.out)
    have E7 := hide NE.out.1
    have H7 := hide (H6.out.chg NE.out.2 (fun x hx e => by have := PL.out; omega))
    have G7 : Hid (Chg (fun x => A ≤ x) w ((((w6.setCell ⟨E, 0, none⟩ (.int .i64 n0)).setCell ⟨E, 1, none⟩ (.string n1)).setCell ⟨E, 2, none⟩ (.int .i64 n2)).setCell ⟨E, 3, none⟩ (.slice na n3.len nc))) := hide (G6.out.trans (NE.out.2.mono (fun x _ e => by have := PL.out; omega)))
    have N7 := hide ((N6.out.chg NE.out.2 (fun x hx e => by have := hx.1; omega)).up (Y := fun x => E < x ∧ x < ((((w6.setCell ⟨E, 0, none⟩ (.int .i64 n0)).setCell ⟨E, 1, none⟩ (.string n1)).setCell ⟨E, 2, none⟩ (.int .i64 n2)).setCell ⟨E, 3, none⟩ (.slice na n3.len nc)).heap.size) (fun x hx => ⟨hx.1, by have := NE.out.2.size; have := hx.2; omega⟩))
    go_upto_region 9 with fail
    clear b0 b1 b2 b3 ff0 ff1 ff2 ff3
    generalize ((((w6.setCell ⟨E, 0, none⟩ (.int .i64 n0)).setCell ⟨E, 1, none⟩ (.string n1)).setCell ⟨E, 2, none⟩ (.int .i64 n2)).setCell ⟨E, 3, none⟩ (.slice na n3.len nc)) = w7 at *
    cases r with
    | error x =>
      have HX : Hid (RR = (fl4 ts s (some x), zN)) := hide HR.out
      obtain ⟨e1, e2⟩ := rerr_ne (H7.out.code x rfl)
      have c3 : w7.cell? ⟨P, 3, none⟩ = some (.int .i64 x.1) := H7.out.cells.2.2.2.1
      clear HR HQ
      go_wp2_with fail
      clear c3
      refine (rfault_any HAT.out HTX.out H7.out).mono ?_
      rintro e w8 ⟨rfl, h8, g8⟩
      have A8 := hide (g8.blkS (by have := PL.out; omega) A7.out)
      have B8 := hide (g8.blkS (by have := PL.out; omega) B7.out)
      have G8 := hide (G7.out.trans (g8.mono (fun x _ e => by have := PL.out; omega)))
      obtain ⟨FF, hFF⟩ : ∃ FF, fl4 ts s (some x) = FF := ⟨_, rfl⟩
      rw [hFF] at HX ⊢
      obtain ⟨f0, f1, f2, f3⟩ := FF
      dsimp only
      have HR : Hid (RR = ((f0, f1, f2, f3), zN)) := hide HX.out
      clear h8 g8 hFF H7 A7 B7 G7 e1 e2
      have b0 := blk_cell A8.out 0
      have ff0 := blk_free A8.out 0
      have b1 := blk_cell A8.out 1
      have ff1 := blk_free A8.out 1
      have b2 := blk_cell A8.out 2
      have ff2 := blk_free A8.out 2
      have b3 := blk_cell A8.out 3
      have ff3 := blk_free A8.out 3
      have bb0 := blk_cell B8.out 0
      have fg0 := blk_free B8.out 0
      have bb1 := blk_cell B8.out 1
      have fg1 := blk_free B8.out 1
      have bb2 := blk_cell B8.out 2
      have fg2 := blk_free B8.out 2
      have bb3 := blk_cell B8.out 3
      have fg3 := blk_free B8.out 3
      have hAB : ¬ A = B := by have := PL.out; omega
      have hBA : ¬ B = A := by have := PL.out; omega
      go_wp2_with fail
      clear b0 b1 b2 b3 ff0 ff1 ff2 ff3 bb0 bb1 bb2 bb3 fg0 fg1 fg2 fg3
      have NA : Hid (((((w8.setCell ⟨A, 0, none⟩ (.int .i64 0)).setCell ⟨A, 1, none⟩ (.string ⟨#[]⟩)).setCell ⟨A, 2, none⟩ (.int .i64 0)).setCell ⟨A, 3, none⟩ (.slice none 0 0)).heap[A]? = some (.cells #[.int .i64 0, .string ⟨#[]⟩, .int .i64 0, .slice none 0 0] 55) ∧ Chg (fun x => x = A) w8 ((((w8.setCell ⟨A, 0, none⟩ (.int .i64 0)).setCell ⟨A, 1, none⟩ (.string ⟨#[]⟩)).setCell ⟨A, 2, none⟩ (.int .i64 0)).setCell ⟨A, 3, none⟩ (.slice none 0 0))) := hide ⟨(blk_set (blk_set (blk_set (blk_set A8.out 0 (.int .i64 0)) 1 (.string ⟨#[]⟩)) 2 (.int .i64 0)) 3 (.slice none 0 0)), ((((Chg.set w8 A 0 (.int .i64 0)).trans (Chg.set (w8.setCell ⟨A, 0, none⟩ (.int .i64 0)) A 1 (.string ⟨#[]⟩))).trans (Chg.set ((w8.setCell ⟨A, 0, none⟩ (.int .i64 0)).setCell ⟨A, 1, none⟩ (.string ⟨#[]⟩)) A 2 (.int .i64 0))).trans (Chg.set (((w8.setCell ⟨A, 0, none⟩ (.int .i64 0)).setCell ⟨A, 1, none⟩ (.string ⟨#[]⟩)).setCell ⟨A, 2, none⟩ (.int .i64 0)) A 3 (.slice none 0 0)))⟩
      have B9 := hide (NA.out.2.blkS (by have := PL.out; omega) B8.out)
      have NB : Hid (((((((((w8.setCell ⟨A, 0, none⟩ (.int .i64 0)).setCell ⟨A, 1, none⟩ (.string ⟨#[]⟩)).setCell ⟨A, 2, none⟩ (.int .i64 0)).setCell ⟨A, 3, none⟩ (.slice none 0 0)).setCell ⟨B, 0, none⟩ (.int .i64 f0)).setCell ⟨B, 1, none⟩ (.int .i64 f1)).setCell ⟨B, 2, none⟩ (.int .i64 f2)).setCell ⟨B, 3, none⟩ (.string f3)).heap[B]? = some (.cells #[.int .i64 f0, .int .i64 f1, .int .i64 f2, .string f3] 33) ∧ Chg (fun x => x = B) ((((w8.setCell ⟨A, 0, none⟩ (.int .i64 0)).setCell ⟨A, 1, none⟩ (.string ⟨#[]⟩)).setCell ⟨A, 2, none⟩ (.int .i64 0)).setCell ⟨A, 3, none⟩ (.slice none 0 0)) ((((((((w8.setCell ⟨A, 0, none⟩ (.int .i64 0)).setCell ⟨A, 1, none⟩ (.string ⟨#[]⟩)).setCell ⟨A, 2, none⟩ (.int .i64 0)).setCell ⟨A, 3, none⟩ (.slice none 0 0)).setCell ⟨B, 0, none⟩ (.int .i64 f0)).setCell ⟨B, 1, none⟩ (.int .i64 f1)).setCell ⟨B, 2, none⟩ (.int .i64 f2)).setCell ⟨B, 3, none⟩ (.string f3))) := hide ⟨(blk_set (blk_set (blk_set (blk_set B9.out 0 (.int .i64 f0)) 1 (.int .i64 f1)) 2 (.int .i64 f2)) 3 (.string f3)), ((((Chg.set ((((w8.setCell ⟨A, 0, none⟩ (.int .i64 0)).setCell ⟨A, 1, none⟩ (.string ⟨#[]⟩)).setCell ⟨A, 2, none⟩ (.int .i64 0)).setCell ⟨A, 3, none⟩ (.slice none 0 0)) B 0 (.int .i64 f0)).trans (Chg.set (((((w8.setCell ⟨A, 0, none⟩ (.int .i64 0)).setCell ⟨A, 1, none⟩ (.string ⟨#[]⟩)).setCell ⟨A, 2, none⟩ (.int .i64 0)).setCell ⟨A, 3, none⟩ (.slice none 0 0)).setCell ⟨B, 0, none⟩ (.int .i64 f0)) B 1 (.int .i64 f1))).trans (Chg.set ((((((w8.setCell ⟨A, 0, none⟩ (.int .i64 0)).setCell ⟨A, 1, none⟩ (.string ⟨#[]⟩)).setCell ⟨A, 2, none⟩ (.int .i64 0)).setCell ⟨A, 3, none⟩ (.slice none 0 0)).setCell ⟨B, 0, none⟩ (.int .i64 f0)).setCell ⟨B, 1, none⟩ (.int .i64 f1)) B 2 (.int .i64 f2))).trans (Chg.set (((((((w8.setCell ⟨A, 0, none⟩ (.int .i64 0)).setCell ⟨A, 1, none⟩ (.string ⟨#[]⟩)).setCell ⟨A, 2, none⟩ (.int .i64 0)).setCell ⟨A, 3, none⟩ (.slice none 0 0)).setCell ⟨B, 0, none⟩ (.int .i64 f0)).setCell ⟨B, 1, none⟩ (.int .i64 f1)).setCell ⟨B, 2, none⟩ (.int .i64 f2)) B 3 (.string f3)))⟩
      have NA2 := hide (NB.out.2.blkS (by have := PL.out; omega) NA.out.1)
      have GF : Hid (Chg (fun _ => False) w ((((((((w8.setCell ⟨A, 0, none⟩ (.int .i64 0)).setCell ⟨A, 1, none⟩ (.string ⟨#[]⟩)).setCell ⟨A, 2, none⟩ (.int .i64 0)).setCell ⟨A, 3, none⟩ (.slice none 0 0)).setCell ⟨B, 0, none⟩ (.int .i64 f0)).setCell ⟨B, 1, none⟩ (.int .i64 f1)).setCell ⟨B, 2, none⟩ (.int .i64 f2)).setCell ⟨B, 3, none⟩ (.string f3))) := hide (((G8.out.trans (NA.out.2.mono (fun x _ h => by have := PL.out; omega))).trans (NB.out.2.mono (fun x _ h => by have := PL.out; omega))).mono (fun x hx e => by have := PL.out; omega))
      generalize ((((((((w8.setCell ⟨A, 0, none⟩ (.int .i64 0)).setCell ⟨A, 1, none⟩ (.string ⟨#[]⟩)).setCell ⟨A, 2, none⟩ (.int .i64 0)).setCell ⟨A, 3, none⟩ (.slice none 0 0)).setCell ⟨B, 0, none⟩ (.int .i64 f0)).setCell ⟨B, 1, none⟩ (.int .i64 f1)).setCell ⟨B, 2, none⟩ (.int .i64 f2)).setCell ⟨B, 3, none⟩ (.string f3)) = wF at *
      have r0 := blk_cell NB.out.1 0
      have r1 := blk_cell NB.out.1 1
      have r2 := blk_cell NB.out.1 2
      have r3 := blk_cell NB.out.1 3
      have a0 := blk_cell NA2.out 0
      have a1 := blk_cell NA2.out 1
      have a2 := blk_cell NA2.out 2
      have a3 := blk_cell NA2.out 3
      refine bodyPost_ret (v := .tuple #[.agg #[.int .i64 0, .string ⟨#[]⟩, .int .i64 0, .slice none 0 0], f4V (f0, f1, f2, f3)]) (by simp [results, Try.results15, go_sem, r0, r1, r2, r3, a0, a1, a2, a3]) rfl ?_
      exact ⟨⟨_, by rw [HR.out], by rw [HR.out]; exact NV.leaf _ _ 0 ⟨#[]⟩ 0⟩, GF.out⟩
    | ok q =>
      obtain ⟨qn, k⟩ := q
      have hqn := HQ.out (qn, k) rfl
      dsimp only at hqn
      subst hqn
      have c2 : w7.cell? ⟨P, 2, none⟩ = some (.int .i64 (k : Int)) := H7.out.cells.2.2.1
      have c3 : w7.cell? ⟨P, 3, none⟩ = some (.int .i64 0) := H7.out.cells.2.2.2.1
      by_cases hk : k < ts.length
      · have HX : Hid (RR = (fl4 ts s (some (3, k)), zN)) := hide (by
          rw [HR.out]
          have : endS ts (.ok ((n0, n1, n2, n3), k) : Rz Nd) = .error (3, k) := by unfold endS; simp only [Rz.bind]; rw [if_pos hk]
          rw [this])
        have qk : decide (k < ts.length) = true := by simp [hk]
        clear HR HQ
        go_wp2_with fail
        clear c2 c3
        refine (rfail_ok 3 (Or.inr rfl) H7.out).mono ?_
        rintro e w7' ⟨rfl, h7, g7⟩
        have A7 := hide (g7.blkS (by have := PL.out; omega) A7.out)
        have B7 := hide (g7.blkS (by have := PL.out; omega) B7.out)
        have G7 := hide (G7.out.trans (g7.mono (fun x _ e => by have := PL.out; omega)))
        have H7 := hide h7
        obtain ⟨x, hx⟩ : ∃ x : Pf, ((3 : Int), k) = x := ⟨_, rfl⟩
        rw [hx] at HX H7
        obtain ⟨e1, e2⟩ := rerr_ne (H7.out.code x rfl)
        have c3 : w7'.cell? ⟨P, 3, none⟩ = some (.int .i64 x.1) := H7.out.cells.2.2.2.1
        clear hx h7 g7
        go_wp2_with fail
        clear c3
        refine (rfault_any HAT.out HTX.out H7.out).mono ?_
        rintro e w8 ⟨rfl, h8, g8⟩
        have A8 := hide (g8.blkS (by have := PL.out; omega) A7.out)
        have B8 := hide (g8.blkS (by have := PL.out; omega) B7.out)
        have G8 := hide (G7.out.trans (g8.mono (fun x _ e => by have := PL.out; omega)))
        obtain ⟨FF, hFF⟩ : ∃ FF, fl4 ts s (some x) = FF := ⟨_, rfl⟩
        rw [hFF] at HX ⊢
        obtain ⟨f0, f1, f2, f3⟩ := FF
        dsimp only
        have HR : Hid (RR = ((f0, f1, f2, f3), zN)) := hide HX.out
        clear h8 g8 hFF H7 A7 B7 G7 e1 e2
        have b0 := blk_cell A8.out 0
        have ff0 := blk_free A8.out 0
        have b1 := blk_cell A8.out 1
        have ff1 := blk_free A8.out 1
        have b2 := blk_cell A8.out 2
        have ff2 := blk_free A8.out 2
        have b3 := blk_cell A8.out 3
        have ff3 := blk_free A8.out 3
        have bb0 := blk_cell B8.out 0
        have fg0 := blk_free B8.out 0
        have bb1 := blk_cell B8.out 1
        have fg1 := blk_free B8.out 1
        have bb2 := blk_cell B8.out 2
        have fg2 := blk_free B8.out 2
        have bb3 := blk_cell B8.out 3
        have fg3 := blk_free B8.out 3
        have hAB : ¬ A = B := by have := PL.out; omega
        have hBA : ¬ B = A := by have := PL.out; omega
        go_wp2_with fail
        clear b0 b1 b2 b3 ff0 ff1 ff2 ff3 bb0 bb1 bb2 bb3 fg0 fg1 fg2 fg3
        have NA : Hid (((((w8.setCell ⟨A, 0, none⟩ (.int .i64 0)).setCell ⟨A, 1, none⟩ (.string ⟨#[]⟩)).setCell ⟨A, 2, none⟩ (.int .i64 0)).setCell ⟨A, 3, none⟩ (.slice none 0 0)).heap[A]? = some (.cells #[.int .i64 0, .string ⟨#[]⟩, .int .i64 0, .slice none 0 0] 55) ∧ Chg (fun x => x = A) w8 ((((w8.setCell ⟨A, 0, none⟩ (.int .i64 0)).setCell ⟨A, 1, none⟩ (.string ⟨#[]⟩)).setCell ⟨A, 2, none⟩ (.int .i64 0)).setCell ⟨A, 3, none⟩ (.slice none 0 0))) := hide ⟨(blk_set (blk_set (blk_set (blk_set A8.out 0 (.int .i64 0)) 1 (.string ⟨#[]⟩)) 2 (.int .i64 0)) 3 (.slice none 0 0)), ((((Chg.set w8 A 0 (.int .i64 0)).trans (Chg.set (w8.setCell ⟨A, 0, none⟩ (.int .i64 0)) A 1 (.string ⟨#[]⟩))).trans (Chg.set ((w8.setCell ⟨A, 0, none⟩ (.int .i64 0)).setCell ⟨A, 1, none⟩ (.string ⟨#[]⟩)) A 2 (.int .i64 0))).trans (Chg.set (((w8.setCell ⟨A, 0, none⟩ (.int .i64 0)).setCell ⟨A, 1, none⟩ (.string ⟨#[]⟩)).setCell ⟨A, 2, none⟩ (.int .i64 0)) A 3 (.slice none 0 0)))⟩
        have B9 := hide (NA.out.2.blkS (by have := PL.out; omega) B8.out)
        have NB : Hid (((((((((w8.setCell ⟨A, 0, none⟩ (.int .i64 0)).setCell ⟨A, 1, none⟩ (.string ⟨#[]⟩)).setCell ⟨A, 2, none⟩ (.int .i64 0)).setCell ⟨A, 3, none⟩ (.slice none 0 0)).setCell ⟨B, 0, none⟩ (.int .i64 f0)).setCell ⟨B, 1, none⟩ (.int .i64 f1)).setCell ⟨B, 2, none⟩ (.int .i64 f2)).setCell ⟨B, 3, none⟩ (.string f3)).heap[B]? = some (.cells #[.int .i64 f0, .int .i64 f1, .int .i64 f2, .string f3] 33) ∧ Chg (fun x => x = B) ((((w8.setCell ⟨A, 0, none⟩ (.int .i64 0)).setCell ⟨A, 1, none⟩ (.string ⟨#[]⟩)).setCell ⟨A, 2, none⟩ (.int .i64 0)).setCell ⟨A, 3, none⟩ (.slice none 0 0)) ((((((((w8.setCell ⟨A, 0, none⟩ (.int .i64 0)).setCell ⟨A, 1, none⟩ (.string ⟨#[]⟩)).setCell ⟨A, 2, none⟩ (.int .i64 0)).setCell ⟨A, 3, none⟩ (.slice none 0 0)).setCell ⟨B, 0, none⟩ (.int .i64 f0)).setCell ⟨B, 1, none⟩ (.int .i64 f1)).setCell ⟨B, 2, none⟩ (.int .i64 f2)).setCell ⟨B, 3, none⟩ (.string f3))) := hide ⟨(blk_set (blk_set (blk_set (blk_set B9.out 0 (.int .i64 f0)) 1 (.int .i64 f1)) 2 (.int .i64 f2)) 3 (.string f3)), ((((Chg.set ((((w8.setCell ⟨A, 0, none⟩ (.int .i64 0)).setCell ⟨A, 1, none⟩ (.string ⟨#[]⟩)).setCell ⟨A, 2, none⟩ (.int .i64 0)).setCell ⟨A, 3, none⟩ (.slice none 0 0)) B 0 (.int .i64 f0)).trans (Chg.set (((((w8.setCell ⟨A, 0, none⟩ (.int .i64 0)).setCell ⟨A, 1, none⟩ (.string ⟨#[]⟩)).setCell ⟨A, 2, none⟩ (.int .i64 0)).setCell ⟨A, 3, none⟩ (.slice none 0 0)).setCell ⟨B, 0, none⟩ (.int .i64 f0)) B 1 (.int .i64 f1))).trans (Chg.set ((((((w8.setCell ⟨A, 0, none⟩ (.int .i64 0)).setCell ⟨A, 1, none⟩ (.string ⟨#[]⟩)).setCell ⟨A, 2, none⟩ (.int .i64 0)).setCell ⟨A, 3, none⟩ (.slice none 0 0)).setCell ⟨B, 0, none⟩ (.int .i64 f0)).setCell ⟨B, 1, none⟩ (.int .i64 f1)) B 2 (.int .i64 f2))).trans (Chg.set (((((((w8.setCell ⟨A, 0, none⟩ (.int .i64 0)).setCell ⟨A, 1, none⟩ (.string ⟨#[]⟩)).setCell ⟨A, 2, none⟩ (.int .i64 0)).setCell ⟨A, 3, none⟩ (.slice none 0 0)).setCell ⟨B, 0, none⟩ (.int .i64 f0)).setCell ⟨B, 1, none⟩ (.int .i64 f1)).setCell ⟨B, 2, none⟩ (.int .i64 f2)) B 3 (.string f3)))⟩
        have NA2 := hide (NB.out.2.blkS (by have := PL.out; omega) NA.out.1)
        have GF : Hid (Chg (fun _ => False) w ((((((((w8.setCell ⟨A, 0, none⟩ (.int .i64 0)).setCell ⟨A, 1, none⟩ (.string ⟨#[]⟩)).setCell ⟨A, 2, none⟩ (.int .i64 0)).setCell ⟨A, 3, none⟩ (.slice none 0 0)).setCell ⟨B, 0, none⟩ (.int .i64 f0)).setCell ⟨B, 1, none⟩ (.int .i64 f1)).setCell ⟨B, 2, none⟩ (.int .i64 f2)).setCell ⟨B, 3, none⟩ (.string f3))) := hide (((G8.out.trans (NA.out.2.mono (fun x _ h => by have := PL.out; omega))).trans (NB.out.2.mono (fun x _ h => by have := PL.out; omega))).mono (fun x hx e => by have := PL.out; omega))
        generalize ((((((((w8.setCell ⟨A, 0, none⟩ (.int .i64 0)).setCell ⟨A, 1, none⟩ (.string ⟨#[]⟩)).setCell ⟨A, 2, none⟩ (.int .i64 0)).setCell ⟨A, 3, none⟩ (.slice none 0 0)).setCell ⟨B, 0, none⟩ (.int .i64 f0)).setCell ⟨B, 1, none⟩ (.int .i64 f1)).setCell ⟨B, 2, none⟩ (.int .i64 f2)).setCell ⟨B, 3, none⟩ (.string f3)) = wF at *
        have r0 := blk_cell NB.out.1 0
        have r1 := blk_cell NB.out.1 1
        have r2 := blk_cell NB.out.1 2
        have r3 := blk_cell NB.out.1 3
        have a0 := blk_cell NA2.out 0
        have a1 := blk_cell NA2.out 1
        have a2 := blk_cell NA2.out 2
        have a3 := blk_cell NA2.out 3
        refine bodyPost_ret (v := .tuple #[.agg #[.int .i64 0, .string ⟨#[]⟩, .int .i64 0, .slice none 0 0], f4V (f0, f1, f2, f3)]) (by simp [results, Try.results15, go_sem, r0, r1, r2, r3, a0, a1, a2, a3]) rfl ?_
        exact ⟨⟨_, by rw [HR.out], by rw [HR.out]; exact NV.leaf _ _ 0 ⟨#[]⟩ 0⟩, GF.out⟩
      · have HX : Hid (RR = ((0, 0, 0, ⟨#[]⟩), (n0, n1, n2, n3))) := hide (by
          rw [HR.out]
          have : endS ts (.ok ((n0, n1, n2, n3), k) : Rz Nd) = .ok ((n0, n1, n2, n3), k) := by unfold endS; simp only [Rz.bind]; rw [if_neg hk]
          rw [this])
        have qk : decide (k < ts.length) = false := by simp [hk]
        have y0 := blk_cell E7.out 0
        have y1 := blk_cell E7.out 1
        have y2 := blk_cell E7.out 2
        have y3 := blk_cell E7.out 3
        simp only [List.getElem?_toArray, List.getElem?_cons_zero, List.getElem?_cons_succ] at y0 y1 y2 y3
        clear HR HQ
        have b0 := blk_cell A7.out 0
        have ff0 := blk_free A7.out 0
        have b1 := blk_cell A7.out 1
        have ff1 := blk_free A7.out 1
        have b2 := blk_cell A7.out 2
        have ff2 := blk_free A7.out 2
        have b3 := blk_cell A7.out 3
        have ff3 := blk_free A7.out 3
        have bb0 := blk_cell B7.out 0
        have fg0 := blk_free B7.out 0
        have bb1 := blk_cell B7.out 1
        have fg1 := blk_free B7.out 1
        have bb2 := blk_cell B7.out 2
        have fg2 := blk_free B7.out 2
        have bb3 := blk_cell B7.out 3
        have fg3 := blk_free B7.out 3
        have hAB : ¬ A = B := by have := PL.out; omega
        have hBA : ¬ B = A := by have := PL.out; omega
        go_wp2_with fail
        clear b0 b1 b2 b3 ff0 ff1 ff2 ff3 bb0 bb1 bb2 bb3 fg0 fg1 fg2 fg3
        have NA : Hid (((((w7.setCell ⟨A, 0, none⟩ (.int .i64 n0)).setCell ⟨A, 1, none⟩ (.string n1)).setCell ⟨A, 2, none⟩ (.int .i64 n2)).setCell ⟨A, 3, none⟩ (.slice na n3.len nc)).heap[A]? = some (.cells #[.int .i64 n0, .string n1, .int .i64 n2, .slice na n3.len nc] 55) ∧ Chg (fun x => x = A) w7 ((((w7.setCell ⟨A, 0, none⟩ (.int .i64 n0)).setCell ⟨A, 1, none⟩ (.string n1)).setCell ⟨A, 2, none⟩ (.int .i64 n2)).setCell ⟨A, 3, none⟩ (.slice na n3.len nc))) := hide ⟨(blk_set (blk_set (blk_set (blk_set A7.out 0 (.int .i64 n0)) 1 (.string n1)) 2 (.int .i64 n2)) 3 (.slice na n3.len nc)), ((((Chg.set w7 A 0 (.int .i64 n0)).trans (Chg.set (w7.setCell ⟨A, 0, none⟩ (.int .i64 n0)) A 1 (.string n1))).trans (Chg.set ((w7.setCell ⟨A, 0, none⟩ (.int .i64 n0)).setCell ⟨A, 1, none⟩ (.string n1)) A 2 (.int .i64 n2))).trans (Chg.set (((w7.setCell ⟨A, 0, none⟩ (.int .i64 n0)).setCell ⟨A, 1, none⟩ (.string n1)).setCell ⟨A, 2, none⟩ (.int .i64 n2)) A 3 (.slice na n3.len nc)))⟩
        have B9 := hide (NA.out.2.blkS (by have := PL.out; omega) B7.out)
        have NB : Hid (((((((((w7.setCell ⟨A, 0, none⟩ (.int .i64 n0)).setCell ⟨A, 1, none⟩ (.string n1)).setCell ⟨A, 2, none⟩ (.int .i64 n2)).setCell ⟨A, 3, none⟩ (.slice na n3.len nc)).setCell ⟨B, 0, none⟩ (.int .i64 0)).setCell ⟨B, 1, none⟩ (.int .i64 0)).setCell ⟨B, 2, none⟩ (.int .i64 0)).setCell ⟨B, 3, none⟩ (.string ⟨#[]⟩)).heap[B]? = some (.cells #[.int .i64 0, .int .i64 0, .int .i64 0, .string ⟨#[]⟩] 33) ∧ Chg (fun x => x = B) ((((w7.setCell ⟨A, 0, none⟩ (.int .i64 n0)).setCell ⟨A, 1, none⟩ (.string n1)).setCell ⟨A, 2, none⟩ (.int .i64 n2)).setCell ⟨A, 3, none⟩ (.slice na n3.len nc)) ((((((((w7.setCell ⟨A, 0, none⟩ (.int .i64 n0)).setCell ⟨A, 1, none⟩ (.string n1)).setCell ⟨A, 2, none⟩ (.int .i64 n2)).setCell ⟨A, 3, none⟩ (.slice na n3.len nc)).setCell ⟨B, 0, none⟩ (.int .i64 0)).setCell ⟨B, 1, none⟩ (.int .i64 0)).setCell ⟨B, 2, none⟩ (.int .i64 0)).setCell ⟨B, 3, none⟩ (.string ⟨#[]⟩))) := hide ⟨(blk_set (blk_set (blk_set (blk_set B9.out 0 (.int .i64 0)) 1 (.int .i64 0)) 2 (.int .i64 0)) 3 (.string ⟨#[]⟩)), ((((Chg.set ((((w7.setCell ⟨A, 0, none⟩ (.int .i64 n0)).setCell ⟨A, 1, none⟩ (.string n1)).setCell ⟨A, 2, none⟩ (.int .i64 n2)).setCell ⟨A, 3, none⟩ (.slice na n3.len nc)) B 0 (.int .i64 0)).trans (Chg.set (((((w7.setCell ⟨A, 0, none⟩ (.int .i64 n0)).setCell ⟨A, 1, none⟩ (.string n1)).setCell ⟨A, 2, none⟩ (.int .i64 n2)).setCell ⟨A, 3, none⟩ (.slice na n3.len nc)).setCell ⟨B, 0, none⟩ (.int .i64 0)) B 1 (.int .i64 0))).trans (Chg.set ((((((w7.setCell ⟨A, 0, none⟩ (.int .i64 n0)).setCell ⟨A, 1, none⟩ (.string n1)).setCell ⟨A, 2, none⟩ (.int .i64 n2)).setCell ⟨A, 3, none⟩ (.slice na n3.len nc)).setCell ⟨B, 0, none⟩ (.int .i64 0)).setCell ⟨B, 1, none⟩ (.int .i64 0)) B 2 (.int .i64 0))).trans (Chg.set (((((((w7.setCell ⟨A, 0, none⟩ (.int .i64 n0)).setCell ⟨A, 1, none⟩ (.string n1)).setCell ⟨A, 2, none⟩ (.int .i64 n2)).setCell ⟨A, 3, none⟩ (.slice na n3.len nc)).setCell ⟨B, 0, none⟩ (.int .i64 0)).setCell ⟨B, 1, none⟩ (.int .i64 0)).setCell ⟨B, 2, none⟩ (.int .i64 0)) B 3 (.string ⟨#[]⟩)))⟩
        have NA2 := hide (NB.out.2.blkS (by have := PL.out; omega) NA.out.1)
        have GC2 := hide ((NA.out.2.mono (T := fun x => x = A ∨ x = B) (fun x _ h => Or.inl h)).trans (NB.out.2.mono (fun x _ h => Or.inr h)))
        have GF : Hid (Chg (fun _ => False) w ((((((((w7.setCell ⟨A, 0, none⟩ (.int .i64 n0)).setCell ⟨A, 1, none⟩ (.string n1)).setCell ⟨A, 2, none⟩ (.int .i64 n2)).setCell ⟨A, 3, none⟩ (.slice na n3.len nc)).setCell ⟨B, 0, none⟩ (.int .i64 0)).setCell ⟨B, 1, none⟩ (.int .i64 0)).setCell ⟨B, 2, none⟩ (.int .i64 0)).setCell ⟨B, 3, none⟩ (.string ⟨#[]⟩))) := hide ((G7.out.trans (GC2.out.mono (fun x _ h => by have := PL.out; rcases h with h | h <;> omega))).mono (fun x hx e => by have := PL.out; omega))
        have LF := hide ((N7.out.chg GC2.out (fun x hx e => by have := hx.1; have := PL.out; rcases e with e | e <;> omega)).up (Y := fun x => w.heap.size ≤ x ∧ x < ((((((((w7.setCell ⟨A, 0, none⟩ (.int .i64 n0)).setCell ⟨A, 1, none⟩ (.string n1)).setCell ⟨A, 2, none⟩ (.int .i64 n2)).setCell ⟨A, 3, none⟩ (.slice na n3.len nc)).setCell ⟨B, 0, none⟩ (.int .i64 0)).setCell ⟨B, 1, none⟩ (.int .i64 0)).setCell ⟨B, 2, none⟩ (.int .i64 0)).setCell ⟨B, 3, none⟩ (.string ⟨#[]⟩)).heap.size) (fun x hx => ⟨by have := hx.1; have := PL.out; omega, by have := GC2.out.size; have := hx.2; omega⟩))
        generalize ((((((((w7.setCell ⟨A, 0, none⟩ (.int .i64 n0)).setCell ⟨A, 1, none⟩ (.string n1)).setCell ⟨A, 2, none⟩ (.int .i64 n2)).setCell ⟨A, 3, none⟩ (.slice na n3.len nc)).setCell ⟨B, 0, none⟩ (.int .i64 0)).setCell ⟨B, 1, none⟩ (.int .i64 0)).setCell ⟨B, 2, none⟩ (.int .i64 0)).setCell ⟨B, 3, none⟩ (.string ⟨#[]⟩)) = wF at *
        have r0 := blk_cell NB.out.1 0
        have r1 := blk_cell NB.out.1 1
        have r2 := blk_cell NB.out.1 2
        have r3 := blk_cell NB.out.1 3
        have a0 := blk_cell NA2.out 0
        have a1 := blk_cell NA2.out 1
        have a2 := blk_cell NA2.out 2
        have a3 := blk_cell NA2.out 3
        refine bodyPost_ret (v := .tuple #[.agg #[.int .i64 n0, .string n1, .int .i64 n2, .slice na n3.len nc], f4V (0, 0, 0, ⟨#[]⟩)]) (by simp [results, Try.results15, go_sem, r0, r1, r2, r3, a0, a1, a2, a3]) rfl ?_
        exact ⟨⟨_, by rw [HX.out], by rw [HX.out]; exact ⟨na, nc, rfl, LF.out⟩⟩, GF.out⟩
end Go.Proofs.Ytboeeaekhijboaa
