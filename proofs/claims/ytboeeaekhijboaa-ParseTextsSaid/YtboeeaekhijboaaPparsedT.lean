/- The program's parser: what is read of a text, and nothing behind it: a node. -/
import Derived.Test.YtboeeaekhijboaaShort
import Derived.Test.YtboeeaekhijboaaPparsed
import Derived.Test.YtboeeaekhijboaaPof
namespace Go.Proofs.Ytboeeaekhijboaa
open Go.RowKit
set_option linter.unusedVariables false
set_option linter.unusedSimpArgs false

abbrev zN : Nd := (0, ⟨#[]⟩, 0, .nil)
set_option maxRecDepth 100000 in
set_option maxHeartbeats 32000000 in
theorem parsedT_any (s : ByteArray) (hs : s.size ≤ 20000) (w : World) :
  Calls Try.prog 39 #[.string s, .func (.func 40) #[] #[]] w fun e w' => (∃ u, e = .returned (.tuple #[u, f4V (resS zN s (termS (lexT s) s 60 0)).1]) ∧ NV w' (fun x => w.heap.size ≤ x ∧ x < w'.heap.size) u (resS zN s (termS (lexT s) s 60 0)).2) ∧ Chg (fun _ => False) w w' := by
 obtain ⟨RR, hRR⟩ : ∃ RR, resS zN s (termS (lexT s) s 60 0) = RR := ⟨_, rfl⟩
 rw [hRR]
 have HRR := hide hRR
 clear hRR
 have GA := al w (.cells #[.int .i64 0, .string ⟨#[]⟩, .int .i64 0, .slice none 0 0] 51)
 have BA := blk_new w (.cells #[.int .i64 0, .string ⟨#[]⟩, .int .i64 0, .slice none 0 0] 51)
 have GB := al (w.alloc (.cells #[.int .i64 0, .string ⟨#[]⟩, .int .i64 0, .slice none 0 0] 51)) (.cells #[.int .i64 0, .int .i64 0, .int .i64 0, .string ⟨#[]⟩] 27)
 have BB := blk_new (w.alloc (.cells #[.int .i64 0, .string ⟨#[]⟩, .int .i64 0, .slice none 0 0] 51)) (.cells #[.int .i64 0, .int .i64 0, .int .i64 0, .string ⟨#[]⟩] 27)
 have GC := al ((w.alloc (.cells #[.int .i64 0, .string ⟨#[]⟩, .int .i64 0, .slice none 0 0] 51)).alloc (.cells #[.int .i64 0, .int .i64 0, .int .i64 0, .string ⟨#[]⟩] 27)) (.cells #[.int .i64 0, .string ⟨#[]⟩, .int .i64 0, .slice none 0 0] 51)
 have BC := blk_new ((w.alloc (.cells #[.int .i64 0, .string ⟨#[]⟩, .int .i64 0, .slice none 0 0] 51)).alloc (.cells #[.int .i64 0, .int .i64 0, .int .i64 0, .string ⟨#[]⟩] 27)) (.cells #[.int .i64 0, .string ⟨#[]⟩, .int .i64 0, .slice none 0 0] 51)
 have s1 := al_sz w (.cells #[.int .i64 0, .string ⟨#[]⟩, .int .i64 0, .slice none 0 0] 51)
 have s2 := al_sz (w.alloc (.cells #[.int .i64 0, .string ⟨#[]⟩, .int .i64 0, .slice none 0 0] 51)) (.cells #[.int .i64 0, .int .i64 0, .int .i64 0, .string ⟨#[]⟩] 27)
 rw [s1] at BB s2
 rw [s2] at BC
 obtain ⟨A, hA⟩ : ∃ A, w.heap.size = A := ⟨_, rfl⟩
 obtain ⟨B, hB⟩ : ∃ B, A + 1 = B := ⟨_, rfl⟩
 obtain ⟨C, hC⟩ : ∃ C, B + 1 = C := ⟨_, rfl⟩
 rw [hA] at BA BB BC
 rw [hB] at BB BC
 rw [hC] at BC
 have GB0 := hide ((GA.trans GB).trans GC)
 have A1 := hide (GC.blk (GB.blk BA))
 have B1 := hide (GC.blk BB)
 have C1 := hide BC
 have HB : Hid (w.heap.size = A ∧ A + 1 = B ∧ B + 1 = C) := hide ⟨hA, hB, hC⟩
 obtain ⟨F, hF⟩ : ∃ F, F = flt s (lexG s (s.size + 1) 0 false) := ⟨_, rfl⟩
 have SP := hide (fun w => split_told s hs w F hF)
 have HF := hide hF
 have HS := hide hs
 clear hF hs GA BA GB BB GC BC s1 s2
 obtain ⟨f0, f1, f2, f3⟩ := F
 dsimp only at SP
 go_enter Try.func39, Try.ntmps39
 go_wp2_with fail
 try rw [hA]
 try rw [hB]
 try rw [hC]
 clear hA hB hC
 generalize (((w.alloc (.cells #[.int .i64 0, .string ⟨#[]⟩, .int .i64 0, .slice none 0 0] 51)).alloc (.cells #[.int .i64 0, .int .i64 0, .int .i64 0, .string ⟨#[]⟩] 27)).alloc (.cells #[.int .i64 0, .string ⟨#[]⟩, .int .i64 0, .slice none 0 0] 51)) = w1 at *
 refine (SP.out w1).mono ?_
 rintro e w2 ⟨⟨tv, rfl, ht⟩, g2⟩
 have C2 := Chg.ofB g2
 have GD := al w2 (.cells #[.int .i64 f0, .int .i64 f1, .int .i64 f2, .string f3] 27)
 have D3 := hide (blk_new w2 (.cells #[.int .i64 f0, .int .i64 f1, .int .i64 f2, .string f3] 27))
 have A3 := hide (GD.blk (C2.blk A1.out))
 have B3 := hide (GD.blk (C2.blk B1.out))
 have C3 := hide (GD.blk (C2.blk C1.out))
 have G3 := hide ((GB0.out.trans C2).trans GD)
 have T2 := hide ht
 obtain ⟨D, hD⟩ : ∃ D, w2.heap.size = D := ⟨_, rfl⟩
 have DL : Hid (A < B ∧ B < C ∧ C < D ∧ w.heap.size = A) := hide ⟨by have := HB.out; omega, by have := HB.out; omega, by have := olt (C2.blk C1.out); omega, HB.out.1⟩
 rw [hD] at D3
 have GD2 := hide GD
 clear g2 C2 ht GD SP
 have z0 := blk_cell C3.out 0
 have z1 := blk_cell C3.out 1
 have z2 := blk_cell C3.out 2
 have z3 := blk_cell C3.out 3
 simp only [gets] at z0 z1 z2 z3
 cases hl : lexF s with
 | some x =>
   obtain ⟨hf, htk⟩ := flt_some hl
   have h0 : f0 = x.1 := by have := HF.out; rw [hf] at this; exact congrArg Prod.fst this
   have hc : x.1 = 2 ∨ x.1 = 3 := lexG_fault s _ _ _ x hl
   have e0 : (f0 == 0) = false := by rw [h0]; rcases hc with h | h <;> rw [h] <;> rfl
   have e1 : (f0 != 0) = true := by rw [h0]; rcases hc with h | h <;> rw [h] <;> rfl
   have HR : Hid (RR = ((f0, f1, f2, f3), zN)) := hide (by rw [← HRR.out]; unfold resS; rw [hl]; dsimp only; rw [← hf, ← HF.out])
   have q0 := blk_cell D3.out 0
   have q1 := blk_cell D3.out 1
   have q2 := blk_cell D3.out 2
   have q3 := blk_cell D3.out 3
   simp only [gets] at q0 q1 q2 q3
   clear hf htk h0 hc HF T2
   go_wp2_with fail
   clear hD
   generalize w2.alloc (.cells #[.int .i64 f0, .int .i64 f1, .int .i64 f2, .string f3] 27) = w3 at *
   refine wp_region_held_drew (S := (fun w' => w'.cell? ⟨C, 0, none⟩ = some (.int .i64 0) ∧ w'.cell? ⟨C, 1, none⟩ = some (.string ⟨#[]⟩) ∧ w'.cell? ⟨C, 2, none⟩ = some (.int .i64 0) ∧ w'.cell? ⟨C, 3, none⟩ = some (.slice none 0 0) ∧ w'.cell? ⟨D, 0, none⟩ = some (.int .i64 f0) ∧ w'.cell? ⟨D, 1, none⟩ = some (.int .i64 f1) ∧ w'.cell? ⟨D, 2, none⟩ = some (.int .i64 f2) ∧ w'.cell? ⟨D, 3, none⟩ = some (.string f3))) (by kernel_rfl) (by go_keep) (fun hHeld => ?_)
   first
    | (refine tku 0 ?_)
    | (refine tkl 0 ?_ ?_ ?_
       rotate_left
       (intro w hSw
        (try dsimp only at hSw)
        (go_simp <;> with_reducible rfl)))
   try simp only [Act.put, puts]
   first
    | (refine tku 1 ?_)
    | (refine tkl 1 ?_ ?_ ?_
       rotate_left
       (intro w hSw
        (try dsimp only at hSw)
        (go_simp <;> with_reducible rfl)))
   try simp only [Act.put, puts]
   refine rd1 2 (fun K hK => ?_)
   have b0 := blk_cell A3.out 0
   have ff0 := blk_free A3.out 0
   have b1 := blk_cell A3.out 1
   have ff1 := blk_free A3.out 1
   have b2 := blk_cell A3.out 2
   have ff2 := blk_free A3.out 2
   have b3 := blk_cell A3.out 3
   have ff3 := blk_free A3.out 3
   go_simp
   have NA : Hid (((((w3.setCell ⟨A, 0, none⟩ (.int .i64 0)).setCell ⟨A, 1, none⟩ (.string ⟨#[]⟩)).setCell ⟨A, 2, none⟩ (.int .i64 0)).setCell ⟨A, 3, none⟩ (.slice none 0 0)).heap[A]? = some (.cells #[.int .i64 0, .string ⟨#[]⟩, .int .i64 0, .slice none 0 0] 51) ∧ Chg (fun x => x = A) w3 ((((w3.setCell ⟨A, 0, none⟩ (.int .i64 0)).setCell ⟨A, 1, none⟩ (.string ⟨#[]⟩)).setCell ⟨A, 2, none⟩ (.int .i64 0)).setCell ⟨A, 3, none⟩ (.slice none 0 0))) := hide ⟨(blk_set (blk_set (blk_set (blk_set A3.out 0 (.int .i64 0)) 1 (.string ⟨#[]⟩)) 2 (.int .i64 0)) 3 (.slice none 0 0)), ((((Chg.set w3 A 0 (.int .i64 0)).trans (Chg.set (w3.setCell ⟨A, 0, none⟩ (.int .i64 0)) A 1 (.string ⟨#[]⟩))).trans (Chg.set ((w3.setCell ⟨A, 0, none⟩ (.int .i64 0)).setCell ⟨A, 1, none⟩ (.string ⟨#[]⟩)) A 2 (.int .i64 0))).trans (Chg.set (((w3.setCell ⟨A, 0, none⟩ (.int .i64 0)).setCell ⟨A, 1, none⟩ (.string ⟨#[]⟩)).setCell ⟨A, 2, none⟩ (.int .i64 0)) A 3 (.slice none 0 0)))⟩
   have y0 := NA.out.2.cell (by have := DL.out; omega) z0
   have u0 := NA.out.2.cell (by have := DL.out; omega) q0
   have y1 := NA.out.2.cell (by have := DL.out; omega) z1
   have u1 := NA.out.2.cell (by have := DL.out; omega) q1
   have y2 := NA.out.2.cell (by have := DL.out; omega) z2
   have u2 := NA.out.2.cell (by have := DL.out; omega) q2
   have y3 := NA.out.2.cell (by have := DL.out; omega) z3
   have u3 := NA.out.2.cell (by have := DL.out; omega) q3
   refine hK.out _ _ ⟨drc y0, drc y1, drc y2, drc y3, drc u0, drc u1, drc u2, drc u3⟩ (fun hHeld => ?_)
   clear hK K
   try simp only [Act.put, puts]
   have B4 := hide (NA.out.2.blkS (by have := DL.out; omega) B3.out)
   generalize ((((w3.setCell ⟨A, 0, none⟩ (.int .i64 0)).setCell ⟨A, 1, none⟩ (.string ⟨#[]⟩)).setCell ⟨A, 2, none⟩ (.int .i64 0)).setCell ⟨A, 3, none⟩ (.slice none 0 0)) = w4 at *
   clear b0 b1 b2 b3 ff0 ff1 ff2 ff3
   refine rd1 3 (fun K hK => ?_)
   have b0 := blk_cell B4.out 0
   have ff0 := blk_free B4.out 0
   have b1 := blk_cell B4.out 1
   have ff1 := blk_free B4.out 1
   have b2 := blk_cell B4.out 2
   have ff2 := blk_free B4.out 2
   have b3 := blk_cell B4.out 3
   have ff3 := blk_free B4.out 3
   go_simp
   have NB : Hid (((((w4.setCell ⟨B, 0, none⟩ (.int .i64 f0)).setCell ⟨B, 1, none⟩ (.int .i64 f1)).setCell ⟨B, 2, none⟩ (.int .i64 f2)).setCell ⟨B, 3, none⟩ (.string f3)).heap[B]? = some (.cells #[.int .i64 f0, .int .i64 f1, .int .i64 f2, .string f3] 27) ∧ Chg (fun x => x = B) w4 ((((w4.setCell ⟨B, 0, none⟩ (.int .i64 f0)).setCell ⟨B, 1, none⟩ (.int .i64 f1)).setCell ⟨B, 2, none⟩ (.int .i64 f2)).setCell ⟨B, 3, none⟩ (.string f3))) := hide ⟨(blk_set (blk_set (blk_set (blk_set B4.out 0 (.int .i64 f0)) 1 (.int .i64 f1)) 2 (.int .i64 f2)) 3 (.string f3)), ((((Chg.set w4 B 0 (.int .i64 f0)).trans (Chg.set (w4.setCell ⟨B, 0, none⟩ (.int .i64 f0)) B 1 (.int .i64 f1))).trans (Chg.set ((w4.setCell ⟨B, 0, none⟩ (.int .i64 f0)).setCell ⟨B, 1, none⟩ (.int .i64 f1)) B 2 (.int .i64 f2))).trans (Chg.set (((w4.setCell ⟨B, 0, none⟩ (.int .i64 f0)).setCell ⟨B, 1, none⟩ (.int .i64 f1)).setCell ⟨B, 2, none⟩ (.int .i64 f2)) B 3 (.string f3)))⟩
   have yy0 := NB.out.2.cell (by have := DL.out; omega) y0
   have uu0 := NB.out.2.cell (by have := DL.out; omega) u0
   have yy1 := NB.out.2.cell (by have := DL.out; omega) y1
   have uu1 := NB.out.2.cell (by have := DL.out; omega) u1
   have yy2 := NB.out.2.cell (by have := DL.out; omega) y2
   have uu2 := NB.out.2.cell (by have := DL.out; omega) u2
   have yy3 := NB.out.2.cell (by have := DL.out; omega) y3
   have uu3 := NB.out.2.cell (by have := DL.out; omega) u3
   refine hK.out _ _ ⟨drc yy0, drc yy1, drc yy2, drc yy3, drc uu0, drc uu1, drc uu2, drc uu3⟩ (fun hHeld => ?_)
   clear hK K
   try simp only [Act.put, puts]
   refine wpAnyH_done (by kernel_rfl) ?_ _
   go_wp2_with fail
   have NA2 := hide (NB.out.2.blkS (by have := DL.out; omega) NA.out.1)
   have GF : Hid (Chg (fun _ => False) w ((((w4.setCell ⟨B, 0, none⟩ (.int .i64 f0)).setCell ⟨B, 1, none⟩ (.int .i64 f1)).setCell ⟨B, 2, none⟩ (.int .i64 f2)).setCell ⟨B, 3, none⟩ (.string f3))) := hide (((((G3.out.mono (T := fun x => x = A ∨ x = B) (fun x _ h => h.elim)).trans (NA.out.2.mono (fun x _ h => Or.inl h))).trans (NB.out.2.mono (fun x _ h => Or.inr h))).mono (fun x hx e => by have := DL.out; omega)))
   generalize ((((w4.setCell ⟨B, 0, none⟩ (.int .i64 f0)).setCell ⟨B, 1, none⟩ (.int .i64 f1)).setCell ⟨B, 2, none⟩ (.int .i64 f2)).setCell ⟨B, 3, none⟩ (.string f3)) = wF at *
   have r0 := blk_cell NB.out.1 0
   have r1 := blk_cell NB.out.1 1
   have r2 := blk_cell NB.out.1 2
   have r3 := blk_cell NB.out.1 3
   have a0 := blk_cell NA2.out 0
   have a1 := blk_cell NA2.out 1
   have a2 := blk_cell NA2.out 2
   have a3 := blk_cell NA2.out 3
   refine bodyPost_ret (v := .tuple #[.agg #[.int .i64 0, .string ⟨#[]⟩, .int .i64 0, .slice none 0 0], f4V (f0, f1, f2, f3)]) (by simp [results, Try.results39, go_sem, r0, r1, r2, r3, a0, a1, a2, a3]) rfl ?_
   exact ⟨⟨_, by rw [HR.out], by rw [HR.out]; exact NV.leaf _ _ 0 ⟨#[]⟩ 0⟩, GF.out.drew⟩
 | none =>
   obtain ⟨hf, htk⟩ := flt_none hl
   have hf' := HF.out.trans hf
   injection hf' with ha hb'
   injection hb' with hb' hc'
   injection hc' with hc' hd'
   subst ha hb' hc' hd'
   have T2 := hide (htk ▸ T2.out)
   have HR : Hid (RR = match endS (lexT s) (termS (lexT s) s 60 0) with | .error e => (fl4 (lexT s) s (some e), zN) | .ok q => ((0, 0, 0, ⟨#[]⟩), q.1)) := hide (by rw [← HRR.out]; unfold resS; rw [hl]; dsimp only; cases endS (lexT s) (termS (lexT s) s 60 0) <;> rfl)
   have EV := hide (fun rb pb h => lexT_env HS.out (rb := rb) (pb := pb) h)
   have K4 := hide (lexT_4 s)
   clear hf htk hl HF
   have TL : Hid ((lexT s).length ≤ 20000) := hide (by have := lexT_len s; have := HS.out; omega)
   have HI := hide (fun rb pb v w (h : PS w rb pb v (lexT s) s 0 (.ok 0)) => term_any (rb := rb) (pb := pb) (v := v) (ts := lexT s) (s := s) 60 0 rfl (.ok 0) w h)
   have eR : St.bind (.ok 0) (termS (lexT s) s 60) = termS (lexT s) s 60 0 := rfl
   rw [eR] at HI
   have KE : Hid (∀ k, (tokAt (lexT s) s k 0).1 = 4 ↔ ¬ k < (lexT s).length) := hide (fun k => by
    by_cases hk : k < (lexT s).length
    ·
     rw [tokAt_in (by omega) (by omega) (show k + (0 : Int).toNat < (lexT s).length from hk)]
     exact ⟨fun e => absurd e (K4.out _ (List.getElem_mem _)), fun e => absurd hk e⟩
    ·
     rw [tokAt_end (Or.inr (by omega))]
     exact ⟨fun _ => hk, fun _ => rfl⟩)
   have q0 := blk_cell D3.out 0
   simp only [List.getElem?_toArray, List.getElem?_cons_zero] at q0
   have T3 := hide (isToks_chg T2.out GD2.out)
   have NW := hide (new_any tv (lexT s) s (by have := TL.out; omega) _ T3.out)
   clear eR
   generalize lexT s = ts at *
   generalize termS ts s 60 0 = r at *
   have Z3 := hide (And.intro z0 (And.intro z1 (And.intro z2 z3)))
   clear z0 z1 z2 z3
   go_wp2_with fail
   clear hD
   generalize w2.alloc (.cells #[.int .i64 0, .int .i64 0, .int .i64 0, .string ⟨#[]⟩] 27) = w3 at *
   refine NW.out.mono ?_
   rintro e w4 ⟨R, v', rfl, hR, hrd, htk, g4⟩
   have GP := al w4 (.cells #[.pointer (some ⟨R, 0, none⟩), .int .i64 0, .int .i64 0, .int .i64 0, .int .i64 0, .string ⟨#[]⟩] 79)
   have BP := blk_new w4 (.cells #[.pointer (some ⟨R, 0, none⟩), .int .i64 0, .int .i64 0, .int .i64 0, .int .i64 0, .string ⟨#[]⟩] 79)
   have RLT : Hid (A < B ∧ B < C ∧ C < R ∧ R < w4.heap.size ∧ w.heap.size = A) := hide ⟨DL.out.1, DL.out.2.1, by have := olt D3.out; have := DL.out; omega, blk_lt hrd, DL.out.2.2.2⟩
   have P5 := hide (toks_ps BP (hrd.chg GP (fun h => h)) (htk.chg GP (fun _ _ h => h)) (EV.out R w4.heap.size (blk_lt hrd)))
   have A5 := hide (GP.blk (g4.blk A3.out))
   have B5 := hide (GP.blk (g4.blk B3.out))
   have C5 := hide (GP.blk (g4.blk C3.out))
   have G5 := hide ((G3.out.trans g4).trans GP)
   obtain ⟨pb, hpb⟩ : ∃ pb, w4.heap.size = pb := ⟨_, rfl⟩
   rw [hpb] at P5 RLT
   clear hR hrd htk g4 GP BP NW
   have IT := hide (HI.out R pb v' _ P5.out)
   go_wp2_with fail
   clear hpb
   generalize w4.alloc (.cells #[.pointer (some ⟨R, 0, none⟩), .int .i64 0, .int .i64 0, .int .i64 0, .int .i64 0, .string ⟨#[]⟩] 79) = w5 at *
   refine IT.out.mono ?_
   rintro e w6' ⟨⟨u, n, rfl, hl, hq⟩, h6, g6⟩
   obtain ⟨n0, n1, n2, n3⟩ := n
   obtain ⟨na, nc, rfl, hn⟩ := hl
   dsimp only [Nd.kind, Nd.word, Nd.at, Nd.kids] at hn ⊢
   have GE := al w6' (.cells #[.int .i64 n0, .string n1, .int .i64 n2, .slice na n3.len nc] 51)
   have BE := hide (blk_new w6' (.cells #[.int .i64 n0, .string n1, .int .i64 n2, .slice na n3.len nc] 51))
   have H6 := hide (h6.chg GE (fun _ _ h => h))
   have A6 := hide (GE.blk (g6.blkS (by have := RLT.out; rintro (e | e) <;> omega) A5.out))
   have B6 := hide (GE.blk (g6.blkS (by have := RLT.out; rintro (e | e) <;> omega) B5.out))
   have C6 := hide (GE.blk (g6.blkS (by have := RLT.out; rintro (e | e) <;> omega) C5.out))
   have G6 : Hid (Chg (fun x => C < x) w _) := hide (((G5.out.mono (T := fun x => C < x) (fun x _ h => h.elim)).trans (g6.mono (fun x _ e => by have := RLT.out; rcases e with e | e <;> omega))).trans (GE.mono (fun x _ h => h.elim)))
   have L6 := hide ((hn.chg GE (fun _ _ h => h)).up (Y := fun x => pb < x ∧ x < (w6'.alloc (.cells #[.int .i64 n0, .string n1, .int .i64 n2, .slice na n3.len nc] 51)).heap.size) (fun x hx => ⟨by have := olt P5.out.blk; omega, by have := GE.size; have := hx.2; omega⟩))
   have HQ := hide hq
   have ELT : Hid (pb < w6'.heap.size) := hide (olt h6.blk)
   have PK := hide (peek_some R R v' ts s r.st.pos 0 H6.out.le (by have := TL.out; omega) (by have := HS.out; omega) _ H6.out.rd H6.out.tks)
   obtain ⟨c0, _, _, _, _, _⟩ := H6.out.cells
   clear h6 g6 hn hq IT P5 A5 B5 C5 G5 GE
   obtain ⟨E, hE⟩ : ∃ E, w6'.heap.size = E := ⟨_, rfl⟩
   rw [hE] at BE ELT
   have KD := hide (KE.out r.st.pos)
   obtain ⟨t, ht⟩ : ∃ t, tokAt ts s r.st.pos 0 = t := ⟨_, rfl⟩
   rw [ht] at PK KD
   clear ht
   obtain ⟨t0, t1, t2⟩ := t
   have etv : tokV (t0, t1, t2) = .agg #[.int .i64 t0, .string t1, .int .i64 (t2 : Int)] := rfl
   rw [etv] at PK
   have fl0 := field75_0 (.int .i64 t0) (.string t1) (.int .i64 (t2 : Int))
   dsimp only at KD
   clear etv
   go_wp2_with fail
   try rw [hE]
   clear hE
   generalize w6'.alloc (.cells #[.int .i64 n0, .string n1, .int .i64 n2, .slice na n3.len nc] 51) = w6 at *
   refine PK.out.mono ?_
   rintro e w7 ⟨rfl, g7⟩
   have H7 := hide (H6.out.chg g7 (fun _ _ h => h))
   have A7 := hide (g7.blk A6.out)
   have B7 := hide (g7.blk B6.out)
   have C7 := hide (g7.blk C6.out)
   have E7 := hide (g7.blk BE.out)
   have G7 := hide (G6.out.trans g7.none)
   have L7 := hide ((L6.out.chg g7 (fun _ _ h => h)).up (Y := fun x => pb < x ∧ x < w7.heap.size) (fun x hx => ⟨hx.1, by have := g7.size; omega⟩))
   clear g7 c0 PK H6 A6 B6 C6 BE G6 L6
   go_upto_if 35 with fail
   go_cut [10] (fun s10 wx => s10 = .pointer (some ⟨E, 0, none⟩) ∧ Hid (PS wx R pb v' ts s 0 (endS ts r).st) ∧ Hid (Chg (fun x => x = pb) w7 wx))
   case first =>
    by_cases h4 : t0 = 4
    ·
     have e4 : (t0 != 4) = false := by simp [h4]
     have hge := KD.out.1 h4
     have HE : Hid (PS w7 R pb v' ts s 0 (endS ts r).st) := hide (by
      cases r with
      | error x => exact H7.out
      | ok q =>
        have hge' : ¬ q.2 < ts.length := hge
        unfold endS
        simp only [Rz.bind]
        rw [if_neg hge']
        exact H7.out)
     clear hge h4
     go_wp2_with fail
     go_meet
     exact ⟨rfl, HE, hide (Chg.refl _ _)⟩
    ·
     have e4 : (t0 != 4) = true := by simpa using h4
     have hlt : r.st.pos < ts.length := Classical.byContradiction (fun hn => h4 (KD.out.2 hn))
     have HLT := hide hlt
     clear h4 hlt
     cases r with
     | error x =>
       have FA := hide (fail_err 3 H7.out)
       go_wp2_with fail
       refine FA.out.mono ?_
       rintro e w8 ⟨rfl, rfl⟩
       go_wp2_with fail
       go_meet
       exact ⟨rfl, H7, hide (Chg.refl _ _)⟩
     | ok q =>
       have FA := hide (fail_ok 3 (Or.inr rfl) (k := q.2) H7.out)
       have HE : Hid ((endS ts (.ok q : Rz Nd)).st = .error (3, q.2)) := hide (by
        have h : q.2 < ts.length := HLT.out
        unfold endS
        simp only [Rz.bind]
        rw [if_pos h]
        rfl)
       go_wp2_with fail
       refine FA.out.mono ?_
       rintro e w8 ⟨rfl, h8, g8⟩
       have H8 : Hid (PS w8 R pb v' ts s 0 (endS ts (.ok q : Rz Nd)).st) := hide (by rw [HE.out]; exact h8)
       have G8 := hide g8
       clear h8 g8
       go_wp2_with fail
       go_meet
       exact ⟨rfl, H8, G8⟩
   case rest =>
    obtain ⟨rfl, H8, g8⟩ := hcut
    generalize wc = w8 at *
    have A8 := hide (g8.out.blkS (by have := RLT.out; omega) A7.out)
    have B8 := hide (g8.out.blkS (by have := RLT.out; omega) B7.out)
    have C8 := hide (g8.out.blkS (by have := RLT.out; omega) C7.out)
    have E8 := hide (g8.out.blkS (by have := ELT.out; omega) E7.out)
    have G8 : Hid (Chg (fun x => C < x) w w8) := hide (G7.out.trans (g8.out.mono (fun x _ e => by have := RLT.out; omega)))
    have HE : Hid (∀ q, endS ts r = .ok q → (n0, n1, n2, n3) = q.1) := hide (fun q hq => by
     cases r with
     | error x => cases hq
     | ok p =>
       have := HQ.out p rfl
       unfold endS at hq
       simp only [Rz.bind] at hq
       split at hq
       ·
        cases hq
       ·
        cases hq; exact this)
    have L8 := hide ((L7.out.chg g8.out (fun x hx e => by have := hx.1; omega)).up (Y := fun x => pb < x ∧ x < w8.heap.size) (fun x hx => ⟨hx.1, by have := g8.out.size; have := hx.2; omega⟩))
    clear H7 A7 B7 C7 E7 G7 L7 KD KE HQ Z3
    obtain ⟨c0, _, c2, c3, c4, c5⟩ := H8.out.cells
    cases hE : endS ts r with
    | error x =>
      have HRE : Hid (RR = (fl4 ts s (some x), zN)) := hide (by rw [HR.out, hE])
      rw [hE] at H8
      have H8 : Hid (PS w8 R pb v' ts s 0 (.error x)) := H8
      clear c2 c3 c4 c5
      have c2 : w8.cell? ⟨pb, 2, none⟩ = some (.int .i64 (fl4 ts s (some x)).1) := H8.out.cells.2.2.1
      have c3 : w8.cell? ⟨pb, 3, none⟩ = some (.int .i64 (fl4 ts s (some x)).2.1) := H8.out.cells.2.2.2.1
      have c4 : w8.cell? ⟨pb, 4, none⟩ = some (.int .i64 (fl4 ts s (some x)).2.2.1) := H8.out.cells.2.2.2.2.1
      have c5 : w8.cell? ⟨pb, 5, none⟩ = some (.string (fl4 ts s (some x)).2.2.2) := H8.out.cells.2.2.2.2.2
      have z0 := blk_cell C8.out 0
      have z1 := blk_cell C8.out 1
      have z2 := blk_cell C8.out 2
      have z3 := blk_cell C8.out 3
      simp only [gets] at z0 z1 z2 z3
      clear HR hE HE L8 E8
      obtain ⟨F, hF⟩ : ∃ F, fl4 ts s (some x) = F := ⟨_, rfl⟩
      rw [hF] at HRE c2 c3 c4 c5
      clear hF
      obtain ⟨f0, f1, f2, f3⟩ := F
      dsimp only at c2 c3 c4 c5
      go_wp2_with fail
      refine (ok_err H8.out).mono ?_
      rintro e w9 ⟨rfl, rfl⟩
      go_wp2_with fail
      refine wp_region_held_drew (S := (fun w' => w'.cell? ⟨C, 0, none⟩ = some (.int .i64 0) ∧ w'.cell? ⟨C, 1, none⟩ = some (.string ⟨#[]⟩) ∧ w'.cell? ⟨C, 2, none⟩ = some (.int .i64 0) ∧ w'.cell? ⟨C, 3, none⟩ = some (.slice none 0 0) ∧ w'.cell? ⟨pb, 2, none⟩ = some (.int .i64 f0) ∧ w'.cell? ⟨pb, 3, none⟩ = some (.int .i64 f1) ∧ w'.cell? ⟨pb, 4, none⟩ = some (.int .i64 f2) ∧ w'.cell? ⟨pb, 5, none⟩ = some (.string f3))) (by kernel_rfl) (by go_keep) (fun hHeld => ?_)
      first
       | (refine tku 0 ?_)
       | (refine tkl 0 ?_ ?_ ?_
          rotate_left
          (intro w hSw
           (try dsimp only at hSw)
           (go_simp <;> with_reducible rfl)))
      try simp only [Act.put, puts]
      first
       | (refine tku 1 ?_)
       | (refine tkl 1 ?_ ?_ ?_
          rotate_left
          (intro w hSw
           (try dsimp only at hSw)
           (go_simp <;> with_reducible rfl)))
      try simp only [Act.put, puts]
      first
       | (refine tku 2 ?_)
       | (refine tkl 2 ?_ ?_ ?_
          rotate_left
          (intro w hSw
           (try dsimp only at hSw)
           (go_simp <;> with_reducible rfl)))
      try simp only [Act.put, puts]
      first
       | (refine tku 3 ?_)
       | (refine tkl 3 ?_ ?_ ?_
          rotate_left
          (intro w hSw
           (try dsimp only at hSw)
           (go_simp <;> with_reducible rfl)))
      try simp only [Act.put, puts]
      first
       | (refine tku 4 ?_)
       | (refine tkl 4 ?_ ?_ ?_
          rotate_left
          (intro w hSw
           (try dsimp only at hSw)
           (go_simp <;> with_reducible rfl)))
      try simp only [Act.put, puts]
      refine rd1 5 (fun K hK => ?_)
      have b0 := blk_cell A8.out 0
      have ff0 := blk_free A8.out 0
      have b1 := blk_cell A8.out 1
      have ff1 := blk_free A8.out 1
      have b2 := blk_cell A8.out 2
      have ff2 := blk_free A8.out 2
      have b3 := blk_cell A8.out 3
      have ff3 := blk_free A8.out 3
      go_simp
      have NA : Hid (((((w8.setCell ⟨A, 0, none⟩ (.int .i64 0)).setCell ⟨A, 1, none⟩ (.string ⟨#[]⟩)).setCell ⟨A, 2, none⟩ (.int .i64 0)).setCell ⟨A, 3, none⟩ (.slice none 0 0)).heap[A]? = some (.cells #[.int .i64 0, .string ⟨#[]⟩, .int .i64 0, .slice none 0 0] 51) ∧ Chg (fun x => x = A) w8 ((((w8.setCell ⟨A, 0, none⟩ (.int .i64 0)).setCell ⟨A, 1, none⟩ (.string ⟨#[]⟩)).setCell ⟨A, 2, none⟩ (.int .i64 0)).setCell ⟨A, 3, none⟩ (.slice none 0 0))) := hide ⟨(blk_set (blk_set (blk_set (blk_set A8.out 0 (.int .i64 0)) 1 (.string ⟨#[]⟩)) 2 (.int .i64 0)) 3 (.slice none 0 0)), ((((Chg.set w8 A 0 (.int .i64 0)).trans (Chg.set (w8.setCell ⟨A, 0, none⟩ (.int .i64 0)) A 1 (.string ⟨#[]⟩))).trans (Chg.set ((w8.setCell ⟨A, 0, none⟩ (.int .i64 0)).setCell ⟨A, 1, none⟩ (.string ⟨#[]⟩)) A 2 (.int .i64 0))).trans (Chg.set (((w8.setCell ⟨A, 0, none⟩ (.int .i64 0)).setCell ⟨A, 1, none⟩ (.string ⟨#[]⟩)).setCell ⟨A, 2, none⟩ (.int .i64 0)) A 3 (.slice none 0 0)))⟩
      have y0 := NA.out.2.cell (by have := RLT.out; omega) z0
      have u0 := NA.out.2.cell (by have := RLT.out; omega) c2
      have y1 := NA.out.2.cell (by have := RLT.out; omega) z1
      have u1 := NA.out.2.cell (by have := RLT.out; omega) c3
      have y2 := NA.out.2.cell (by have := RLT.out; omega) z2
      have u2 := NA.out.2.cell (by have := RLT.out; omega) c4
      have y3 := NA.out.2.cell (by have := RLT.out; omega) z3
      have u3 := NA.out.2.cell (by have := RLT.out; omega) c5
      refine hK.out _ _ ⟨drc y0, drc y1, drc y2, drc y3, drc u0, drc u1, drc u2, drc u3⟩ (fun hHeld => ?_)
      clear hK K
      try simp only [Act.put, puts]
      have B9 := hide (NA.out.2.blkS (by have := RLT.out; omega) B8.out)
      generalize ((((w8.setCell ⟨A, 0, none⟩ (.int .i64 0)).setCell ⟨A, 1, none⟩ (.string ⟨#[]⟩)).setCell ⟨A, 2, none⟩ (.int .i64 0)).setCell ⟨A, 3, none⟩ (.slice none 0 0)) = w9 at *
      clear b0 b1 b2 b3 ff0 ff1 ff2 ff3
      refine rd1 6 (fun K hK => ?_)
      have b0 := blk_cell B9.out 0
      have ff0 := blk_free B9.out 0
      have b1 := blk_cell B9.out 1
      have ff1 := blk_free B9.out 1
      have b2 := blk_cell B9.out 2
      have ff2 := blk_free B9.out 2
      have b3 := blk_cell B9.out 3
      have ff3 := blk_free B9.out 3
      go_simp
      have NB : Hid (((((w9.setCell ⟨B, 0, none⟩ (.int .i64 f0)).setCell ⟨B, 1, none⟩ (.int .i64 f1)).setCell ⟨B, 2, none⟩ (.int .i64 f2)).setCell ⟨B, 3, none⟩ (.string f3)).heap[B]? = some (.cells #[.int .i64 f0, .int .i64 f1, .int .i64 f2, .string f3] 27) ∧ Chg (fun x => x = B) w9 ((((w9.setCell ⟨B, 0, none⟩ (.int .i64 f0)).setCell ⟨B, 1, none⟩ (.int .i64 f1)).setCell ⟨B, 2, none⟩ (.int .i64 f2)).setCell ⟨B, 3, none⟩ (.string f3))) := hide ⟨(blk_set (blk_set (blk_set (blk_set B9.out 0 (.int .i64 f0)) 1 (.int .i64 f1)) 2 (.int .i64 f2)) 3 (.string f3)), ((((Chg.set w9 B 0 (.int .i64 f0)).trans (Chg.set (w9.setCell ⟨B, 0, none⟩ (.int .i64 f0)) B 1 (.int .i64 f1))).trans (Chg.set ((w9.setCell ⟨B, 0, none⟩ (.int .i64 f0)).setCell ⟨B, 1, none⟩ (.int .i64 f1)) B 2 (.int .i64 f2))).trans (Chg.set (((w9.setCell ⟨B, 0, none⟩ (.int .i64 f0)).setCell ⟨B, 1, none⟩ (.int .i64 f1)).setCell ⟨B, 2, none⟩ (.int .i64 f2)) B 3 (.string f3)))⟩
      have yy0 := NB.out.2.cell (by have := RLT.out; omega) y0
      have uu0 := NB.out.2.cell (by have := RLT.out; omega) u0
      have yy1 := NB.out.2.cell (by have := RLT.out; omega) y1
      have uu1 := NB.out.2.cell (by have := RLT.out; omega) u1
      have yy2 := NB.out.2.cell (by have := RLT.out; omega) y2
      have uu2 := NB.out.2.cell (by have := RLT.out; omega) u2
      have yy3 := NB.out.2.cell (by have := RLT.out; omega) y3
      have uu3 := NB.out.2.cell (by have := RLT.out; omega) u3
      refine hK.out _ _ ⟨drc yy0, drc yy1, drc yy2, drc yy3, drc uu0, drc uu1, drc uu2, drc uu3⟩ (fun hHeld => ?_)
      clear hK K
      try simp only [Act.put, puts]
      refine wpAnyH_done (by kernel_rfl) ?_ _
      go_wp2_with fail
      have NA2 := hide (NB.out.2.blkS (by have := RLT.out; omega) NA.out.1)
      have GF : Hid (Chg (fun _ => False) w ((((w9.setCell ⟨B, 0, none⟩ (.int .i64 f0)).setCell ⟨B, 1, none⟩ (.int .i64 f1)).setCell ⟨B, 2, none⟩ (.int .i64 f2)).setCell ⟨B, 3, none⟩ (.string f3))) := hide (((((G8.out.mono (T := fun x => A ≤ x) (fun x _ h => by have := RLT.out; omega)).trans (NA.out.2.mono (fun x _ h => by have := RLT.out; omega))).trans (NB.out.2.mono (fun x _ h => by have := RLT.out; omega))).mono (fun x hx e => by have := RLT.out; omega)))
      generalize ((((w9.setCell ⟨B, 0, none⟩ (.int .i64 f0)).setCell ⟨B, 1, none⟩ (.int .i64 f1)).setCell ⟨B, 2, none⟩ (.int .i64 f2)).setCell ⟨B, 3, none⟩ (.string f3)) = wF at *
      have r0 := blk_cell NB.out.1 0
      have r1 := blk_cell NB.out.1 1
      have r2 := blk_cell NB.out.1 2
      have r3 := blk_cell NB.out.1 3
      have a0 := blk_cell NA2.out 0
      have a1 := blk_cell NA2.out 1
      have a2 := blk_cell NA2.out 2
      have a3 := blk_cell NA2.out 3
      refine bodyPost_ret (v := .tuple #[.agg #[.int .i64 0, .string ⟨#[]⟩, .int .i64 0, .slice none 0 0], f4V (f0, f1, f2, f3)]) (by simp [results, Try.results39, go_sem, r0, r1, r2, r3, a0, a1, a2, a3]) rfl ?_
      exact ⟨⟨_, by rw [HRE.out], by rw [HRE.out]; exact NV.leaf _ _ 0 ⟨#[]⟩ 0⟩, GF.out.drew⟩
    | ok q =>
      have HRE : Hid (RR = ((0, 0, 0, ⟨#[]⟩), q.1)) := hide (by rw [HR.out, hE])
      have HL2 := hide (HE.out q hE)
      rw [hE] at H8
      have H8 : Hid (PS w8 R pb v' ts s 0 (.ok q.2)) := H8
      have y0 := blk_cell E8.out 0
      have y1 := blk_cell E8.out 1
      have y2 := blk_cell E8.out 2
      have y3 := blk_cell E8.out 3
      simp only [gets] at y0 y1 y2 y3
      clear HR hE HE c2 c3 c4 c5
      go_wp2_with fail
      refine (ok_ok H8.out).mono ?_
      rintro e w9 ⟨rfl, rfl⟩
      have b0 := blk_cell A8.out 0
      have ff0 := blk_free A8.out 0
      have b1 := blk_cell A8.out 1
      have ff1 := blk_free A8.out 1
      have b2 := blk_cell A8.out 2
      have ff2 := blk_free A8.out 2
      have b3 := blk_cell A8.out 3
      have ff3 := blk_free A8.out 3
      have bb0 := blk_cell B8.out 0
      have fg0 := blk_free B8.out 0
      have bb1 := blk_cell B8.out 1
      have fg1 := blk_free B8.out 1
      have bb2 := blk_cell B8.out 2
      have fg2 := blk_free B8.out 2
      have bb3 := blk_cell B8.out 3
      have fg3 := blk_free B8.out 3
      have hAB : ¬ A = B := by have := RLT.out; omega
      have hBA : ¬ B = A := by have := RLT.out; omega
      go_wp2_with fail
      clear b0 b1 b2 b3 ff0 ff1 ff2 ff3 bb0 bb1 bb2 bb3 fg0 fg1 fg2 fg3
      have NA : Hid (((((w8.setCell ⟨A, 0, none⟩ (.int .i64 n0)).setCell ⟨A, 1, none⟩ (.string n1)).setCell ⟨A, 2, none⟩ (.int .i64 n2)).setCell ⟨A, 3, none⟩ (.slice na n3.len nc)).heap[A]? = some (.cells #[.int .i64 n0, .string n1, .int .i64 n2, .slice na n3.len nc] 51) ∧ Chg (fun x => x = A) w8 ((((w8.setCell ⟨A, 0, none⟩ (.int .i64 n0)).setCell ⟨A, 1, none⟩ (.string n1)).setCell ⟨A, 2, none⟩ (.int .i64 n2)).setCell ⟨A, 3, none⟩ (.slice na n3.len nc))) := hide ⟨(blk_set (blk_set (blk_set (blk_set A8.out 0 (.int .i64 n0)) 1 (.string n1)) 2 (.int .i64 n2)) 3 (.slice na n3.len nc)), ((((Chg.set w8 A 0 (.int .i64 n0)).trans (Chg.set (w8.setCell ⟨A, 0, none⟩ (.int .i64 n0)) A 1 (.string n1))).trans (Chg.set ((w8.setCell ⟨A, 0, none⟩ (.int .i64 n0)).setCell ⟨A, 1, none⟩ (.string n1)) A 2 (.int .i64 n2))).trans (Chg.set (((w8.setCell ⟨A, 0, none⟩ (.int .i64 n0)).setCell ⟨A, 1, none⟩ (.string n1)).setCell ⟨A, 2, none⟩ (.int .i64 n2)) A 3 (.slice na n3.len nc)))⟩
      have B9 := hide (NA.out.2.blkS (by have := RLT.out; omega) B8.out)
      have NB : Hid (((((((((w8.setCell ⟨A, 0, none⟩ (.int .i64 n0)).setCell ⟨A, 1, none⟩ (.string n1)).setCell ⟨A, 2, none⟩ (.int .i64 n2)).setCell ⟨A, 3, none⟩ (.slice na n3.len nc)).setCell ⟨B, 0, none⟩ (.int .i64 0)).setCell ⟨B, 1, none⟩ (.int .i64 0)).setCell ⟨B, 2, none⟩ (.int .i64 0)).setCell ⟨B, 3, none⟩ (.string ⟨#[]⟩)).heap[B]? = some (.cells #[.int .i64 0, .int .i64 0, .int .i64 0, .string ⟨#[]⟩] 27) ∧ Chg (fun x => x = B) ((((w8.setCell ⟨A, 0, none⟩ (.int .i64 n0)).setCell ⟨A, 1, none⟩ (.string n1)).setCell ⟨A, 2, none⟩ (.int .i64 n2)).setCell ⟨A, 3, none⟩ (.slice na n3.len nc)) ((((((((w8.setCell ⟨A, 0, none⟩ (.int .i64 n0)).setCell ⟨A, 1, none⟩ (.string n1)).setCell ⟨A, 2, none⟩ (.int .i64 n2)).setCell ⟨A, 3, none⟩ (.slice na n3.len nc)).setCell ⟨B, 0, none⟩ (.int .i64 0)).setCell ⟨B, 1, none⟩ (.int .i64 0)).setCell ⟨B, 2, none⟩ (.int .i64 0)).setCell ⟨B, 3, none⟩ (.string ⟨#[]⟩))) := hide ⟨(blk_set (blk_set (blk_set (blk_set B9.out 0 (.int .i64 0)) 1 (.int .i64 0)) 2 (.int .i64 0)) 3 (.string ⟨#[]⟩)), ((((Chg.set ((((w8.setCell ⟨A, 0, none⟩ (.int .i64 n0)).setCell ⟨A, 1, none⟩ (.string n1)).setCell ⟨A, 2, none⟩ (.int .i64 n2)).setCell ⟨A, 3, none⟩ (.slice na n3.len nc)) B 0 (.int .i64 0)).trans (Chg.set (((((w8.setCell ⟨A, 0, none⟩ (.int .i64 n0)).setCell ⟨A, 1, none⟩ (.string n1)).setCell ⟨A, 2, none⟩ (.int .i64 n2)).setCell ⟨A, 3, none⟩ (.slice na n3.len nc)).setCell ⟨B, 0, none⟩ (.int .i64 0)) B 1 (.int .i64 0))).trans (Chg.set ((((((w8.setCell ⟨A, 0, none⟩ (.int .i64 n0)).setCell ⟨A, 1, none⟩ (.string n1)).setCell ⟨A, 2, none⟩ (.int .i64 n2)).setCell ⟨A, 3, none⟩ (.slice na n3.len nc)).setCell ⟨B, 0, none⟩ (.int .i64 0)).setCell ⟨B, 1, none⟩ (.int .i64 0)) B 2 (.int .i64 0))).trans (Chg.set (((((((w8.setCell ⟨A, 0, none⟩ (.int .i64 n0)).setCell ⟨A, 1, none⟩ (.string n1)).setCell ⟨A, 2, none⟩ (.int .i64 n2)).setCell ⟨A, 3, none⟩ (.slice na n3.len nc)).setCell ⟨B, 0, none⟩ (.int .i64 0)).setCell ⟨B, 1, none⟩ (.int .i64 0)).setCell ⟨B, 2, none⟩ (.int .i64 0)) B 3 (.string ⟨#[]⟩)))⟩
      have NA2 := hide (NB.out.2.blkS (by have := RLT.out; omega) NA.out.1)
      have GC2 := hide ((NA.out.2.mono (T := fun x => x = A ∨ x = B) (fun x _ h => Or.inl h)).trans (NB.out.2.mono (fun x _ h => Or.inr h)))
      have GF : Hid (Chg (fun _ => False) w ((((((((w8.setCell ⟨A, 0, none⟩ (.int .i64 n0)).setCell ⟨A, 1, none⟩ (.string n1)).setCell ⟨A, 2, none⟩ (.int .i64 n2)).setCell ⟨A, 3, none⟩ (.slice na n3.len nc)).setCell ⟨B, 0, none⟩ (.int .i64 0)).setCell ⟨B, 1, none⟩ (.int .i64 0)).setCell ⟨B, 2, none⟩ (.int .i64 0)).setCell ⟨B, 3, none⟩ (.string ⟨#[]⟩))) := hide (((G8.out.mono (T := fun x => A ≤ x) (fun x _ h => by have := RLT.out; omega)).trans (GC2.out.mono (fun x _ h => by have := RLT.out; rcases h with h | h <;> omega))).mono (fun x hx e => by have := RLT.out; omega))
      have LF := hide ((L8.out.chg GC2.out (fun x hx e => by have := hx.1; have := RLT.out; rcases e with e | e <;> omega)).up (Y := fun x => w.heap.size ≤ x ∧ x < ((((((((w8.setCell ⟨A, 0, none⟩ (.int .i64 n0)).setCell ⟨A, 1, none⟩ (.string n1)).setCell ⟨A, 2, none⟩ (.int .i64 n2)).setCell ⟨A, 3, none⟩ (.slice na n3.len nc)).setCell ⟨B, 0, none⟩ (.int .i64 0)).setCell ⟨B, 1, none⟩ (.int .i64 0)).setCell ⟨B, 2, none⟩ (.int .i64 0)).setCell ⟨B, 3, none⟩ (.string ⟨#[]⟩)).heap.size) (fun x hx => ⟨by have := hx.1; have := RLT.out; omega, by have := GC2.out.size; have := hx.2; omega⟩))
      generalize ((((((((w8.setCell ⟨A, 0, none⟩ (.int .i64 n0)).setCell ⟨A, 1, none⟩ (.string n1)).setCell ⟨A, 2, none⟩ (.int .i64 n2)).setCell ⟨A, 3, none⟩ (.slice na n3.len nc)).setCell ⟨B, 0, none⟩ (.int .i64 0)).setCell ⟨B, 1, none⟩ (.int .i64 0)).setCell ⟨B, 2, none⟩ (.int .i64 0)).setCell ⟨B, 3, none⟩ (.string ⟨#[]⟩)) = wF at *
      have r0 := blk_cell NB.out.1 0
      have r1 := blk_cell NB.out.1 1
      have r2 := blk_cell NB.out.1 2
      have r3 := blk_cell NB.out.1 3
      have a0 := blk_cell NA2.out 0
      have a1 := blk_cell NA2.out 1
      have a2 := blk_cell NA2.out 2
      have a3 := blk_cell NA2.out 3
      refine bodyPost_ret (v := .tuple #[.agg #[.int .i64 n0, .string n1, .int .i64 n2, .slice na n3.len nc], f4V (0, 0, 0, ⟨#[]⟩)]) (by simp [results, Try.results39, go_sem, r0, r1, r2, r3, a0, a1, a2, a3]) rfl ?_
      exact ⟨⟨_, by rw [HRE.out], by rw [HRE.out, ← HL2.out]; exact ⟨na, nc, rfl, LF.out⟩⟩, GF.out⟩
end Go.Proofs.Ytboeeaekhijboaa
