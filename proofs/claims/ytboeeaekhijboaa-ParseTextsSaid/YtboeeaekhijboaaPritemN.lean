/- The document's parser: item. -/
import Derived.Test.YtboeeaekhijboaaShort
import Derived.Test.YtboeeaekhijboaaPrilaw
import Derived.Test.YtboeeaekhijboaaPterms
import Derived.Deep.CutBlock
import Derived.Deep.LoopGhost
namespace Go.Proofs.Ytboeeaekhijboaa
open Go.RowKit
set_option linter.unusedVariables false
set_option linter.unusedSimpArgs false

set_option maxRecDepth 100000 in
set_option maxHeartbeats 32000000 in
theorem ritem_n {tb : Nat} {v : Value} {ts : List Tok} {s : ByteArray} {k : Nat} {w : World} (hnum : ∀ t ∈ ts, t.1 = 2 → numB t.2.1 = true) (hkl : k < ts.length) (hgrp : (tokAt ts s k 0).1 = 1 ∧ 8 ≤ kindOf (tokAt ts s k 0).2.1 ∧ kindOf (tokAt ts s k 0).2.1 ≤ 11) (h : RS w tb v ts s (.ok k)) :
  Calls Try.prog 37 #[.pointer (some ⟨tb, 0, none⟩)] w (RIOut w tb v ts s (itemS ts s k)) := by
 obtain ⟨i0, hi0, hz0, hz1, hz2⟩ := info_parts info9
 have G0 := hide (al w (.cells #[.int .i64 0, .slice none 0 0, .slice none 0 0, .int .i64 0, .int .i64 0] 42))
 have B0 := hide (blk_new w (.cells #[.int .i64 0, .slice none 0 0, .slice none 0 0, .int .i64 0, .int .i64 0] 42))
 have H0 := hide (h.chg G0.out (fun _ _ h => h))
 have hl := h.lt
 have HN := hide h.env.len
 have HNUM := hide hnum
 have HKL := hide hkl
 have AT := hide (rat_any H0.out)
 have AT : Hid (Calls Try.prog 67 #[.pointer (some ⟨tb, 0, none⟩)] (w.alloc (.cells #[.int .i64 0, .slice none 0 0, .slice none 0 0, .int .i64 0, .int .i64 0] 42)) fun e w' => e = .returned (.int .i64 ((tokAt ts s k 0).2.2 : Int)) ∧ Chg (fun _ => False) (w.alloc (.cells #[.int .i64 0, .slice none 0 0, .slice none 0 0, .int .i64 0, .int .i64 0] 42)) w') := AT
 have KD := hide (fun w h => kind_any (tb := tb) (v := v) (ts := ts) (s := s) (st := .ok k) (w := w) h)
 have KD : Hid (∀ w, RS w tb v ts s (.ok k) → Calls Try.prog 68 #[.pointer (some ⟨tb, 0, none⟩)] w fun e w' => e = .returned (.int .i64 (tokAt ts s k 0).1) ∧ Chg (fun _ => False) w w') := KD
 have WD := hide (fun w h => rword_any (tb := tb) (v := v) (ts := ts) (s := s) (st := .ok k) (w := w) h)
 have WD : Hid (∀ w, RS w tb v ts s (.ok k) → Calls Try.prog 70 #[.pointer (some ⟨tb, 0, none⟩)] w fun e w' => e = .returned (.string (tokAt ts s k 0).2.1) ∧ Chg (fun _ => False) w w') := WD
 obtain ⟨A, hA⟩ : ∃ A, w.heap.size = A := ⟨_, rfl⟩
 have HL : Hid (tb < A ∧ w.heap.size = A) := hide ⟨by omega, hA⟩
 rw [hA] at B0
 obtain ⟨t, ht⟩ : ∃ t, tokAt ts s k 0 = t := ⟨_, rfl⟩
 have HT := hide ht
 rw [ht] at AT KD WD
 rw [ht] at hgrp
 have HGRP := hide hgrp
 clear h hl hA ht hnum hkl hgrp
 obtain ⟨t0, t1, t2⟩ := t
 dsimp only at AT KD WD HGRP
 obtain ⟨kd, hkd⟩ : ∃ kd, kindOf t1 = kd := ⟨_, rfl⟩
 have KB := hide (kind_bd t1)
 have RK := hide (fun w => rkind_any t1 w)
 rw [hkd] at KB RK HGRP
 have HK := hide hkd
 clear hkd
 go_enter Try.func37, Try.ntmps37
 go_wp2_with fail
 rw [HL.out.2]
 generalize w.alloc (.cells #[.int .i64 0, .slice none 0 0, .slice none 0 0, .int .i64 0, .int .i64 0] 42) = w1 at *
 refine AT.out.mono ?_
 rintro e w2 ⟨rfl, g2⟩
 have GX := al w2 (.cells #[.int .i64 0, .slice none 0 0, .slice none 0 0, .int .i64 0, .int .i64 (t2 : Int)] 42)
 have X3 := hide (blk_new w2 (.cells #[.int .i64 0, .slice none 0 0, .slice none 0 0, .int .i64 0, .int .i64 (t2 : Int)] 42))
 have H3 := hide ((H0.out.chg g2 (fun _ _ h => h)).chg GX (fun _ _ h => h))
 have B3 := hide (GX.blk (g2.blk B0.out))
 have G3 := hide (((G0.out.trans g2).trans GX).none (S := fun x => x = tb))
 obtain ⟨X, hX⟩ : ∃ X, w2.heap.size = X := ⟨_, rfl⟩
 have DL : Hid (tb < A ∧ A < X ∧ w.heap.size = A) := hide ⟨HL.out.1, by have := olt (g2.blk B0.out); omega, HL.out.2⟩
 rw [hX] at X3
 have HX := hide hX
 clear g2 GX AT hX
 go_wp2_with fail
 try rw [HX.out]
 generalize w2.alloc (.cells #[.int .i64 0, .slice none 0 0, .slice none 0 0, .int .i64 0, .int .i64 (t2 : Int)] 42) = w3 at *
 obtain ⟨bo, hbo⟩ : ∃ bo, X + 1 = bo := ⟨_, rfl⟩
 have DL : Hid (tb < A ∧ A < X ∧ X < bo ∧ w.heap.size = A) := hide ⟨DL.out.1, DL.out.2.1, by omega, DL.out.2.2⟩
 have HBO := hide hbo
 clear hbo HX
 refine (KD.out w3 H3.out).mono ?_
 rintro e w4 ⟨rfl, g4⟩
 have H4 := hide (H3.out.chg g4 (fun _ _ h => h))
 have B4 := hide (g4.blk B3.out)
 have X4 := hide (g4.blk X3.out)
 have G4 := hide (G3.out.trans g4.none)
 clear g4 KD H3 B3 X3 G3
 by_cases h1 : t0 = 1
 ·
  have e1 : (t0 == 1) = true := by simp [h1]
  have HGRP := hide HGRP.out.2
  go_wp2_with fail
  refine (WD.out w4 H4.out).mono ?_
  rintro e w5 ⟨rfl, g5⟩
  have H5 := hide (H4.out.chg g5 (fun _ _ h => h))
  have B5 := hide (g5.blk B4.out)
  have X5 := hide (g5.blk X4.out)
  have G5 := hide (G4.out.trans g5.none)
  clear g5 WD H4 B4 X4 G4
  go_wp2_with fail
  refine (RK.out w5).mono ?_
  rintro e _ ⟨rfl, rfl⟩
  have d0 := blk_cell X5.out 0
  have d1 := blk_free X5.out 0
  have GS := Chg.set w5 X 0 (.int .i64 kd)
  have X6 : Hid ((w5.setCell ⟨X, 0, none⟩ (.int .i64 kd)).heap[X]? = some (.cells #[.int .i64 kd, .slice none 0 0, .slice none 0 0, .int .i64 0, .int .i64 (t2 : Int)] 42)) := hide (blk_set X5.out 0 (.int .i64 kd))
  simp only [gets] at d0
  have H6 := hide (H5.out.chg GS (fun x hx e => by have := DL.out; omega))
  have B6 := hide (GS.blkS (by have := DL.out; omega) B5.out)
  have G6 := hide (rchg_fresh G5.out GS (by have := DL.out; omega))
  clear GS RK H5 B5 X5 G5
  go_upto_region 4 with fail
  generalize w5.setCell ⟨X, 0, none⟩ (.int .i64 kd) = w6 at *
  clear d0 d1
  by_cases hk0 : kd = 0
  ·
   subst hk0
   have HR : Hid (itemS ts s k = .error (3, k)) := hide (by unfold itemS; rw [HT.out, HK.out, if_pos (Or.inr rfl)])
   clear KB HK HT
   exfalso
   have := HGRP.out
   omega
  ·
   have e2 : (kd == 0) = false := by simpa using hk0
   have HI : Hid (itemS ts s k = (bodyS ts s kd (k + 1)).bind fun x k1 => (mustS ts s bSemi k1).bind fun k2 => .ok ((kd, x.1, x.2.1, x.2.2, (t2 : Int)), k2)) := hide (by unfold itemS; rw [HT.out, HK.out, if_neg (by show ¬ (t0 ≠ 1 ∨ kd = 0); omega)])
   have KB2 : Hid (1 ≤ kd ∧ kd ≤ 12) := hide (by have := KB.out; omega)
   have H7 := hide (H6.out.moved ((k : Int) + 1) (by omega) HKL.out)
   have GS := Chg.set w6 tb 2 (.int .i64 ((k : Int) + 1))
   have B7 := hide (GS.blkS (by have := DL.out; omega) B6.out)
   have X7 := hide (GS.blkS (by have := DL.out; omega) X6.out)
   have G7 := hide (G6.out.trans GS)
   have c2 : w6.cell? ⟨tb, 2, none⟩ = some (.int .i64 (k : Int)) := H6.out.cells.2.2.1
   have x2 := blk_free H6.out.blk 2
   have z0 := blk_cell X6.out 0
   simp only [gets] at z0
   have hkn : (k : Int) ≤ 20000 := by have := HN.out; have := HKL.out; omega
   clear KB HK h1 hk0 GS e1
   go_upto_region 8 with fail
   clear c2 x2 z0 e2 hkn
   generalize w6.setCell ⟨tb, 2, none⟩ (.int .i64 ((k : Int) + 1)) = w7 at *
   clear H6 B6 X6 G6
   have Z7 : Hid (bo ≤ w7.heap.size) := hide (by have := olt X7.out; have := HBO.out; omega)
   have z0 := blk_cell X7.out 0
   simp only [gets] at z0
   have TB : Hid ((decide (kd ≤ 7) = true ∧ decide (kd ≤ 7 ∨ kd = 12) = true) ∨ (decide (kd ≤ 7) = false ∧ (kd == 12) = true ∧ decide (kd ≤ 7 ∨ kd = 12) = true) ∨ (decide (kd ≤ 7) = false ∧ (kd == 12) = false ∧ decide (kd ≤ 7 ∨ kd = 12) = false)) := hide (by
    by_cases h : kd ≤ 7
    ·
     exact Or.inl ⟨by simp [h], by simp [h]⟩
    ·
     by_cases h' : kd = 12
     ·
      exact Or.inr (Or.inl ⟨by simp [h], by simp [h'], by simp [h']⟩)
     ·
      exact Or.inr (Or.inr ⟨by simp [h], by simp [h'], by simp [h, h']⟩))
   obtain ⟨bb, hbb⟩ : ∃ bb, decide (kd ≤ 7 ∨ kd = 12) = bb := ⟨_, rfl⟩
   rw [hbb] at TB
   have HBB := hide hbb
   clear hbb
   go_cut [35] (fun s35 wx => s35 = .bool bb ∧ Hid (wx = w7))
   case first =>
    rcases TB.out with ⟨e3, e5⟩ | ⟨e3, e4, e5⟩ | ⟨e3, e4, e5⟩
    all_goals
     subst e5
     clear TB
     go_wp2_with fail
     go_meet
     exact ⟨rfl, hide rfl⟩
   case rest =>
    obtain ⟨rfl, hw⟩ := hcut
    obtain rfl := hw.out
    clear hw TB z0
    go_upto_if 35 with fail
    go_cut [2] (fun s2 wx => s2 = .pointer (some ⟨A, 0, none⟩) ∧ Hid (RStart w wx tb v ts s A X bo kd (t2 : Int) k))
    case first =>
     clear HI
     cases bb with
     | true =>
       have hg : kd ≤ 7 ∨ kd = 12 := of_decide_eq_true HBB.out
       have HG := hide hg
       clear hg HBB
       have AAX := hide (fun w' (h : RS w' tb v ts s (.ok (k + 1))) => a_any 1 (by decide) h)
       have AAX : Hid (∀ w', RS w' tb v ts s (.ok (k + 1)) → Calls Try.prog 71 #[.pointer (some ⟨tb, 0, none⟩), .int .i64 1] w' fun e w'' => e = .returned (.string (tokOf (tokS ts s 1 (k + 1))).2.1) ∧ RS w'' tb v ts s (tokS ts s 1 (k + 1)).st ∧ Chg (fun x => x = tb) w' w'') := AAX
       have ST : Hid (∀ wx, RW w wx tb v ts s A X bo kd (t2 : Int) (tokS ts s 1 (k + 1)).st [(tokOf (tokS ts s 1 (k + 1))).2.1] → RStart w wx tb v ts s A X bo kd (t2 : Int) k) := hide (fun wx h => Or.inl ⟨HG.out, h⟩)
       generalize (tokOf (tokS ts s 1 (k + 1))).2.1 = x1 at *
       generalize (tokS ts s 1 (k + 1)).st = st1 at *
       have O7 : Hid (wc.ownsRow bo 9 1 (.slice none 0 0) ([] : List ByteArray).length (([] : List ByteArray).map .string)) := hide (World.ownsRow_nil _ _ _ _)
       have LL : Hid (([] : List ByteArray).length ≤ 100000) := hide (Nat.zero_le _)
       go_wp2_with fail
       exfalso
       have := HG.out
       have := HGRP.out
       omega
     | false =>
       have hg : ¬ (kd ≤ 7 ∨ kd = 12) := of_decide_eq_false HBB.out
       have HG := hide hg
       clear hg HBB
       have AAX := hide (fun w' (h : RS w' tb v ts s (.ok (k + 1))) => a_any 2 (by decide) h)
       have AAX : Hid (∀ w', RS w' tb v ts s (.ok (k + 1)) → Calls Try.prog 71 #[.pointer (some ⟨tb, 0, none⟩), .int .i64 2] w' fun e w'' => e = .returned (.string (tokOf (tokS ts s 2 (k + 1))).2.1) ∧ RS w'' tb v ts s (tokS ts s 2 (k + 1)).st ∧ Chg (fun x => x = tb) w' w'') := AAX
       have NT := hide (num_tok HNUM.out (s := s) (k + 1))
       have ST : Hid (∀ wx, RN w wx tb v ts s A X bo kd (numV (tokOf (tokS ts s 2 (k + 1)))) (t2 : Int) (tokS ts s 2 (k + 1)).st [] [] → RStart w wx tb v ts s A X bo kd (t2 : Int) k) := hide (fun wx h => Or.inr ⟨HG.out, h⟩)
       generalize numV (tokOf (tokS ts s 2 (k + 1))) = num at *
       generalize (tokOf (tokS ts s 2 (k + 1))).2.1 = x1 at *
       generalize (tokS ts s 2 (k + 1)).st = st1 at *
       have VL := hide (fun w => refValue_any x1 NT.out.1 NT.out.2.1 w)
       rw [NT.out.2.2] at VL
       go_wp2_with fail
       refine (AAX.out wc H7.out).mono ?_
       rintro e v6 ⟨rfl, h6, g6⟩
       have B8 := hide (g6.blkS (by have := DL.out; omega) B7.out)
       have X8 := hide (g6.blkS (by have := DL.out; omega) X7.out)
       have H8 := hide h6
       have G8 := hide (G7.out.trans g6)
       have Z8 := hide (Nat.le_trans Z7.out g6.size)
       clear h6 g6 H7 B7 X7 G7 Z7 AAX
       go_wp2_with fail
       refine (VL.out v6).mono ?_
       rintro e _ ⟨rfl, rfl⟩
       have d0 := blk_cell X8.out 3
       have d1 := blk_free X8.out 3
       have GS := Chg.set v6 X 3 (.int .i64 num)
       have X9 : Hid ((v6.setCell ⟨X, 3, none⟩ (.int .i64 num)).heap[X]? = some (.cells #[.int .i64 kd, .slice none 0 0, .slice none 0 0, .int .i64 num, .int .i64 (t2 : Int)] 42)) := hide (blk_set X8.out 3 (.int .i64 num))
       simp only [gets] at d0
       have H9 := hide (H8.out.chg GS (fun x hx e => by have := DL.out; omega))
       have B9 := hide (GS.blkS (by have := DL.out; omega) B8.out)
       have G9 := hide (rchg_fresh G8.out GS (by have := DL.out; omega))
       have Z9 := hide (Nat.le_trans Z8.out GS.size)
       have F9 : Hid (RN w (v6.setCell ⟨X, 3, none⟩ (.int .i64 num)) tb v ts s A X bo kd num (t2 : Int) st1 [] []) := hide ⟨_, _, [], H9, B9, X9, hide (Sw.nil _ _), hide (World.ownsRow_nil _ _ _ _), hide (SameN.nil _ _ _), Z9, G9⟩
       clear GS X9 H9 B9 G9 Z9 VL NT
       go_wp2_with fail
       go_meet
       exact ⟨rfl, hide (ST.out _ F9.out)⟩
    case rest =>
     obtain ⟨rfl, hST⟩ := hcut
     clear H7 B7 X7 G7 Z7
     generalize wc = w8 at *
     have XK := hide (rstart_x hST.out)
     obtain ⟨ux, vx, nx, hx⟩ := XK.out
     have z0 := blk_cell hx 0
     simp only [gets] at z0
     clear hx XK
     go_upto_block 0 with fail
     go_cut [2] (fun s2 wx => s2 = .pointer (some ⟨A, 0, none⟩) ∧ Hid (RBody w wx tb v ts s A X bo kd (t2 : Int) (bodyS ts s kd (k + 1))))
     case first =>
      clear HI HBB
      rcases hST.out with ⟨hg, hRW⟩ | ⟨hg, hNN⟩
      ·
       have hRW := hide hRW
       have NN := hide hRW.out.toN
       obtain ⟨r1, hr1⟩ : ∃ r1, tokS ts s 1 (k + 1) = r1 := ⟨_, rfl⟩
       have HR1 := hide hr1
       rw [hr1] at NN hRW
       obtain ⟨x1, hx1⟩ : ∃ x1, (tokOf r1).2.1 = x1 := ⟨_, rfl⟩
       have HX1 := hide hx1
       rw [hx1] at NN hRW
       obtain ⟨st1, hst1⟩ : ∃ st1, r1.st = st1 := ⟨_, rfl⟩
       have HST1 := hide hst1
       rw [hst1] at NN hRW
       have hkc : kd = 1 ∨ kd = 2 ∨ kd = 3 ∨ kd = 4 ∨ kd = 5 ∨ kd = 6 ∨ kd = 7 ∨ kd = 12 := by have := KB2.out; omega
       clear KB2 hg hST hr1 hx1 hst1
       rcases hkc with rfl | rfl | rfl | rfl | rfl | rfl | rfl | rfl
       all_goals (have := HGRP.out; omega)
      ·
       have NN := hide hNN
       obtain ⟨r1, hr1⟩ : ∃ r1, tokS ts s 2 (k + 1) = r1 := ⟨_, rfl⟩
       have HR1 := hide hr1
       rw [hr1] at NN
       obtain ⟨num, hnm⟩ : ∃ num, numV (tokOf r1) = num := ⟨_, rfl⟩
       have HNM := hide hnm
       rw [hnm] at NN
       obtain ⟨st1, hst1⟩ : ∃ st1, r1.st = st1 := ⟨_, rfl⟩
       have HST1 := hide hst1
       rw [hst1] at NN
       have hkc : kd = 8 ∨ kd = 9 ∨ kd = 10 ∨ kd = 11 := by have := KB2.out; omega
       clear KB2 hg hST hr1 hnm hst1 hNN
       rcases hkc with rfl | rfl | rfl | rfl
       ·
        have LAW := hide (rlawN ts s 8 (by decide) (k + 1))
        rw [HR1.out, HNM.out, HST1.out] at LAW
        go_wp2_with fail
        go_meet
        exact ⟨rfl, hide ⟨[], [], num, st1, NN, hide LAW.out.1, hide LAW.out.2⟩⟩
       ·
        obtain ⟨v1, u2, us, H10, B10, X10, S10, O10, M10, Z10, G10⟩ := NN.out
        clear NN z0
        obtain ⟨j0, hj0, hy0, hy1, hy2⟩ := info_parts infoR55
        have LU : Hid (us.length ≤ 100000) := hide (by rw [M10.out.1]; exact Nat.zero_le _)
        obtain ⟨st2, hst2⟩ : ∃ st2, st1.then (mustS ts s bColon) = st2 := ⟨_, rfl⟩
        have HST2 := hide hst2
        have z0 := blk_cell X10.out 0
        simp only [gets] at z0
        have SGN := hide (sign_any' bColon sg_colon H10.out)
        go_wp2_with fail
        refine SGN.out.mono ?_
        rintro e ws10 ⟨rfl, hs, gs⟩
        have H11 := hide hs
        have B11 := hide (gs.blkS (by have := DL.out; omega) B10.out)
        have X11 := hide (gs.blkS (by have := DL.out; omega) X10.out)
        have G11 := hide (G10.out.trans gs)
        have Z11 := hide (Nat.le_trans Z10.out gs.size)
        rw [hst2] at H11
        clear hst2
        have S11 := hide (S10.out.chg gs (fun x hx e => by have := hx.1; have := DL.out; omega) |>.up (Y := fun x => bo ≤ x ∧ x < ws10.heap.size ∧ u2.ownBlock ≠ some x) (fun x hx => ⟨hx.1, Nat.lt_of_lt_of_le hx.2.1 gs.size, hx.2.2⟩))
        have O11 := hide (own_chgS O10.out gs (fun x hx e => by have := DL.out; omega))
        have M11 := hide (M10.out.chg gs (fun x hx _ _ e => by have := DL.out; omega))
        clear hs gs SGN H10 B10 X10 S10 O10 M10 Z10 G10 z0
        have LAW := hide (fun n hn => rlaw9 ts s (k + 1) n hn)
        rw [HR1.out, HNM.out, HST1.out, HST2.out] at LAW
        go_wp2_with fail
        have z2 := blk_cell X11.out 2
        simp only [gets] at z2
        have e00 : ((0 : Nat) : Int) = 0 := rfl
        have AN := hide (fun w' (h : RS w' tb v ts s (st2)) => rterm_any 60 0 rfl st2 w' h)
        rw [e00] at AN
        have AN : Hid (∀ w', RS w' tb v ts s (st2) → Calls Try.prog 41 #[.pointer (some ⟨tb, 0, none⟩), .int .i64 0] w' (ROut w' tb v ts s (st2.bind (termS ts s 60)))) := AN
        clear e00
        refine wp_region_held_drew (S := (fun _ => True)) (by kernel_rfl) trivial (fun hHeld => ?_)
        refine tkl 0 ?_ ?_ ?_
        rotate_left
        ·
         intro w hSw
         go_simp <;> with_reducible rfl
        try simp only [Act.put, puts]
        refine tkl 2 ?_ ?_ ?_
        rotate_left
        ·
         intro w hSw
         go_simp <;> with_reducible rfl
        try simp only [Act.put, puts]
        refine wpAnyH_ready (rs := [1, 3]) (by kernel_rfl) (by simp) ?_
        refine AllReadyH.cons (i := 1) (o := _) rfl (fun K hK => ?_) ?_
        ·
         go_simp
         refine hK.out _ _ trivial (fun hHeld => ?_)
         clear hK K
         try simp only [Act.put, puts]
         refine rd1 3 (fun K hK => ?_)
         go_simp
         refine (AN.out ws10.drew (H11.out.chg ((Chg.refl (fun _ => False) ws10).drew) (fun _ _ h => h))).mono ?_
         rintro e v6 ⟨⟨un, nd, rfl, hm, hq⟩, h6, g6'⟩
         obtain ⟨m0, m1, m2, m3⟩ := nd
         obtain ⟨ma, mc, rfl, hm⟩ := hm
         dsimp only [Nd.kind, Nd.word, Nd.at, Nd.kids] at hm ⊢
         have HQN := hide hq
         have g6 := (Chg.refl (fun _ => False) ws10).drew.none.trans g6'
         have GA := al v6 (.cells #[.int .i64 m0, .string m1, .int .i64 m2, .slice ma m3.len mc] 55)
         have X6 := g6.blkS (by have := DL.out; omega) X11.out
         have X7 := GA.blk X6
         have z26 := blk_cell X6 2
         have z27 := blk_cell X7 2
         simp only [gets] at z26 z27
         have HX7 := hide X7
         have H7 := hide (h6.chg GA (fun _ _ h => h))
         have B7 := hide (GA.blk (g6.blkS (by have := DL.out; omega) B11.out))
         have S7 := (S11.out.chg g6 (fun x hx e => by have := hx.1; have := DL.out; omega)).chg GA (fun _ _ h => h)
         have O7 := hide (own_chgS (own_chgS O11.out g6 (fun x hx e => by have := DL.out; omega)) GA (fun _ _ h => h))
         have M7 := (M11.out.chg g6 (fun x hx _ _ e => by have := DL.out; omega)).chg GA (fun _ _ _ _ h => h)
         have RL := hide (fun r (e : u2.ownBlock = some r) => World.ownsRow.lt O11.out r e)
         have ZW := hide Z11.out
         have Z7 := hide (Nat.le_trans Z11.out (Nat.le_trans g6.size GA.size))
         have G7 := hide ((G11.out.trans g6).trans GA.none)
         have T7 := (hm.chg GA (fun _ _ h => h)).up (Y := fun x => bo ≤ x ∧ x < (v6.alloc (.cells #[.int .i64 m0, .string m1, .int .i64 m2, .slice ma m3.len mc] 55)).heap.size ∧ u2.ownBlock ≠ some x) (fun x hx => ⟨Nat.le_trans ZW.out hx.1, Nat.lt_of_lt_of_le hx.2 GA.size, fun e => by have h1 := (RL.out x e).2; have h3 : ws10.heap.size ≤ x := hx.1; omega⟩)
         have N7 := hide (M7.snoc (p := (m0, m1, m2, .slice ma m3.len mc)) (x := (m0, m1, m2, m3)) ⟨rfl, rfl, rfl, T7⟩)
         have S7 := hide (S7.up (Y := fun x => bo ≤ x ∧ x < (v6.alloc (.cells #[.int .i64 m0, .string m1, .int .i64 m2, .slice ma m3.len mc] 55)).heap.size ∧ u2.ownBlock ≠ some x) (fun x hx => ⟨hx.1, Nat.lt_of_lt_of_le hx.2.1 (Nat.le_trans g6.size GA.size), hx.2.2⟩))
         have NB := hide (World.news_of_block (cs := #[.int .i64 m0, .string m1, .int .i64 m2, .slice ma m3.len mc]) (t := 55) (fr := (0, 0)) (heap_alloc_new v6 _))
         clear hm hq h6 g6 g6' GA X6 X7 T7 M7 z2
         go_simp
         refine hK.out _ _ trivial (fun hHeld => ?_)
         clear hK K
         try simp only [Act.put, puts]
         refine rd1 4 (fun K hK => ?_)
         go_simp
         refine hK.out _ _ trivial (fun hHeld => ?_)
         clear hK K
         try simp only [Act.put, puts]
         refine rd1 5 (fun K hK => ?_)
         refine step_append_lies _ (by rfl) _ _ _ (by rfl) bo 55 j0 (.agg #[.int .i64 0, .string ⟨#[]⟩, .int .i64 0, .slice none 0 0]) 4 56 Try.underlying40 hj0 hy0 hy1 hy2 rfl (by omega) _ us.length (cellsN us) (by rfl) O7.out ⟨v6.heap.size, 0, none⟩ 1 1 [.int .i64 m0, .string m1, .int .i64 m2, .slice ma m3.len mc] (by rfl) (by rfl) NB.out (by simp [Value.oneCell']) (by have := LU.out; omega) (by have := LU.out; simp [maxLen]; omega) (by have := LU.out; omega) Z7.out (v6.heap.size + 1) (by simp) ?_
         intro gg cap2 v8 hown hgrow hgat hglt
         have T8 := (own_grow_chg O7.out hgrow).blkS (by have := DL.out; omega) HX7.out
         have fX8 := blk_free T8 2
         have zX8 := blk_cell T8 2
         simp only [gets] at zX8
         have F9 : Hid (RN w (v8.setCell ⟨X, 2, none⟩ (.slice (some ⟨gg, 0, none⟩) (us.length + 1) cap2)) tb v ts s A X bo 9 num (t2 : Int) (Rz.st (st2.bind (termS ts s 60))) ([]) (([] : List Nd) ++ [(m0, m1, m2, m3)])) := hide (rn_app DL.out HX7.out H7.out B7.out S7.out O7.out N7.out Z7.out G7.out hown hgrow hgat (al_sz _ _))
         clear T8 hown hgrow hgat hglt
         refine hK.out _ _ trivial (fun hHeld => ?_)
         clear hK K
         try simp only [Act.put, puts]
         refine tkl 6 ?_ ?_ ?_
         rotate_left
         ·
          intro w hSw
          go_simp <;> with_reducible rfl
         try simp only [Act.put, puts]
         refine rd1 7 (fun K hK => ?_)
         go_simp
         refine hK.out _ _ trivial (fun hHeld => ?_)
         clear hK K
         try simp only [Act.put, puts]
         refine wpAnyH_done (by kernel_rfl) ?_ _
         generalize v8.setCell ⟨X, 2, none⟩ (.slice (some ⟨gg, 0, none⟩) (us.length + 1) cap2) = v9 at *
         obtain ⟨w1x, w2x, w3x, _, _, hX9, _⟩ := id F9.out
         have z9 := blk_cell hX9.out 0
         simp only [gets] at z9
         clear hX9
         go_wp2_with fail
         go_meet
         exact ⟨rfl, hide ⟨[], _, num, _, F9, hide (LAW.out _ HQN.out).1, hide (LAW.out _ HQN.out).2⟩⟩
        refine AllReadyH.cons (i := 3) (o := _) rfl (fun K hK => ?_) ?_
        rotate_left
        ·
         exact AllReadyH.nil
        go_simp
        refine (AN.out ws10.drew (H11.out.chg ((Chg.refl (fun _ => False) ws10).drew) (fun _ _ h => h))).mono ?_
        rintro e v6 ⟨⟨un, nd, rfl, hm, hq⟩, h6, g6'⟩
        obtain ⟨m0, m1, m2, m3⟩ := nd
        obtain ⟨ma, mc, rfl, hm⟩ := hm
        dsimp only [Nd.kind, Nd.word, Nd.at, Nd.kids] at hm ⊢
        have HQN := hide hq
        have g6 := (Chg.refl (fun _ => False) ws10).drew.none.trans g6'
        have GA := al v6 (.cells #[.int .i64 m0, .string m1, .int .i64 m2, .slice ma m3.len mc] 55)
        have X6 := g6.blkS (by have := DL.out; omega) X11.out
        have X7 := GA.blk X6
        have z26 := blk_cell X6 2
        have z27 := blk_cell X7 2
        simp only [gets] at z26 z27
        have HX7 := hide X7
        have H7 := hide (h6.chg GA (fun _ _ h => h))
        have B7 := hide (GA.blk (g6.blkS (by have := DL.out; omega) B11.out))
        have S7 := (S11.out.chg g6 (fun x hx e => by have := hx.1; have := DL.out; omega)).chg GA (fun _ _ h => h)
        have O7 := hide (own_chgS (own_chgS O11.out g6 (fun x hx e => by have := DL.out; omega)) GA (fun _ _ h => h))
        have M7 := (M11.out.chg g6 (fun x hx _ _ e => by have := DL.out; omega)).chg GA (fun _ _ _ _ h => h)
        have RL := hide (fun r (e : u2.ownBlock = some r) => World.ownsRow.lt O11.out r e)
        have ZW := hide Z11.out
        have Z7 := hide (Nat.le_trans Z11.out (Nat.le_trans g6.size GA.size))
        have G7 := hide ((G11.out.trans g6).trans GA.none)
        have T7 := (hm.chg GA (fun _ _ h => h)).up (Y := fun x => bo ≤ x ∧ x < (v6.alloc (.cells #[.int .i64 m0, .string m1, .int .i64 m2, .slice ma m3.len mc] 55)).heap.size ∧ u2.ownBlock ≠ some x) (fun x hx => ⟨Nat.le_trans ZW.out hx.1, Nat.lt_of_lt_of_le hx.2 GA.size, fun e => by have h1 := (RL.out x e).2; have h3 : ws10.heap.size ≤ x := hx.1; omega⟩)
        have N7 := hide (M7.snoc (p := (m0, m1, m2, .slice ma m3.len mc)) (x := (m0, m1, m2, m3)) ⟨rfl, rfl, rfl, T7⟩)
        have S7 := hide (S7.up (Y := fun x => bo ≤ x ∧ x < (v6.alloc (.cells #[.int .i64 m0, .string m1, .int .i64 m2, .slice ma m3.len mc] 55)).heap.size ∧ u2.ownBlock ≠ some x) (fun x hx => ⟨hx.1, Nat.lt_of_lt_of_le hx.2.1 (Nat.le_trans g6.size GA.size), hx.2.2⟩))
        have NB := hide (World.news_of_block (cs := #[.int .i64 m0, .string m1, .int .i64 m2, .slice ma m3.len mc]) (t := 55) (fr := (0, 0)) (heap_alloc_new v6 _))
        clear hm hq h6 g6 g6' GA X6 X7 T7 M7 z2
        go_simp
        refine hK.out _ _ trivial (fun hHeld => ?_)
        clear hK K
        try simp only [Act.put, puts]
        refine wpAnyH_ready (rs := [1, 4]) (by kernel_rfl) (by simp) ?_
        refine AllReadyH.cons (i := 1) (o := _) rfl (fun K hK => ?_) ?_
        ·
         go_simp
         refine hK.out _ _ trivial (fun hHeld => ?_)
         clear hK K
         try simp only [Act.put, puts]
         refine rd1 4 (fun K hK => ?_)
         go_simp
         refine hK.out _ _ trivial (fun hHeld => ?_)
         clear hK K
         try simp only [Act.put, puts]
         refine rd1 5 (fun K hK => ?_)
         refine step_append_lies _ (by rfl) _ _ _ (by rfl) bo 55 j0 (.agg #[.int .i64 0, .string ⟨#[]⟩, .int .i64 0, .slice none 0 0]) 4 56 Try.underlying40 hj0 hy0 hy1 hy2 rfl (by omega) _ us.length (cellsN us) (by rfl) O7.out ⟨v6.heap.size, 0, none⟩ 1 1 [.int .i64 m0, .string m1, .int .i64 m2, .slice ma m3.len mc] (by rfl) (by rfl) NB.out (by simp [Value.oneCell']) (by have := LU.out; omega) (by have := LU.out; simp [maxLen]; omega) (by have := LU.out; omega) Z7.out (v6.heap.size + 1) (by simp) ?_
         intro gg cap2 v8 hown hgrow hgat hglt
         have T8 := (own_grow_chg O7.out hgrow).blkS (by have := DL.out; omega) HX7.out
         have fX8 := blk_free T8 2
         have zX8 := blk_cell T8 2
         simp only [gets] at zX8
         have F9 : Hid (RN w (v8.setCell ⟨X, 2, none⟩ (.slice (some ⟨gg, 0, none⟩) (us.length + 1) cap2)) tb v ts s A X bo 9 num (t2 : Int) (Rz.st (st2.bind (termS ts s 60))) ([]) (([] : List Nd) ++ [(m0, m1, m2, m3)])) := hide (rn_app DL.out HX7.out H7.out B7.out S7.out O7.out N7.out Z7.out G7.out hown hgrow hgat (al_sz _ _))
         clear T8 hown hgrow hgat hglt
         refine hK.out _ _ trivial (fun hHeld => ?_)
         clear hK K
         try simp only [Act.put, puts]
         refine tkl 6 ?_ ?_ ?_
         rotate_left
         ·
          intro w hSw
          go_simp <;> with_reducible rfl
         try simp only [Act.put, puts]
         refine rd1 7 (fun K hK => ?_)
         go_simp
         refine hK.out _ _ trivial (fun hHeld => ?_)
         clear hK K
         try simp only [Act.put, puts]
         refine wpAnyH_done (by kernel_rfl) ?_ _
         generalize v8.setCell ⟨X, 2, none⟩ (.slice (some ⟨gg, 0, none⟩) (us.length + 1) cap2) = v9 at *
         obtain ⟨w1x, w2x, w3x, _, _, hX9, _⟩ := id F9.out
         have z9 := blk_cell hX9.out 0
         simp only [gets] at z9
         clear hX9
         go_wp2_with fail
         go_meet
         exact ⟨rfl, hide ⟨[], _, num, _, F9, hide (LAW.out _ HQN.out).1, hide (LAW.out _ HQN.out).2⟩⟩
        refine AllReadyH.cons (i := 4) (o := _) rfl (fun K hK => ?_) ?_
        rotate_left
        ·
         exact AllReadyH.nil
        go_simp
        refine hK.out _ _ trivial (fun hHeld => ?_)
        clear hK K
        try simp only [Act.put, puts]
        refine rd1 1 (fun K hK => ?_)
        go_simp
        refine hK.out _ _ trivial (fun hHeld => ?_)
        clear hK K
        try simp only [Act.put, puts]
        refine rd1 5 (fun K hK => ?_)
        refine step_append_lies _ (by rfl) _ _ _ (by rfl) bo 55 j0 (.agg #[.int .i64 0, .string ⟨#[]⟩, .int .i64 0, .slice none 0 0]) 4 56 Try.underlying40 hj0 hy0 hy1 hy2 rfl (by omega) _ us.length (cellsN us) (by rfl) O7.out ⟨v6.heap.size, 0, none⟩ 1 1 [.int .i64 m0, .string m1, .int .i64 m2, .slice ma m3.len mc] (by rfl) (by rfl) NB.out (by simp [Value.oneCell']) (by have := LU.out; omega) (by have := LU.out; simp [maxLen]; omega) (by have := LU.out; omega) Z7.out (v6.heap.size + 1) (by simp) ?_
        intro gg cap2 v8 hown hgrow hgat hglt
        have T8 := (own_grow_chg O7.out hgrow).blkS (by have := DL.out; omega) HX7.out
        have fX8 := blk_free T8 2
        have zX8 := blk_cell T8 2
        simp only [gets] at zX8
        have F9 : Hid (RN w (v8.setCell ⟨X, 2, none⟩ (.slice (some ⟨gg, 0, none⟩) (us.length + 1) cap2)) tb v ts s A X bo 9 num (t2 : Int) (Rz.st (st2.bind (termS ts s 60))) ([]) (([] : List Nd) ++ [(m0, m1, m2, m3)])) := hide (rn_app DL.out HX7.out H7.out B7.out S7.out O7.out N7.out Z7.out G7.out hown hgrow hgat (al_sz _ _))
        clear T8 hown hgrow hgat hglt
        refine hK.out _ _ trivial (fun hHeld => ?_)
        clear hK K
        try simp only [Act.put, puts]
        refine tkl 6 ?_ ?_ ?_
        rotate_left
        ·
         intro w hSw
         go_simp <;> with_reducible rfl
        try simp only [Act.put, puts]
        refine rd1 7 (fun K hK => ?_)
        go_simp
        refine hK.out _ _ trivial (fun hHeld => ?_)
        clear hK K
        try simp only [Act.put, puts]
        refine wpAnyH_done (by kernel_rfl) ?_ _
        generalize v8.setCell ⟨X, 2, none⟩ (.slice (some ⟨gg, 0, none⟩) (us.length + 1) cap2) = v9 at *
        obtain ⟨w1x, w2x, w3x, _, _, hX9, _⟩ := id F9.out
        have z9 := blk_cell hX9.out 0
        simp only [gets] at z9
        clear hX9
        go_wp2_with fail
        go_meet
        exact ⟨rfl, hide ⟨[], _, num, _, F9, hide (LAW.out _ HQN.out).1, hide (LAW.out _ HQN.out).2⟩⟩
       ·
        obtain ⟨v1, u2, us, H10, B10, X10, S10, O10, M10, Z10, G10⟩ := NN.out
        clear NN z0
        obtain ⟨j0, hj0, hy0, hy1, hy2⟩ := info_parts infoR55
        have LU : Hid (us.length ≤ 100000) := hide (by rw [M10.out.1]; exact Nat.zero_le _)
        obtain ⟨st2, hst2⟩ : ∃ st2, st1.then (mustS ts s bColon) = st2 := ⟨_, rfl⟩
        have HST2 := hide hst2
        have z0 := blk_cell X10.out 0
        simp only [gets] at z0
        have SGN := hide (sign_any' bColon sg_colon H10.out)
        go_wp2_with fail
        refine SGN.out.mono ?_
        rintro e ws10 ⟨rfl, hs, gs⟩
        have H11 := hide hs
        have B11 := hide (gs.blkS (by have := DL.out; omega) B10.out)
        have X11 := hide (gs.blkS (by have := DL.out; omega) X10.out)
        have G11 := hide (G10.out.trans gs)
        have Z11 := hide (Nat.le_trans Z10.out gs.size)
        rw [hst2] at H11
        clear hst2
        have S11 := hide (S10.out.chg gs (fun x hx e => by have := hx.1; have := DL.out; omega) |>.up (Y := fun x => bo ≤ x ∧ x < ws10.heap.size ∧ u2.ownBlock ≠ some x) (fun x hx => ⟨hx.1, Nat.lt_of_lt_of_le hx.2.1 gs.size, hx.2.2⟩))
        have O11 := hide (own_chgS O10.out gs (fun x hx e => by have := DL.out; omega))
        have M11 := hide (M10.out.chg gs (fun x hx _ _ e => by have := DL.out; omega))
        clear hs gs SGN H10 B10 X10 S10 O10 M10 Z10 G10 z0
        have LAW := hide (fun n hn st3 h3 m hm => rlaw10 ts s (k + 1) st2 (by rw [HR1.out, HST1.out, HST2.out]) n hn st3 h3 m hm)
        rw [HR1.out, HNM.out] at LAW
        go_upto_region 32 with fail
        go_cut [2] (fun s2 wx => s2 = .pointer (some ⟨A, 0, none⟩) ∧ ∃ n1 : Nd, Hid (RN w wx tb v ts s A X bo 10 num (t2 : Int) (Rz.st (st2.bind (termS ts s 60))) ([]) [n1]) ∧ Hid (∀ q, st2.bind (termS ts s 60) = .ok q → n1 = q.1))
        case first =>
         go_wp2_with fail
         have z2 := blk_cell X11.out 2
         simp only [gets] at z2
         have e00 : ((0 : Nat) : Int) = 0 := rfl
         have AN := hide (fun w' (h : RS w' tb v ts s (st2)) => rterm_any 60 0 rfl st2 w' h)
         rw [e00] at AN
         have AN : Hid (∀ w', RS w' tb v ts s (st2) → Calls Try.prog 41 #[.pointer (some ⟨tb, 0, none⟩), .int .i64 0] w' (ROut w' tb v ts s (st2.bind (termS ts s 60)))) := AN
         clear e00
         refine wp_region_held_drew (S := (fun _ => True)) (by kernel_rfl) trivial (fun hHeld => ?_)
         refine tkl 0 ?_ ?_ ?_
         rotate_left
         ·
          intro w hSw
          go_simp <;> with_reducible rfl
         try simp only [Act.put, puts]
         refine tkl 2 ?_ ?_ ?_
         rotate_left
         ·
          intro w hSw
          go_simp <;> with_reducible rfl
         try simp only [Act.put, puts]
         refine wpAnyH_ready (rs := [1, 3]) (by kernel_rfl) (by simp) ?_
         refine AllReadyH.cons (i := 1) (o := _) rfl (fun K hK => ?_) ?_
         ·
          go_simp
          refine hK.out _ _ trivial (fun hHeld => ?_)
          clear hK K
          try simp only [Act.put, puts]
          refine rd1 3 (fun K hK => ?_)
          go_simp
          refine (AN.out ws10.drew (H11.out.chg ((Chg.refl (fun _ => False) ws10).drew) (fun _ _ h => h))).mono ?_
          rintro e v6 ⟨⟨un, nd, rfl, hm, hq⟩, h6, g6'⟩
          obtain ⟨m0, m1, m2, m3⟩ := nd
          obtain ⟨ma, mc, rfl, hm⟩ := hm
          dsimp only [Nd.kind, Nd.word, Nd.at, Nd.kids] at hm ⊢
          have HQN := hide hq
          have g6 := (Chg.refl (fun _ => False) ws10).drew.none.trans g6'
          have GA := al v6 (.cells #[.int .i64 m0, .string m1, .int .i64 m2, .slice ma m3.len mc] 55)
          have X6 := g6.blkS (by have := DL.out; omega) X11.out
          have X7 := GA.blk X6
          have z26 := blk_cell X6 2
          have z27 := blk_cell X7 2
          simp only [gets] at z26 z27
          have HX7 := hide X7
          have H7 := hide (h6.chg GA (fun _ _ h => h))
          have B7 := hide (GA.blk (g6.blkS (by have := DL.out; omega) B11.out))
          have S7 := (S11.out.chg g6 (fun x hx e => by have := hx.1; have := DL.out; omega)).chg GA (fun _ _ h => h)
          have O7 := hide (own_chgS (own_chgS O11.out g6 (fun x hx e => by have := DL.out; omega)) GA (fun _ _ h => h))
          have M7 := (M11.out.chg g6 (fun x hx _ _ e => by have := DL.out; omega)).chg GA (fun _ _ _ _ h => h)
          have RL := hide (fun r (e : u2.ownBlock = some r) => World.ownsRow.lt O11.out r e)
          have ZW := hide Z11.out
          have Z7 := hide (Nat.le_trans Z11.out (Nat.le_trans g6.size GA.size))
          have G7 := hide ((G11.out.trans g6).trans GA.none)
          have T7 := (hm.chg GA (fun _ _ h => h)).up (Y := fun x => bo ≤ x ∧ x < (v6.alloc (.cells #[.int .i64 m0, .string m1, .int .i64 m2, .slice ma m3.len mc] 55)).heap.size ∧ u2.ownBlock ≠ some x) (fun x hx => ⟨Nat.le_trans ZW.out hx.1, Nat.lt_of_lt_of_le hx.2 GA.size, fun e => by have h1 := (RL.out x e).2; have h3 : ws10.heap.size ≤ x := hx.1; omega⟩)
          have N7 := hide (M7.snoc (p := (m0, m1, m2, .slice ma m3.len mc)) (x := (m0, m1, m2, m3)) ⟨rfl, rfl, rfl, T7⟩)
          have S7 := hide (S7.up (Y := fun x => bo ≤ x ∧ x < (v6.alloc (.cells #[.int .i64 m0, .string m1, .int .i64 m2, .slice ma m3.len mc] 55)).heap.size ∧ u2.ownBlock ≠ some x) (fun x hx => ⟨hx.1, Nat.lt_of_lt_of_le hx.2.1 (Nat.le_trans g6.size GA.size), hx.2.2⟩))
          have NB := hide (World.news_of_block (cs := #[.int .i64 m0, .string m1, .int .i64 m2, .slice ma m3.len mc]) (t := 55) (fr := (0, 0)) (heap_alloc_new v6 _))
          clear hm hq h6 g6 g6' GA X6 X7 T7 M7 z2
          go_simp
          refine hK.out _ _ trivial (fun hHeld => ?_)
          clear hK K
          try simp only [Act.put, puts]
          refine rd1 4 (fun K hK => ?_)
          go_simp
          refine hK.out _ _ trivial (fun hHeld => ?_)
          clear hK K
          try simp only [Act.put, puts]
          refine rd1 5 (fun K hK => ?_)
          refine step_append_lies _ (by rfl) _ _ _ (by rfl) bo 55 j0 (.agg #[.int .i64 0, .string ⟨#[]⟩, .int .i64 0, .slice none 0 0]) 4 56 Try.underlying40 hj0 hy0 hy1 hy2 rfl (by omega) _ us.length (cellsN us) (by rfl) O7.out ⟨v6.heap.size, 0, none⟩ 1 1 [.int .i64 m0, .string m1, .int .i64 m2, .slice ma m3.len mc] (by rfl) (by rfl) NB.out (by simp [Value.oneCell']) (by have := LU.out; omega) (by have := LU.out; simp [maxLen]; omega) (by have := LU.out; omega) Z7.out (v6.heap.size + 1) (by simp) ?_
          intro gg cap2 v8 hown hgrow hgat hglt
          have T8 := (own_grow_chg O7.out hgrow).blkS (by have := DL.out; omega) HX7.out
          have fX8 := blk_free T8 2
          have zX8 := blk_cell T8 2
          simp only [gets] at zX8
          have F9 : Hid (RN w (v8.setCell ⟨X, 2, none⟩ (.slice (some ⟨gg, 0, none⟩) (us.length + 1) cap2)) tb v ts s A X bo 10 num (t2 : Int) (Rz.st (st2.bind (termS ts s 60))) ([]) (([] : List Nd) ++ [(m0, m1, m2, m3)])) := hide (rn_app DL.out HX7.out H7.out B7.out S7.out O7.out N7.out Z7.out G7.out hown hgrow hgat (al_sz _ _))
          clear T8 hown hgrow hgat hglt
          refine hK.out _ _ trivial (fun hHeld => ?_)
          clear hK K
          try simp only [Act.put, puts]
          refine tkl 6 ?_ ?_ ?_
          rotate_left
          ·
           intro w hSw
           go_simp <;> with_reducible rfl
          try simp only [Act.put, puts]
          refine rd1 7 (fun K hK => ?_)
          go_simp
          refine hK.out _ _ trivial (fun hHeld => ?_)
          clear hK K
          try simp only [Act.put, puts]
          refine wpAnyH_done (by kernel_rfl) ?_ _
          go_wp2_with fail
          go_meet
          exact ⟨rfl, _, F9, HQN⟩
         refine AllReadyH.cons (i := 3) (o := _) rfl (fun K hK => ?_) ?_
         rotate_left
         ·
          exact AllReadyH.nil
         go_simp
         refine (AN.out ws10.drew (H11.out.chg ((Chg.refl (fun _ => False) ws10).drew) (fun _ _ h => h))).mono ?_
         rintro e v6 ⟨⟨un, nd, rfl, hm, hq⟩, h6, g6'⟩
         obtain ⟨m0, m1, m2, m3⟩ := nd
         obtain ⟨ma, mc, rfl, hm⟩ := hm
         dsimp only [Nd.kind, Nd.word, Nd.at, Nd.kids] at hm ⊢
         have HQN := hide hq
         have g6 := (Chg.refl (fun _ => False) ws10).drew.none.trans g6'
         have GA := al v6 (.cells #[.int .i64 m0, .string m1, .int .i64 m2, .slice ma m3.len mc] 55)
         have X6 := g6.blkS (by have := DL.out; omega) X11.out
         have X7 := GA.blk X6
         have z26 := blk_cell X6 2
         have z27 := blk_cell X7 2
         simp only [gets] at z26 z27
         have HX7 := hide X7
         have H7 := hide (h6.chg GA (fun _ _ h => h))
         have B7 := hide (GA.blk (g6.blkS (by have := DL.out; omega) B11.out))
         have S7 := (S11.out.chg g6 (fun x hx e => by have := hx.1; have := DL.out; omega)).chg GA (fun _ _ h => h)
         have O7 := hide (own_chgS (own_chgS O11.out g6 (fun x hx e => by have := DL.out; omega)) GA (fun _ _ h => h))
         have M7 := (M11.out.chg g6 (fun x hx _ _ e => by have := DL.out; omega)).chg GA (fun _ _ _ _ h => h)
         have RL := hide (fun r (e : u2.ownBlock = some r) => World.ownsRow.lt O11.out r e)
         have ZW := hide Z11.out
         have Z7 := hide (Nat.le_trans Z11.out (Nat.le_trans g6.size GA.size))
         have G7 := hide ((G11.out.trans g6).trans GA.none)
         have T7 := (hm.chg GA (fun _ _ h => h)).up (Y := fun x => bo ≤ x ∧ x < (v6.alloc (.cells #[.int .i64 m0, .string m1, .int .i64 m2, .slice ma m3.len mc] 55)).heap.size ∧ u2.ownBlock ≠ some x) (fun x hx => ⟨Nat.le_trans ZW.out hx.1, Nat.lt_of_lt_of_le hx.2 GA.size, fun e => by have h1 := (RL.out x e).2; have h3 : ws10.heap.size ≤ x := hx.1; omega⟩)
         have N7 := hide (M7.snoc (p := (m0, m1, m2, .slice ma m3.len mc)) (x := (m0, m1, m2, m3)) ⟨rfl, rfl, rfl, T7⟩)
         have S7 := hide (S7.up (Y := fun x => bo ≤ x ∧ x < (v6.alloc (.cells #[.int .i64 m0, .string m1, .int .i64 m2, .slice ma m3.len mc] 55)).heap.size ∧ u2.ownBlock ≠ some x) (fun x hx => ⟨hx.1, Nat.lt_of_lt_of_le hx.2.1 (Nat.le_trans g6.size GA.size), hx.2.2⟩))
         have NB := hide (World.news_of_block (cs := #[.int .i64 m0, .string m1, .int .i64 m2, .slice ma m3.len mc]) (t := 55) (fr := (0, 0)) (heap_alloc_new v6 _))
         clear hm hq h6 g6 g6' GA X6 X7 T7 M7 z2
         go_simp
         refine hK.out _ _ trivial (fun hHeld => ?_)
         clear hK K
         try simp only [Act.put, puts]
         refine wpAnyH_ready (rs := [1, 4]) (by kernel_rfl) (by simp) ?_
         refine AllReadyH.cons (i := 1) (o := _) rfl (fun K hK => ?_) ?_
         ·
          go_simp
          refine hK.out _ _ trivial (fun hHeld => ?_)
          clear hK K
          try simp only [Act.put, puts]
          refine rd1 4 (fun K hK => ?_)
          go_simp
          refine hK.out _ _ trivial (fun hHeld => ?_)
          clear hK K
          try simp only [Act.put, puts]
          refine rd1 5 (fun K hK => ?_)
          refine step_append_lies _ (by rfl) _ _ _ (by rfl) bo 55 j0 (.agg #[.int .i64 0, .string ⟨#[]⟩, .int .i64 0, .slice none 0 0]) 4 56 Try.underlying40 hj0 hy0 hy1 hy2 rfl (by omega) _ us.length (cellsN us) (by rfl) O7.out ⟨v6.heap.size, 0, none⟩ 1 1 [.int .i64 m0, .string m1, .int .i64 m2, .slice ma m3.len mc] (by rfl) (by rfl) NB.out (by simp [Value.oneCell']) (by have := LU.out; omega) (by have := LU.out; simp [maxLen]; omega) (by have := LU.out; omega) Z7.out (v6.heap.size + 1) (by simp) ?_
          intro gg cap2 v8 hown hgrow hgat hglt
          have T8 := (own_grow_chg O7.out hgrow).blkS (by have := DL.out; omega) HX7.out
          have fX8 := blk_free T8 2
          have zX8 := blk_cell T8 2
          simp only [gets] at zX8
          have F9 : Hid (RN w (v8.setCell ⟨X, 2, none⟩ (.slice (some ⟨gg, 0, none⟩) (us.length + 1) cap2)) tb v ts s A X bo 10 num (t2 : Int) (Rz.st (st2.bind (termS ts s 60))) ([]) (([] : List Nd) ++ [(m0, m1, m2, m3)])) := hide (rn_app DL.out HX7.out H7.out B7.out S7.out O7.out N7.out Z7.out G7.out hown hgrow hgat (al_sz _ _))
          clear T8 hown hgrow hgat hglt
          refine hK.out _ _ trivial (fun hHeld => ?_)
          clear hK K
          try simp only [Act.put, puts]
          refine tkl 6 ?_ ?_ ?_
          rotate_left
          ·
           intro w hSw
           go_simp <;> with_reducible rfl
          try simp only [Act.put, puts]
          refine rd1 7 (fun K hK => ?_)
          go_simp
          refine hK.out _ _ trivial (fun hHeld => ?_)
          clear hK K
          try simp only [Act.put, puts]
          refine wpAnyH_done (by kernel_rfl) ?_ _
          go_wp2_with fail
          go_meet
          exact ⟨rfl, _, F9, HQN⟩
         refine AllReadyH.cons (i := 4) (o := _) rfl (fun K hK => ?_) ?_
         rotate_left
         ·
          exact AllReadyH.nil
         go_simp
         refine hK.out _ _ trivial (fun hHeld => ?_)
         clear hK K
         try simp only [Act.put, puts]
         refine rd1 1 (fun K hK => ?_)
         go_simp
         refine hK.out _ _ trivial (fun hHeld => ?_)
         clear hK K
         try simp only [Act.put, puts]
         refine rd1 5 (fun K hK => ?_)
         refine step_append_lies _ (by rfl) _ _ _ (by rfl) bo 55 j0 (.agg #[.int .i64 0, .string ⟨#[]⟩, .int .i64 0, .slice none 0 0]) 4 56 Try.underlying40 hj0 hy0 hy1 hy2 rfl (by omega) _ us.length (cellsN us) (by rfl) O7.out ⟨v6.heap.size, 0, none⟩ 1 1 [.int .i64 m0, .string m1, .int .i64 m2, .slice ma m3.len mc] (by rfl) (by rfl) NB.out (by simp [Value.oneCell']) (by have := LU.out; omega) (by have := LU.out; simp [maxLen]; omega) (by have := LU.out; omega) Z7.out (v6.heap.size + 1) (by simp) ?_
         intro gg cap2 v8 hown hgrow hgat hglt
         have T8 := (own_grow_chg O7.out hgrow).blkS (by have := DL.out; omega) HX7.out
         have fX8 := blk_free T8 2
         have zX8 := blk_cell T8 2
         simp only [gets] at zX8
         have F9 : Hid (RN w (v8.setCell ⟨X, 2, none⟩ (.slice (some ⟨gg, 0, none⟩) (us.length + 1) cap2)) tb v ts s A X bo 10 num (t2 : Int) (Rz.st (st2.bind (termS ts s 60))) ([]) (([] : List Nd) ++ [(m0, m1, m2, m3)])) := hide (rn_app DL.out HX7.out H7.out B7.out S7.out O7.out N7.out Z7.out G7.out hown hgrow hgat (al_sz _ _))
         clear T8 hown hgrow hgat hglt
         refine hK.out _ _ trivial (fun hHeld => ?_)
         clear hK K
         try simp only [Act.put, puts]
         refine tkl 6 ?_ ?_ ?_
         rotate_left
         ·
          intro w hSw
          go_simp <;> with_reducible rfl
         try simp only [Act.put, puts]
         refine rd1 7 (fun K hK => ?_)
         go_simp
         refine hK.out _ _ trivial (fun hHeld => ?_)
         clear hK K
         try simp only [Act.put, puts]
         refine wpAnyH_done (by kernel_rfl) ?_ _
         go_wp2_with fail
         go_meet
         exact ⟨rfl, _, F9, HQN⟩
        case rest =>
         obtain ⟨rfl, n1, hRN, HQ1⟩ := hcut
         clear H11 B11 X11 S11 O11 M11 Z11 G11 LU
         generalize wc = w12 at *
         obtain ⟨v1, u2, us, H12, B12, X12, S12, O12, M12, Z12, G12⟩ := hRN.out
         have LU : Hid (us.length ≤ 100000) := hide (by rw [M12.out.1]; show 1 ≤ 100000; omega)
         obtain ⟨st3, hst3⟩ : ∃ st3, (Rz.st (st2.bind (termS ts s 60))).then (mustS ts s bEq) = st3 := ⟨_, rfl⟩
         have HST3 := hide hst3.symm
         have z0 := blk_cell X12.out 0
         simp only [gets] at z0
         have SGN := hide (sign_any' bEq sg_eq H12.out)
         go_wp2_with fail
         refine SGN.out.mono ?_
         rintro e ws12 ⟨rfl, hs, gs⟩
         have H13 := hide hs
         have B13 := hide (gs.blkS (by have := DL.out; omega) B12.out)
         have X13 := hide (gs.blkS (by have := DL.out; omega) X12.out)
         have G13 := hide (G12.out.trans gs)
         have Z13 := hide (Nat.le_trans Z12.out gs.size)
         rw [hst3] at H13
         clear hst3 hRN
         have S13 := hide (S12.out.chg gs (fun x hx e => by have := hx.1; have := DL.out; omega) |>.up (Y := fun x => bo ≤ x ∧ x < ws12.heap.size ∧ u2.ownBlock ≠ some x) (fun x hx => ⟨hx.1, Nat.lt_of_lt_of_le hx.2.1 gs.size, hx.2.2⟩))
         have O13 := hide (own_chgS O12.out gs (fun x hx e => by have := DL.out; omega))
         have M13 := hide (M12.out.chg gs (fun x hx _ _ e => by have := DL.out; omega))
         clear hs gs SGN H12 B12 X12 S12 O12 M12 Z12 G12 z0
         have z0 := blk_cell X13.out 0
         simp only [gets] at z0
         go_wp2_with fail
         have z2 := blk_cell X13.out 2
         simp only [gets] at z2
         have e00 : ((0 : Nat) : Int) = 0 := rfl
         have AN := hide (fun w' (h : RS w' tb v ts s (st3)) => rterm_any 60 0 rfl st3 w' h)
         rw [e00] at AN
         have AN : Hid (∀ w', RS w' tb v ts s (st3) → Calls Try.prog 41 #[.pointer (some ⟨tb, 0, none⟩), .int .i64 0] w' (ROut w' tb v ts s (st3.bind (termS ts s 60)))) := AN
         clear e00
         refine wp_region_held_drew (S := (fun _ => True)) (by kernel_rfl) trivial (fun hHeld => ?_)
         refine tkl 0 ?_ ?_ ?_
         rotate_left
         ·
          intro w hSw
          go_simp <;> with_reducible rfl
         try simp only [Act.put, puts]
         refine tkl 2 ?_ ?_ ?_
         rotate_left
         ·
          intro w hSw
          go_simp <;> with_reducible rfl
         try simp only [Act.put, puts]
         refine wpAnyH_ready (rs := [1, 3]) (by kernel_rfl) (by simp) ?_
         refine AllReadyH.cons (i := 1) (o := _) rfl (fun K hK => ?_) ?_
         ·
          go_simp
          refine hK.out _ _ trivial (fun hHeld => ?_)
          clear hK K
          try simp only [Act.put, puts]
          refine rd1 3 (fun K hK => ?_)
          go_simp
          refine (AN.out ws12.drew (H13.out.chg ((Chg.refl (fun _ => False) ws12).drew) (fun _ _ h => h))).mono ?_
          rintro e v6 ⟨⟨un, nd, rfl, hm, hq⟩, h6, g6'⟩
          obtain ⟨m0, m1, m2, m3⟩ := nd
          obtain ⟨ma, mc, rfl, hm⟩ := hm
          dsimp only [Nd.kind, Nd.word, Nd.at, Nd.kids] at hm ⊢
          have HQN := hide hq
          have g6 := (Chg.refl (fun _ => False) ws12).drew.none.trans g6'
          have GA := al v6 (.cells #[.int .i64 m0, .string m1, .int .i64 m2, .slice ma m3.len mc] 55)
          have X6 := g6.blkS (by have := DL.out; omega) X13.out
          have X7 := GA.blk X6
          have z26 := blk_cell X6 2
          have z27 := blk_cell X7 2
          simp only [gets] at z26 z27
          have HX7 := hide X7
          have H7 := hide (h6.chg GA (fun _ _ h => h))
          have B7 := hide (GA.blk (g6.blkS (by have := DL.out; omega) B13.out))
          have S7 := (S13.out.chg g6 (fun x hx e => by have := hx.1; have := DL.out; omega)).chg GA (fun _ _ h => h)
          have O7 := hide (own_chgS (own_chgS O13.out g6 (fun x hx e => by have := DL.out; omega)) GA (fun _ _ h => h))
          have M7 := (M13.out.chg g6 (fun x hx _ _ e => by have := DL.out; omega)).chg GA (fun _ _ _ _ h => h)
          have RL := hide (fun r (e : u2.ownBlock = some r) => World.ownsRow.lt O13.out r e)
          have ZW := hide Z13.out
          have Z7 := hide (Nat.le_trans Z13.out (Nat.le_trans g6.size GA.size))
          have G7 := hide ((G13.out.trans g6).trans GA.none)
          have T7 := (hm.chg GA (fun _ _ h => h)).up (Y := fun x => bo ≤ x ∧ x < (v6.alloc (.cells #[.int .i64 m0, .string m1, .int .i64 m2, .slice ma m3.len mc] 55)).heap.size ∧ u2.ownBlock ≠ some x) (fun x hx => ⟨Nat.le_trans ZW.out hx.1, Nat.lt_of_lt_of_le hx.2 GA.size, fun e => by have h1 := (RL.out x e).2; have h3 : ws12.heap.size ≤ x := hx.1; omega⟩)
          have N7 := hide (M7.snoc (p := (m0, m1, m2, .slice ma m3.len mc)) (x := (m0, m1, m2, m3)) ⟨rfl, rfl, rfl, T7⟩)
          have S7 := hide (S7.up (Y := fun x => bo ≤ x ∧ x < (v6.alloc (.cells #[.int .i64 m0, .string m1, .int .i64 m2, .slice ma m3.len mc] 55)).heap.size ∧ u2.ownBlock ≠ some x) (fun x hx => ⟨hx.1, Nat.lt_of_lt_of_le hx.2.1 (Nat.le_trans g6.size GA.size), hx.2.2⟩))
          have NB := hide (World.news_of_block (cs := #[.int .i64 m0, .string m1, .int .i64 m2, .slice ma m3.len mc]) (t := 55) (fr := (0, 0)) (heap_alloc_new v6 _))
          clear hm hq h6 g6 g6' GA X6 X7 T7 M7 z2
          go_simp
          refine hK.out _ _ trivial (fun hHeld => ?_)
          clear hK K
          try simp only [Act.put, puts]
          refine rd1 4 (fun K hK => ?_)
          go_simp
          refine hK.out _ _ trivial (fun hHeld => ?_)
          clear hK K
          try simp only [Act.put, puts]
          refine rd1 5 (fun K hK => ?_)
          refine step_append_lies _ (by rfl) _ _ _ (by rfl) bo 55 j0 (.agg #[.int .i64 0, .string ⟨#[]⟩, .int .i64 0, .slice none 0 0]) 4 56 Try.underlying40 hj0 hy0 hy1 hy2 rfl (by omega) _ us.length (cellsN us) (by rfl) O7.out ⟨v6.heap.size, 0, none⟩ 1 1 [.int .i64 m0, .string m1, .int .i64 m2, .slice ma m3.len mc] (by rfl) (by rfl) NB.out (by simp [Value.oneCell']) (by have := LU.out; omega) (by have := LU.out; simp [maxLen]; omega) (by have := LU.out; omega) Z7.out (v6.heap.size + 1) (by simp) ?_
          intro gg cap2 v8 hown hgrow hgat hglt
          have T8 := (own_grow_chg O7.out hgrow).blkS (by have := DL.out; omega) HX7.out
          have fX8 := blk_free T8 2
          have zX8 := blk_cell T8 2
          simp only [gets] at zX8
          have F9 : Hid (RN w (v8.setCell ⟨X, 2, none⟩ (.slice (some ⟨gg, 0, none⟩) (us.length + 1) cap2)) tb v ts s A X bo 10 num (t2 : Int) (Rz.st (st3.bind (termS ts s 60))) ([]) (([n1] : List Nd) ++ [(m0, m1, m2, m3)])) := hide (rn_app DL.out HX7.out H7.out B7.out S7.out O7.out N7.out Z7.out G7.out hown hgrow hgat (al_sz _ _))
          clear T8 hown hgrow hgat hglt
          refine hK.out _ _ trivial (fun hHeld => ?_)
          clear hK K
          try simp only [Act.put, puts]
          refine tkl 6 ?_ ?_ ?_
          rotate_left
          ·
           intro w hSw
           go_simp <;> with_reducible rfl
          try simp only [Act.put, puts]
          refine rd1 7 (fun K hK => ?_)
          go_simp
          refine hK.out _ _ trivial (fun hHeld => ?_)
          clear hK K
          try simp only [Act.put, puts]
          refine wpAnyH_done (by kernel_rfl) ?_ _
          go_wp2_with fail
          go_meet
          exact ⟨rfl, hide ⟨[], _, num, _, F9, hide (LAW.out n1 HQ1.out st3 HST3.out _ HQN.out).1, hide (LAW.out n1 HQ1.out st3 HST3.out _ HQN.out).2⟩⟩
         refine AllReadyH.cons (i := 3) (o := _) rfl (fun K hK => ?_) ?_
         rotate_left
         ·
          exact AllReadyH.nil
         go_simp
         refine (AN.out ws12.drew (H13.out.chg ((Chg.refl (fun _ => False) ws12).drew) (fun _ _ h => h))).mono ?_
         rintro e v6 ⟨⟨un, nd, rfl, hm, hq⟩, h6, g6'⟩
         obtain ⟨m0, m1, m2, m3⟩ := nd
         obtain ⟨ma, mc, rfl, hm⟩ := hm
         dsimp only [Nd.kind, Nd.word, Nd.at, Nd.kids] at hm ⊢
         have HQN := hide hq
         have g6 := (Chg.refl (fun _ => False) ws12).drew.none.trans g6'
         have GA := al v6 (.cells #[.int .i64 m0, .string m1, .int .i64 m2, .slice ma m3.len mc] 55)
         have X6 := g6.blkS (by have := DL.out; omega) X13.out
         have X7 := GA.blk X6
         have z26 := blk_cell X6 2
         have z27 := blk_cell X7 2
         simp only [gets] at z26 z27
         have HX7 := hide X7
         have H7 := hide (h6.chg GA (fun _ _ h => h))
         have B7 := hide (GA.blk (g6.blkS (by have := DL.out; omega) B13.out))
         have S7 := (S13.out.chg g6 (fun x hx e => by have := hx.1; have := DL.out; omega)).chg GA (fun _ _ h => h)
         have O7 := hide (own_chgS (own_chgS O13.out g6 (fun x hx e => by have := DL.out; omega)) GA (fun _ _ h => h))
         have M7 := (M13.out.chg g6 (fun x hx _ _ e => by have := DL.out; omega)).chg GA (fun _ _ _ _ h => h)
         have RL := hide (fun r (e : u2.ownBlock = some r) => World.ownsRow.lt O13.out r e)
         have ZW := hide Z13.out
         have Z7 := hide (Nat.le_trans Z13.out (Nat.le_trans g6.size GA.size))
         have G7 := hide ((G13.out.trans g6).trans GA.none)
         have T7 := (hm.chg GA (fun _ _ h => h)).up (Y := fun x => bo ≤ x ∧ x < (v6.alloc (.cells #[.int .i64 m0, .string m1, .int .i64 m2, .slice ma m3.len mc] 55)).heap.size ∧ u2.ownBlock ≠ some x) (fun x hx => ⟨Nat.le_trans ZW.out hx.1, Nat.lt_of_lt_of_le hx.2 GA.size, fun e => by have h1 := (RL.out x e).2; have h3 : ws12.heap.size ≤ x := hx.1; omega⟩)
         have N7 := hide (M7.snoc (p := (m0, m1, m2, .slice ma m3.len mc)) (x := (m0, m1, m2, m3)) ⟨rfl, rfl, rfl, T7⟩)
         have S7 := hide (S7.up (Y := fun x => bo ≤ x ∧ x < (v6.alloc (.cells #[.int .i64 m0, .string m1, .int .i64 m2, .slice ma m3.len mc] 55)).heap.size ∧ u2.ownBlock ≠ some x) (fun x hx => ⟨hx.1, Nat.lt_of_lt_of_le hx.2.1 (Nat.le_trans g6.size GA.size), hx.2.2⟩))
         have NB := hide (World.news_of_block (cs := #[.int .i64 m0, .string m1, .int .i64 m2, .slice ma m3.len mc]) (t := 55) (fr := (0, 0)) (heap_alloc_new v6 _))
         clear hm hq h6 g6 g6' GA X6 X7 T7 M7 z2
         go_simp
         refine hK.out _ _ trivial (fun hHeld => ?_)
         clear hK K
         try simp only [Act.put, puts]
         refine wpAnyH_ready (rs := [1, 4]) (by kernel_rfl) (by simp) ?_
         refine AllReadyH.cons (i := 1) (o := _) rfl (fun K hK => ?_) ?_
         ·
          go_simp
          refine hK.out _ _ trivial (fun hHeld => ?_)
          clear hK K
          try simp only [Act.put, puts]
          refine rd1 4 (fun K hK => ?_)
          go_simp
          refine hK.out _ _ trivial (fun hHeld => ?_)
          clear hK K
          try simp only [Act.put, puts]
          refine rd1 5 (fun K hK => ?_)
          refine step_append_lies _ (by rfl) _ _ _ (by rfl) bo 55 j0 (.agg #[.int .i64 0, .string ⟨#[]⟩, .int .i64 0, .slice none 0 0]) 4 56 Try.underlying40 hj0 hy0 hy1 hy2 rfl (by omega) _ us.length (cellsN us) (by rfl) O7.out ⟨v6.heap.size, 0, none⟩ 1 1 [.int .i64 m0, .string m1, .int .i64 m2, .slice ma m3.len mc] (by rfl) (by rfl) NB.out (by simp [Value.oneCell']) (by have := LU.out; omega) (by have := LU.out; simp [maxLen]; omega) (by have := LU.out; omega) Z7.out (v6.heap.size + 1) (by simp) ?_
          intro gg cap2 v8 hown hgrow hgat hglt
          have T8 := (own_grow_chg O7.out hgrow).blkS (by have := DL.out; omega) HX7.out
          have fX8 := blk_free T8 2
          have zX8 := blk_cell T8 2
          simp only [gets] at zX8
          have F9 : Hid (RN w (v8.setCell ⟨X, 2, none⟩ (.slice (some ⟨gg, 0, none⟩) (us.length + 1) cap2)) tb v ts s A X bo 10 num (t2 : Int) (Rz.st (st3.bind (termS ts s 60))) ([]) (([n1] : List Nd) ++ [(m0, m1, m2, m3)])) := hide (rn_app DL.out HX7.out H7.out B7.out S7.out O7.out N7.out Z7.out G7.out hown hgrow hgat (al_sz _ _))
          clear T8 hown hgrow hgat hglt
          refine hK.out _ _ trivial (fun hHeld => ?_)
          clear hK K
          try simp only [Act.put, puts]
          refine tkl 6 ?_ ?_ ?_
          rotate_left
          ·
           intro w hSw
           go_simp <;> with_reducible rfl
          try simp only [Act.put, puts]
          refine rd1 7 (fun K hK => ?_)
          go_simp
          refine hK.out _ _ trivial (fun hHeld => ?_)
          clear hK K
          try simp only [Act.put, puts]
          refine wpAnyH_done (by kernel_rfl) ?_ _
          go_wp2_with fail
          go_meet
          exact ⟨rfl, hide ⟨[], _, num, _, F9, hide (LAW.out n1 HQ1.out st3 HST3.out _ HQN.out).1, hide (LAW.out n1 HQ1.out st3 HST3.out _ HQN.out).2⟩⟩
         refine AllReadyH.cons (i := 4) (o := _) rfl (fun K hK => ?_) ?_
         rotate_left
         ·
          exact AllReadyH.nil
         go_simp
         refine hK.out _ _ trivial (fun hHeld => ?_)
         clear hK K
         try simp only [Act.put, puts]
         refine rd1 1 (fun K hK => ?_)
         go_simp
         refine hK.out _ _ trivial (fun hHeld => ?_)
         clear hK K
         try simp only [Act.put, puts]
         refine rd1 5 (fun K hK => ?_)
         refine step_append_lies _ (by rfl) _ _ _ (by rfl) bo 55 j0 (.agg #[.int .i64 0, .string ⟨#[]⟩, .int .i64 0, .slice none 0 0]) 4 56 Try.underlying40 hj0 hy0 hy1 hy2 rfl (by omega) _ us.length (cellsN us) (by rfl) O7.out ⟨v6.heap.size, 0, none⟩ 1 1 [.int .i64 m0, .string m1, .int .i64 m2, .slice ma m3.len mc] (by rfl) (by rfl) NB.out (by simp [Value.oneCell']) (by have := LU.out; omega) (by have := LU.out; simp [maxLen]; omega) (by have := LU.out; omega) Z7.out (v6.heap.size + 1) (by simp) ?_
         intro gg cap2 v8 hown hgrow hgat hglt
         have T8 := (own_grow_chg O7.out hgrow).blkS (by have := DL.out; omega) HX7.out
         have fX8 := blk_free T8 2
         have zX8 := blk_cell T8 2
         simp only [gets] at zX8
         have F9 : Hid (RN w (v8.setCell ⟨X, 2, none⟩ (.slice (some ⟨gg, 0, none⟩) (us.length + 1) cap2)) tb v ts s A X bo 10 num (t2 : Int) (Rz.st (st3.bind (termS ts s 60))) ([]) (([n1] : List Nd) ++ [(m0, m1, m2, m3)])) := hide (rn_app DL.out HX7.out H7.out B7.out S7.out O7.out N7.out Z7.out G7.out hown hgrow hgat (al_sz _ _))
         clear T8 hown hgrow hgat hglt
         refine hK.out _ _ trivial (fun hHeld => ?_)
         clear hK K
         try simp only [Act.put, puts]
         refine tkl 6 ?_ ?_ ?_
         rotate_left
         ·
          intro w hSw
          go_simp <;> with_reducible rfl
         try simp only [Act.put, puts]
         refine rd1 7 (fun K hK => ?_)
         go_simp
         refine hK.out _ _ trivial (fun hHeld => ?_)
         clear hK K
         try simp only [Act.put, puts]
         refine wpAnyH_done (by kernel_rfl) ?_ _
         go_wp2_with fail
         go_meet
         exact ⟨rfl, hide ⟨[], _, num, _, F9, hide (LAW.out n1 HQ1.out st3 HST3.out _ HQN.out).1, hide (LAW.out n1 HQ1.out st3 HST3.out _ HQN.out).2⟩⟩
       ·
        have LAW := hide (rlawN ts s 11 (by decide) (k + 1))
        rw [HR1.out, HNM.out, HST1.out] at LAW
        go_wp2_with fail
        go_meet
        exact ⟨rfl, hide ⟨[], [], num, st1, NN, hide LAW.out.1, hide LAW.out.2⟩⟩
     case rest =>
      obtain ⟨rfl, hM⟩ := hcut
      clear z0 hST HBB
      generalize wc = w9 at *
      obtain ⟨l, ns, num, st, HRN, HST, Q6⟩ := hM.out
      obtain ⟨u1, u2, us, H6, B6, X6, S6, O6, M6, Z6, G6⟩ := HRN.out
      obtain ⟨a1, c1, rfl⟩ : ∃ a1 c1, u1 = Value.slice a1 l.length c1 := by obtain ⟨a, c, e, _⟩ := S6.out; exact ⟨a, c, e⟩
      have N6 := hide (sameN_ts O6.out M6.out)
      obtain ⟨a2, c2, rfl⟩ : ∃ a2 c2, u2 = Value.slice a2 (Ns.ofL ns).len c2 := by obtain ⟨a, c, e, _⟩ := N6.out; exact ⟨a, c, e⟩
      clear hM HRN
      have MU := hide (sign_any' bSemi sg_semi H6.out)
      have LAW : Hid ((st.then (mustS ts s bSemi)) = (itemS ts s k).st ∧ ∀ q, itemS ts s k = .ok q → ((kd, l, Ns.ofL ns, num, (t2 : Int)) : It) = q.1) := hide (by
       rw [HI.out, HST.out]
       have hq := Q6.out
       cases hb : bodyS ts s kd (k + 1) with
       | error x => exact ⟨rfl, fun q hq => by cases hq⟩
       | ok p =>
         have e := hq p hb
         simp only [Rz.st, St.then, Rz.bind]
         cases mustS ts s bSemi p.2 with
         | error x => exact ⟨rfl, fun q hq => by cases hq⟩
         | ok k2 => exact ⟨rfl, fun q hq => by cases hq; rw [← e]⟩)
      rw [LAW.out.1] at MU
      clear Q6 HST
      generalize Ns.ofL ns = nn at *
      go_wp2_with fail
      refine MU.out.mono ?_
      rintro e wf ⟨rfl, hf, gf⟩
      have HF := hide hf
      have BF := hide (gf.blkS (by have := DL.out; omega) B6.out)
      have XF := hide (gf.blkS (by have := DL.out; omega) X6.out)
      have GF := hide (G6.out.trans gf)
      have SF := hide (S6.out.chg gf (fun x hx e => by have := hx.1; have := DL.out; omega))
      have NF := hide (N6.out.chg gf (fun x hx e => by have := hx.1; have := DL.out; omega))
      have SZ := hide gf.size
      have z0 := blk_cell XF.out 0
      have z1 := blk_cell XF.out 1
      have z2 := blk_cell XF.out 2
      have z3 := blk_cell XF.out 3
      have z4 := blk_cell XF.out 4
      simp only [gets] at z0 z1 z2 z3 z4
      clear hf gf MU O6 M6
      have b0 := blk_cell BF.out 0
      have f0 := blk_free BF.out 0
      have b1 := blk_cell BF.out 1
      have f1 := blk_free BF.out 1
      have b2 := blk_cell BF.out 2
      have f2 := blk_free BF.out 2
      have b3 := blk_cell BF.out 3
      have f3 := blk_free BF.out 3
      have b4 := blk_cell BF.out 4
      have f4 := blk_free BF.out 4
      simp only [gets] at b0 b1 b2 b3 b4
      go_wp2_with fail
      clear b0 b1 b2 b3 b4 f0 f1 f2 f3 f4
      have NS : Hid ((((((wf.setCell ⟨A, 0, none⟩ (.int .i64 kd)).setCell ⟨A, 1, none⟩ (.slice a1 l.length c1)).setCell ⟨A, 2, none⟩ (.slice a2 nn.len c2)).setCell ⟨A, 3, none⟩ (.int .i64 num)).setCell ⟨A, 4, none⟩ (.int .i64 (t2 : Int))).heap[A]? = some (.cells #[.int .i64 kd, .slice a1 l.length c1, .slice a2 nn.len c2, .int .i64 num, .int .i64 (t2 : Int)] 42) ∧ Chg (fun x => x = A) wf (((((wf.setCell ⟨A, 0, none⟩ (.int .i64 kd)).setCell ⟨A, 1, none⟩ (.slice a1 l.length c1)).setCell ⟨A, 2, none⟩ (.slice a2 nn.len c2)).setCell ⟨A, 3, none⟩ (.int .i64 num)).setCell ⟨A, 4, none⟩ (.int .i64 (t2 : Int)))) := hide ⟨(blk_set (blk_set (blk_set (blk_set (blk_set BF.out 0 (.int .i64 kd)) 1 (.slice a1 l.length c1)) 2 (.slice a2 nn.len c2)) 3 (.int .i64 num)) 4 (.int .i64 (t2 : Int))), (((((Chg.set wf A 0 (.int .i64 kd)).trans (Chg.set (wf.setCell ⟨A, 0, none⟩ (.int .i64 kd)) A 1 (.slice a1 l.length c1))).trans (Chg.set ((wf.setCell ⟨A, 0, none⟩ (.int .i64 kd)).setCell ⟨A, 1, none⟩ (.slice a1 l.length c1)) A 2 (.slice a2 nn.len c2))).trans (Chg.set (((wf.setCell ⟨A, 0, none⟩ (.int .i64 kd)).setCell ⟨A, 1, none⟩ (.slice a1 l.length c1)).setCell ⟨A, 2, none⟩ (.slice a2 nn.len c2)) A 3 (.int .i64 num))).trans (Chg.set ((((wf.setCell ⟨A, 0, none⟩ (.int .i64 kd)).setCell ⟨A, 1, none⟩ (.slice a1 l.length c1)).setCell ⟨A, 2, none⟩ (.slice a2 nn.len c2)).setCell ⟨A, 3, none⟩ (.int .i64 num)) A 4 (.int .i64 (t2 : Int))))⟩
      have FS := hide (HF.out.chg NS.out.2 (fun x hx e => by have := DL.out; omega))
      have CS := hide (rchg_fresh GF.out NS.out.2 (by have := DL.out; omega))
      generalize (((((wf.setCell ⟨A, 0, none⟩ (.int .i64 kd)).setCell ⟨A, 1, none⟩ (.slice a1 l.length c1)).setCell ⟨A, 2, none⟩ (.slice a2 nn.len c2)).setCell ⟨A, 3, none⟩ (.int .i64 num)).setCell ⟨A, 4, none⟩ (.int .i64 (t2 : Int))) = wF at *
      have r0 := blk_cell NS.out.1 0
      have r1 := blk_cell NS.out.1 1
      have r2 := blk_cell NS.out.1 2
      have r3 := blk_cell NS.out.1 3
      have r4 := blk_cell NS.out.1 4
      refine bodyPost_ret (v := .agg #[.int .i64 kd, .slice a1 l.length c1, .slice a2 nn.len c2, .int .i64 num, .int .i64 (t2 : Int)]) (by simp [results, Try.results37, go_sem, r0, r1, r2, r3, r4]) rfl ?_
      have S8 := SF.out.chg NS.out.2 (fun x hx e => by have := hx.1; have := DL.out; omega)
      have N8 := NF.out.chg NS.out.2 (fun x hx e => by have := hx.1; have := DL.out; omega)
      exact ⟨⟨_, ((kd, l, nn, num, (t2 : Int)) : It), rfl, ⟨_, _, rfl, S8.up (fun x hx => ⟨by have := hx.1; have := DL.out; omega, by have h1 := NS.out.2.size; have h2 := SZ.out; have := hx.2.1; omega⟩), N8.up (fun x hx => ⟨by have := hx.1; have := DL.out; omega, by have h1 := NS.out.2.size; have h2 := SZ.out; have := hx.2; omega⟩)⟩, LAW.out.2⟩, FS.out, CS.out⟩
 ·
  have e1 : (t0 == 1) = false := by simpa using h1
  have HR : Hid (itemS ts s k = .error (3, k)) := hide (by unfold itemS; rw [HT.out, if_pos (Or.inl h1)])
  have H1 := hide h1
  clear h1 KB HK HT RK WD
  exact absurd HGRP.out.1 H1.out
end Go.Proofs.Ytboeeaekhijboaa
