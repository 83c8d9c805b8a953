/- The document's parser: item. -/
import Derived.Test.YtboeeaekhijboaaShort
import Derived.Test.YtboeeaekhijboaaPrilaw
import Derived.Test.YtboeeaekhijboaaPterms
import Derived.Deep.CutBlock
import Derived.Deep.LoopGhost
namespace Go.Proofs.Ytboeeaekhijboaa
open Go.RowKit
set_option linter.unusedVariables false
set_option linter.unusedSimpArgs false

set_option maxRecDepth 100000 in
set_option maxHeartbeats 32000000 in
theorem ritem_l {tb : Nat} {v : Value} {ts : List Tok} {s : ByteArray} {k : Nat} {w : World} (hnum : ∀ t ∈ ts, t.1 = 2 → numB t.2.1 = true) (hkl : k < ts.length) (hgrp : (tokAt ts s k 0).1 = 1 ∧ (kindOf (tokAt ts s k 0).2.1 = 1 ∨ kindOf (tokAt ts s k 0).2.1 = 6)) (h : RS w tb v ts s (.ok k)) :
  Calls Try.prog 37 #[.pointer (some ⟨tb, 0, none⟩)] w (RIOut w tb v ts s (itemS ts s k)) := by
 obtain ⟨i0, hi0, hz0, hz1, hz2⟩ := info_parts info9
 have G0 := hide (al w (.cells #[.int .i64 0, .slice none 0 0, .slice none 0 0, .int .i64 0, .int .i64 0] 42))
 have B0 := hide (blk_new w (.cells #[.int .i64 0, .slice none 0 0, .slice none 0 0, .int .i64 0, .int .i64 0] 42))
 have H0 := hide (h.chg G0.out (fun _ _ h => h))
 have hl := h.lt
 have HN := hide h.env.len
 have HNUM := hide hnum
 have HKL := hide hkl
 have AT := hide (rat_any H0.out)
 have AT : Hid (Calls Try.prog 67 #[.pointer (some ⟨tb, 0, none⟩)] (w.alloc (.cells #[.int .i64 0, .slice none 0 0, .slice none 0 0, .int .i64 0, .int .i64 0] 42)) fun e w' => e = .returned (.int .i64 ((tokAt ts s k 0).2.2 : Int)) ∧ Chg (fun _ => False) (w.alloc (.cells #[.int .i64 0, .slice none 0 0, .slice none 0 0, .int .i64 0, .int .i64 0] 42)) w') := AT
 have KD := hide (fun w h => kind_any (tb := tb) (v := v) (ts := ts) (s := s) (st := .ok k) (w := w) h)
 have KD : Hid (∀ w, RS w tb v ts s (.ok k) → Calls Try.prog 68 #[.pointer (some ⟨tb, 0, none⟩)] w fun e w' => e = .returned (.int .i64 (tokAt ts s k 0).1) ∧ Chg (fun _ => False) w w') := KD
 have WD := hide (fun w h => rword_any (tb := tb) (v := v) (ts := ts) (s := s) (st := .ok k) (w := w) h)
 have WD : Hid (∀ w, RS w tb v ts s (.ok k) → Calls Try.prog 70 #[.pointer (some ⟨tb, 0, none⟩)] w fun e w' => e = .returned (.string (tokAt ts s k 0).2.1) ∧ Chg (fun _ => False) w w') := WD
 obtain ⟨A, hA⟩ : ∃ A, w.heap.size = A := ⟨_, rfl⟩
 have HL : Hid (tb < A ∧ w.heap.size = A) := hide ⟨by omega, hA⟩
 rw [hA] at B0
 obtain ⟨t, ht⟩ : ∃ t, tokAt ts s k 0 = t := ⟨_, rfl⟩
 have HT := hide ht
 rw [ht] at AT KD WD
 rw [ht] at hgrp
 have HGRP := hide hgrp
 clear h hl hA ht hnum hkl hgrp
 obtain ⟨t0, t1, t2⟩ := t
 dsimp only at AT KD WD HGRP
 obtain ⟨kd, hkd⟩ : ∃ kd, kindOf t1 = kd := ⟨_, rfl⟩
 have KB := hide (kind_bd t1)
 have RK := hide (fun w => rkind_any t1 w)
 rw [hkd] at KB RK HGRP
 have HK := hide hkd
 clear hkd
 go_enter Try.func37, Try.ntmps37
 go_wp2_with fail
 rw [HL.out.2]
 generalize w.alloc (.cells #[.int .i64 0, .slice none 0 0, .slice none 0 0, .int .i64 0, .int .i64 0] 42) = w1 at *
 refine AT.out.mono ?_
 rintro e w2 ⟨rfl, g2⟩
 have GX := al w2 (.cells #[.int .i64 0, .slice none 0 0, .slice none 0 0, .int .i64 0, .int .i64 (t2 : Int)] 42)
 have X3 := hide (blk_new w2 (.cells #[.int .i64 0, .slice none 0 0, .slice none 0 0, .int .i64 0, .int .i64 (t2 : Int)] 42))
 have H3 := hide ((H0.out.chg g2 (fun _ _ h => h)).chg GX (fun _ _ h => h))
 have B3 := hide (GX.blk (g2.blk B0.out))
 have G3 := hide (((G0.out.trans g2).trans GX).none (S := fun x => x = tb))
 obtain ⟨X, hX⟩ : ∃ X, w2.heap.size = X := ⟨_, rfl⟩
 have DL : Hid (tb < A ∧ A < X ∧ w.heap.size = A) := hide ⟨HL.out.1, by have := olt (g2.blk B0.out); omega, HL.out.2⟩
 rw [hX] at X3
 have HX := hide hX
 clear g2 GX AT hX
 go_wp2_with fail
 try rw [HX.out]
 generalize w2.alloc (.cells #[.int .i64 0, .slice none 0 0, .slice none 0 0, .int .i64 0, .int .i64 (t2 : Int)] 42) = w3 at *
 obtain ⟨bo, hbo⟩ : ∃ bo, X + 1 = bo := ⟨_, rfl⟩
 have DL : Hid (tb < A ∧ A < X ∧ X < bo ∧ w.heap.size = A) := hide ⟨DL.out.1, DL.out.2.1, by omega, DL.out.2.2⟩
 have HBO := hide hbo
 clear hbo HX
 refine (KD.out w3 H3.out).mono ?_
 rintro e w4 ⟨rfl, g4⟩
 have H4 := hide (H3.out.chg g4 (fun _ _ h => h))
 have B4 := hide (g4.blk B3.out)
 have X4 := hide (g4.blk X3.out)
 have G4 := hide (G3.out.trans g4.none)
 clear g4 KD H3 B3 X3 G3
 by_cases h1 : t0 = 1
 ·
  have e1 : (t0 == 1) = true := by simp [h1]
  have HGRP := hide HGRP.out.2
  go_wp2_with fail
  refine (WD.out w4 H4.out).mono ?_
  rintro e w5 ⟨rfl, g5⟩
  have H5 := hide (H4.out.chg g5 (fun _ _ h => h))
  have B5 := hide (g5.blk B4.out)
  have X5 := hide (g5.blk X4.out)
  have G5 := hide (G4.out.trans g5.none)
  clear g5 WD H4 B4 X4 G4
  go_wp2_with fail
  refine (RK.out w5).mono ?_
  rintro e _ ⟨rfl, rfl⟩
  have d0 := blk_cell X5.out 0
  have d1 := blk_free X5.out 0
  have GS := Chg.set w5 X 0 (.int .i64 kd)
  have X6 : Hid ((w5.setCell ⟨X, 0, none⟩ (.int .i64 kd)).heap[X]? = some (.cells #[.int .i64 kd, .slice none 0 0, .slice none 0 0, .int .i64 0, .int .i64 (t2 : Int)] 42)) := hide (blk_set X5.out 0 (.int .i64 kd))
  simp only [gets] at d0
  have H6 := hide (H5.out.chg GS (fun x hx e => by have := DL.out; omega))
  have B6 := hide (GS.blkS (by have := DL.out; omega) B5.out)
  have G6 := hide (rchg_fresh G5.out GS (by have := DL.out; omega))
  clear GS RK H5 B5 X5 G5
  go_upto_region 4 with fail
  generalize w5.setCell ⟨X, 0, none⟩ (.int .i64 kd) = w6 at *
  clear d0 d1
  by_cases hk0 : kd = 0
  ·
   subst hk0
   have HR : Hid (itemS ts s k = .error (3, k)) := hide (by unfold itemS; rw [HT.out, HK.out, if_pos (Or.inr rfl)])
   clear KB HK HT
   exfalso
   have := HGRP.out
   omega
  ·
   have e2 : (kd == 0) = false := by simpa using hk0
   have HI : Hid (itemS ts s k = (bodyS ts s kd (k + 1)).bind fun x k1 => (mustS ts s bSemi k1).bind fun k2 => .ok ((kd, x.1, x.2.1, x.2.2, (t2 : Int)), k2)) := hide (by unfold itemS; rw [HT.out, HK.out, if_neg (by show ¬ (t0 ≠ 1 ∨ kd = 0); omega)])
   have KB2 : Hid (1 ≤ kd ∧ kd ≤ 12) := hide (by have := KB.out; omega)
   have H7 := hide (H6.out.moved ((k : Int) + 1) (by omega) HKL.out)
   have GS := Chg.set w6 tb 2 (.int .i64 ((k : Int) + 1))
   have B7 := hide (GS.blkS (by have := DL.out; omega) B6.out)
   have X7 := hide (GS.blkS (by have := DL.out; omega) X6.out)
   have G7 := hide (G6.out.trans GS)
   have c2 : w6.cell? ⟨tb, 2, none⟩ = some (.int .i64 (k : Int)) := H6.out.cells.2.2.1
   have x2 := blk_free H6.out.blk 2
   have z0 := blk_cell X6.out 0
   simp only [gets] at z0
   have hkn : (k : Int) ≤ 20000 := by have := HN.out; have := HKL.out; omega
   clear KB HK h1 hk0 GS e1
   go_upto_region 8 with fail
   clear c2 x2 z0 e2 hkn
   generalize w6.setCell ⟨tb, 2, none⟩ (.int .i64 ((k : Int) + 1)) = w7 at *
   clear H6 B6 X6 G6
   have Z7 : Hid (bo ≤ w7.heap.size) := hide (by have := olt X7.out; have := HBO.out; omega)
   have z0 := blk_cell X7.out 0
   simp only [gets] at z0
   have TB : Hid ((decide (kd ≤ 7) = true ∧ decide (kd ≤ 7 ∨ kd = 12) = true) ∨ (decide (kd ≤ 7) = false ∧ (kd == 12) = true ∧ decide (kd ≤ 7 ∨ kd = 12) = true) ∨ (decide (kd ≤ 7) = false ∧ (kd == 12) = false ∧ decide (kd ≤ 7 ∨ kd = 12) = false)) := hide (by
    by_cases h : kd ≤ 7
    ·
     exact Or.inl ⟨by simp [h], by simp [h]⟩
    ·
     by_cases h' : kd = 12
     ·
      exact Or.inr (Or.inl ⟨by simp [h], by simp [h'], by simp [h']⟩)
     ·
      exact Or.inr (Or.inr ⟨by simp [h], by simp [h'], by simp [h, h']⟩))
   obtain ⟨bb, hbb⟩ : ∃ bb, decide (kd ≤ 7 ∨ kd = 12) = bb := ⟨_, rfl⟩
   rw [hbb] at TB
   have HBB := hide hbb
   clear hbb
   go_cut [35] (fun s35 wx => s35 = .bool bb ∧ Hid (wx = w7))
   case first =>
    rcases TB.out with ⟨e3, e5⟩ | ⟨e3, e4, e5⟩ | ⟨e3, e4, e5⟩
    all_goals
     subst e5
     clear TB
     go_wp2_with fail
     go_meet
     exact ⟨rfl, hide rfl⟩
   case rest =>
    obtain ⟨rfl, hw⟩ := hcut
    obtain rfl := hw.out
    clear hw TB z0
    go_upto_if 35 with fail
    go_cut [2] (fun s2 wx => s2 = .pointer (some ⟨A, 0, none⟩) ∧ Hid (RStart w wx tb v ts s A X bo kd (t2 : Int) k))
    case first =>
     clear HI
     cases bb with
     | true =>
       have hg : kd ≤ 7 ∨ kd = 12 := of_decide_eq_true HBB.out
       have HG := hide hg
       clear hg HBB
       have AAX := hide (fun w' (h : RS w' tb v ts s (.ok (k + 1))) => a_any 1 (by decide) h)
       have AAX : Hid (∀ w', RS w' tb v ts s (.ok (k + 1)) → Calls Try.prog 71 #[.pointer (some ⟨tb, 0, none⟩), .int .i64 1] w' fun e w'' => e = .returned (.string (tokOf (tokS ts s 1 (k + 1))).2.1) ∧ RS w'' tb v ts s (tokS ts s 1 (k + 1)).st ∧ Chg (fun x => x = tb) w' w'') := AAX
       have ST : Hid (∀ wx, RW w wx tb v ts s A X bo kd (t2 : Int) (tokS ts s 1 (k + 1)).st [(tokOf (tokS ts s 1 (k + 1))).2.1] → RStart w wx tb v ts s A X bo kd (t2 : Int) k) := hide (fun wx h => Or.inl ⟨HG.out, h⟩)
       generalize (tokOf (tokS ts s 1 (k + 1))).2.1 = x1 at *
       generalize (tokS ts s 1 (k + 1)).st = st1 at *
       have O7 : Hid (wc.ownsRow bo 9 1 (.slice none 0 0) ([] : List ByteArray).length (([] : List ByteArray).map .string)) := hide (World.ownsRow_nil _ _ _ _)
       have LL : Hid (([] : List ByteArray).length ≤ 100000) := hide (Nat.zero_le _)
       go_wp2_with fail
       have z1 := blk_cell X7.out 1
       simp only [gets] at z1
       have AA : Hid (∀ w', RS w' tb v ts s (.ok (k + 1)) → Calls Try.prog 71 #[.pointer (some ⟨tb, 0, none⟩), .int .i64 1] w' fun e w'' => e = .returned (.string x1) ∧ RS w'' tb v ts s (st1) ∧ Chg (fun x => x = tb) w' w'') := AAX
       refine wp_region_held_drew (S := (fun _ => True)) (by kernel_rfl) trivial (fun hHeld => ?_)
       refine tkl 0 ?_ ?_ ?_
       rotate_left
       ·
        intro w hSw
        go_simp <;> with_reducible rfl
       try simp only [Act.put, puts]
       refine tkl 2 ?_ ?_ ?_
       rotate_left
       ·
        intro w hSw
        go_simp <;> with_reducible rfl
       try simp only [Act.put, puts]
       refine wpAnyH_ready (rs := [1, 3]) (by kernel_rfl) (by simp) ?_
       refine AllReadyH.cons (i := 1) (o := _) rfl (fun K hK => ?_) ?_
       ·
        go_simp
        refine hK.out _ _ trivial (fun hHeld => ?_)
        clear hK K
        try simp only [Act.put, puts]
        refine rd1 3 (fun K hK => ?_)
        go_simp
        refine (AA.out wc.drew (H7.out.chg ((Chg.refl (fun _ => False) wc).drew) (fun _ _ h => h))).mono ?_
        rintro e v6 ⟨rfl, h6, g6'⟩
        have g6 := (Chg.refl (fun _ => False) wc).drew.none.trans g6'
        have GA := al v6 (.cells #[.string x1] 9)
        have X6 := g6.blkS (by have := DL.out; omega) X7.out
        have X7 := GA.blk X6
        have z16 := blk_cell X6 1
        have z17 := blk_cell X7 1
        simp only [gets] at z16 z17
        have HX7 := hide X7
        have H7 := hide (h6.chg GA (fun _ _ h => h))
        have B7 := hide (GA.blk (g6.blkS (by have := DL.out; omega) B7.out))
        have O7 := hide (own_chgS (own_chgS O7.out g6 (fun x hx e => by have := DL.out; omega)) GA (fun _ _ h => h))
        have Z7 := hide (Nat.le_trans Z7.out (Nat.le_trans g6.size GA.size))
        have G7 := hide ((G7.out.trans g6).trans GA.none)
        have NB := hide (World.news_of_block (cs := #[.string x1]) (t := 9) (fr := (0, 0)) (heap_alloc_new v6 _))
        clear h6 g6 g6' GA X6 X7 z1
        go_simp
        refine hK.out _ _ trivial (fun hHeld => ?_)
        clear hK K
        try simp only [Act.put, puts]
        refine rd1 4 (fun K hK => ?_)
        go_simp
        refine hK.out _ _ trivial (fun hHeld => ?_)
        clear hK K
        try simp only [Act.put, puts]
        refine rd1 5 (fun K hK => ?_)
        refine step_append_lies _ (by rfl) _ _ _ (by rfl) bo 9 i0 (.string ⟨#[]⟩) 1 16 Try.underlying39 hi0 hz0 hz1 hz2 rfl (by omega) _ ([] : List ByteArray).length (([] : List ByteArray).map .string) (by rfl) O7.out ⟨v6.heap.size, 0, none⟩ 1 1 [.string x1] (by rfl) (by rfl) NB.out (by simp [Value.oneCell']) (by have := LL.out; first | omega | (simp; omega) | simp | decide) (by have := LL.out; first | (simp [maxLen]; omega) | simp [maxLen]) (by have := LL.out; first | omega | (simp; omega) | simp) Z7.out (v6.heap.size + 1) (by simp) ?_
        intro gg cap2 v8 hown hgrow hgat hglt
        have T8 := (own_grow_chg O7.out hgrow).blkS (by have := DL.out; omega) HX7.out
        have fX8 := blk_free T8 1
        have zX8 := blk_cell T8 1
        simp only [gets] at zX8
        have F9 : Hid (RW w (v8.setCell ⟨X, 1, none⟩ (.slice (some ⟨gg, 0, none⟩) (([] : List ByteArray).length + 1) cap2)) tb v ts s A X bo kd (t2 : Int) (st1) (([] : List ByteArray) ++ [x1])) := hide (rw_app DL.out HX7.out H7.out B7.out O7.out Z7.out G7.out hown hgrow)
        clear T8 hown hgrow hgat hglt
        refine hK.out _ _ trivial (fun hHeld => ?_)
        clear hK K
        try simp only [Act.put, puts]
        refine tkl 6 ?_ ?_ ?_
        rotate_left
        ·
         intro w hSw
         go_simp <;> with_reducible rfl
        try simp only [Act.put, puts]
        refine rd1 7 (fun K hK => ?_)
        go_simp
        refine hK.out _ _ trivial (fun hHeld => ?_)
        clear hK K
        try simp only [Act.put, puts]
        refine wpAnyH_done (by kernel_rfl) ?_ _
        go_wp2_with fail
        go_meet
        exact ⟨rfl, hide (ST.out _ F9.out)⟩
       refine AllReadyH.cons (i := 3) (o := _) rfl (fun K hK => ?_) ?_
       rotate_left
       ·
        exact AllReadyH.nil
       go_simp
       refine (AA.out wc.drew (H7.out.chg ((Chg.refl (fun _ => False) wc).drew) (fun _ _ h => h))).mono ?_
       rintro e v6 ⟨rfl, h6, g6'⟩
       have g6 := (Chg.refl (fun _ => False) wc).drew.none.trans g6'
       have GA := al v6 (.cells #[.string x1] 9)
       have X6 := g6.blkS (by have := DL.out; omega) X7.out
       have X7 := GA.blk X6
       have z16 := blk_cell X6 1
       have z17 := blk_cell X7 1
       simp only [gets] at z16 z17
       have HX7 := hide X7
       have H7 := hide (h6.chg GA (fun _ _ h => h))
       have B7 := hide (GA.blk (g6.blkS (by have := DL.out; omega) B7.out))
       have O7 := hide (own_chgS (own_chgS O7.out g6 (fun x hx e => by have := DL.out; omega)) GA (fun _ _ h => h))
       have Z7 := hide (Nat.le_trans Z7.out (Nat.le_trans g6.size GA.size))
       have G7 := hide ((G7.out.trans g6).trans GA.none)
       have NB := hide (World.news_of_block (cs := #[.string x1]) (t := 9) (fr := (0, 0)) (heap_alloc_new v6 _))
       clear h6 g6 g6' GA X6 X7 z1
       go_simp
       refine hK.out _ _ trivial (fun hHeld => ?_)
       clear hK K
       try simp only [Act.put, puts]
       refine wpAnyH_ready (rs := [1, 4]) (by kernel_rfl) (by simp) ?_
       refine AllReadyH.cons (i := 1) (o := _) rfl (fun K hK => ?_) ?_
       ·
        go_simp
        refine hK.out _ _ trivial (fun hHeld => ?_)
        clear hK K
        try simp only [Act.put, puts]
        refine rd1 4 (fun K hK => ?_)
        go_simp
        refine hK.out _ _ trivial (fun hHeld => ?_)
        clear hK K
        try simp only [Act.put, puts]
        refine rd1 5 (fun K hK => ?_)
        refine step_append_lies _ (by rfl) _ _ _ (by rfl) bo 9 i0 (.string ⟨#[]⟩) 1 16 Try.underlying39 hi0 hz0 hz1 hz2 rfl (by omega) _ ([] : List ByteArray).length (([] : List ByteArray).map .string) (by rfl) O7.out ⟨v6.heap.size, 0, none⟩ 1 1 [.string x1] (by rfl) (by rfl) NB.out (by simp [Value.oneCell']) (by have := LL.out; first | omega | (simp; omega) | simp | decide) (by have := LL.out; first | (simp [maxLen]; omega) | simp [maxLen]) (by have := LL.out; first | omega | (simp; omega) | simp) Z7.out (v6.heap.size + 1) (by simp) ?_
        intro gg cap2 v8 hown hgrow hgat hglt
        have T8 := (own_grow_chg O7.out hgrow).blkS (by have := DL.out; omega) HX7.out
        have fX8 := blk_free T8 1
        have zX8 := blk_cell T8 1
        simp only [gets] at zX8
        have F9 : Hid (RW w (v8.setCell ⟨X, 1, none⟩ (.slice (some ⟨gg, 0, none⟩) (([] : List ByteArray).length + 1) cap2)) tb v ts s A X bo kd (t2 : Int) (st1) (([] : List ByteArray) ++ [x1])) := hide (rw_app DL.out HX7.out H7.out B7.out O7.out Z7.out G7.out hown hgrow)
        clear T8 hown hgrow hgat hglt
        refine hK.out _ _ trivial (fun hHeld => ?_)
        clear hK K
        try simp only [Act.put, puts]
        refine tkl 6 ?_ ?_ ?_
        rotate_left
        ·
         intro w hSw
         go_simp <;> with_reducible rfl
        try simp only [Act.put, puts]
        refine rd1 7 (fun K hK => ?_)
        go_simp
        refine hK.out _ _ trivial (fun hHeld => ?_)
        clear hK K
        try simp only [Act.put, puts]
        refine wpAnyH_done (by kernel_rfl) ?_ _
        go_wp2_with fail
        go_meet
        exact ⟨rfl, hide (ST.out _ F9.out)⟩
       refine AllReadyH.cons (i := 4) (o := _) rfl (fun K hK => ?_) ?_
       rotate_left
       ·
        exact AllReadyH.nil
       go_simp
       refine hK.out _ _ trivial (fun hHeld => ?_)
       clear hK K
       try simp only [Act.put, puts]
       refine rd1 1 (fun K hK => ?_)
       go_simp
       refine hK.out _ _ trivial (fun hHeld => ?_)
       clear hK K
       try simp only [Act.put, puts]
       refine rd1 5 (fun K hK => ?_)
       refine step_append_lies _ (by rfl) _ _ _ (by rfl) bo 9 i0 (.string ⟨#[]⟩) 1 16 Try.underlying39 hi0 hz0 hz1 hz2 rfl (by omega) _ ([] : List ByteArray).length (([] : List ByteArray).map .string) (by rfl) O7.out ⟨v6.heap.size, 0, none⟩ 1 1 [.string x1] (by rfl) (by rfl) NB.out (by simp [Value.oneCell']) (by have := LL.out; first | omega | (simp; omega) | simp | decide) (by have := LL.out; first | (simp [maxLen]; omega) | simp [maxLen]) (by have := LL.out; first | omega | (simp; omega) | simp) Z7.out (v6.heap.size + 1) (by simp) ?_
       intro gg cap2 v8 hown hgrow hgat hglt
       have T8 := (own_grow_chg O7.out hgrow).blkS (by have := DL.out; omega) HX7.out
       have fX8 := blk_free T8 1
       have zX8 := blk_cell T8 1
       simp only [gets] at zX8
       have F9 : Hid (RW w (v8.setCell ⟨X, 1, none⟩ (.slice (some ⟨gg, 0, none⟩) (([] : List ByteArray).length + 1) cap2)) tb v ts s A X bo kd (t2 : Int) (st1) (([] : List ByteArray) ++ [x1])) := hide (rw_app DL.out HX7.out H7.out B7.out O7.out Z7.out G7.out hown hgrow)
       clear T8 hown hgrow hgat hglt
       refine hK.out _ _ trivial (fun hHeld => ?_)
       clear hK K
       try simp only [Act.put, puts]
       refine tkl 6 ?_ ?_ ?_
       rotate_left
       ·
        intro w hSw
        go_simp <;> with_reducible rfl
       try simp only [Act.put, puts]
       refine rd1 7 (fun K hK => ?_)
       go_simp
       refine hK.out _ _ trivial (fun hHeld => ?_)
       clear hK K
       try simp only [Act.put, puts]
       refine wpAnyH_done (by kernel_rfl) ?_ _
       go_wp2_with fail
       go_meet
       exact ⟨rfl, hide (ST.out _ F9.out)⟩
     | false =>
       have hg : ¬ (kd ≤ 7 ∨ kd = 12) := of_decide_eq_false HBB.out
       have HG := hide hg
       clear hg HBB
       exfalso
       have := HG.out
       have := HGRP.out
       have := KB2.out
       omega
    case rest =>
     obtain ⟨rfl, hST⟩ := hcut
     clear H7 B7 X7 G7 Z7
     generalize wc = w8 at *
     have XK := hide (rstart_x hST.out)
     obtain ⟨ux, vx, nx, hx⟩ := XK.out
     have z0 := blk_cell hx 0
     simp only [gets] at z0
     clear hx XK
     go_upto_block 0 with fail
     go_cut [2] (fun s2 wx => s2 = .pointer (some ⟨A, 0, none⟩) ∧ Hid (RBody w wx tb v ts s A X bo kd (t2 : Int) (bodyS ts s kd (k + 1))))
     case first =>
      clear HI HBB
      rcases hST.out with ⟨hg, hRW⟩ | ⟨hg, hNN⟩
      ·
       have hRW := hide hRW
       have NN := hide hRW.out.toN
       obtain ⟨r1, hr1⟩ : ∃ r1, tokS ts s 1 (k + 1) = r1 := ⟨_, rfl⟩
       have HR1 := hide hr1
       rw [hr1] at NN hRW
       obtain ⟨x1, hx1⟩ : ∃ x1, (tokOf r1).2.1 = x1 := ⟨_, rfl⟩
       have HX1 := hide hx1
       rw [hx1] at NN hRW
       obtain ⟨st1, hst1⟩ : ∃ st1, r1.st = st1 := ⟨_, rfl⟩
       have HST1 := hide hst1
       rw [hst1] at NN hRW
       have hkc : kd = 1 ∨ kd = 2 ∨ kd = 3 ∨ kd = 4 ∨ kd = 5 ∨ kd = 6 ∨ kd = 7 ∨ kd = 12 := by have := KB2.out; omega
       clear KB2 hg hST hr1 hx1 hst1
       rcases hkc with rfl | rfl | rfl | rfl | rfl | rfl | rfl | rfl
       ·
        clear NN z0
        have LW : Hid ((∃ k1 f, (tokS ts s 1 (k + 1)).st = .ok k1 ∧ wordsS ts s (k + 1) = moreW ts s f [x1] k1 ∧ ts.length + 1 - k1 ≤ f) ∨ (∃ x, (tokS ts s 1 (k + 1)).st = .error x ∧ wordsS ts s (k + 1) = .error x)) := hide (words_st ts s (.ok (k + 1)) x1 (by show (tokOf (tokS ts s 1 (k + 1))).2.1 = x1; rw [HR1.out, HX1.out]))
        rw [HR1.out, HST1.out] at LW
        have LAW := hide (fun l hl => rlaw1 ts s (k + 1) l hl)
        generalize wordsS ts s (k + 1) = R at *
        have I0 : Hid (∃ g, RWInv w w8 tb v ts s A X bo 1 (t2 : Int) (moreW ts s) R g) := hide (by
         obtain ⟨_, HH, _⟩ := hRW.out
         rcases LW.out with ⟨k1, f, e, e2, hf⟩ | ⟨x, e, e2⟩
         ·
          subst e
          have hle : k1 ≤ ts.length := HH.out.le
          exact ⟨ts.length + 2 - k1, .ok k1, [x1], hRW, hide (Or.inl ⟨k1, f, rfl, e2, hf, rfl⟩), hide (by simp; omega)⟩
         ·
          subst e
          exact ⟨0, .error x, [x1], hRW, hide (Or.inr ⟨x, rfl, e2, rfl⟩), hide (by simp)⟩)
        obtain ⟨g0, I0⟩ := I0.out
        clear hRW LW
        go_wp2_with fail
        go_loopg [60] g0 (fun g u wr => Hid (RWInv w wr tb v ts s A X bo 1 (t2 : Int) (moreW ts s) R g))
        case atStart => exact hide I0
        case round =>
         have hI := hrel
         clear I0 hrel
         obtain ⟨st, l, HRW, J4, L4⟩ := hI.out
         clear hI
         obtain ⟨u1, H8, B8, X8, O8, Z8, G8⟩ := HRW.out
         cases st with
         | error x =>
           have QF : Hid (R.st = .error x ∧ ∀ q, R = .ok q → l = q.1) := hide (by
            rcases J4.out with ⟨k1, f, e0, -⟩ | ⟨y, e0, e, -⟩
            ·
             cases e0
            ·
             cases e0
             rw [e]
             exact ⟨rfl, fun q hq => by cases hq⟩)
           have F8 : Hid (RBody w wr tb v ts s A X bo 1 (t2 : Int) (bodyS ts s 1 (k + 1))) := hide ⟨l, [], 0, .error x, hide HRW.out.toN, hide (QF.out.1.symm.trans (LAW.out l QF.out.2).1), hide (LAW.out l QF.out.2).2⟩
           obtain ⟨e1, e2⟩ := rerr_ne (H8.out.code x rfl)
           have c3 : wr.cell? ⟨tb, 3, none⟩ = some (.int .i64 x.1) := H8.out.cells.2.2.2.1
           clear J4
           go_wp2_with fail
           go_meet
           exact ⟨rfl, F8⟩
         | ok k1 =>
           have HLE : Hid (k1 ≤ ts.length) := hide H8.out.le
           obtain ⟨f, ER, EK, EG⟩ : ∃ f, Hid (R = moreW ts s (f + 1) l k1) ∧ Hid (ts.length + 1 - k1 ≤ f + 1) ∧ Hid (gk = ts.length + 2 - k1) := by
            have := HLE.out
            rcases J4.out with ⟨k', f, e0, e, hf, hg⟩ | ⟨y, e0, e, -⟩
            ·
             cases e0
             obtain ⟨f', rfl⟩ : ∃ f', f = f' + 1 := ⟨f - 1, by omega⟩
             exact ⟨f', e, hf, hg⟩
            ·
             cases e0
           have LL : Hid (l.length ≤ 100000) := hide (by have := L4.out; have := HN.out; omega)
           have c3 : wr.cell? ⟨tb, 3, none⟩ = some (.int .i64 0) := H8.out.cells.2.2.2.1
           clear J4
           have KD2 := hide (kind_any H8.out)
           have KD2 : Hid (Calls Try.prog 68 #[.pointer (some ⟨tb, 0, none⟩)] wr fun e w' => e = .returned (.int .i64 (tokAt ts s k1 0).1) ∧ Chg (fun _ => False) wr w') := KD2
           obtain ⟨t, ht⟩ : ∃ t, tokAt ts s k1 0 = t := ⟨_, rfl⟩
           rw [ht] at KD2
           have HT2 := hide ht
           clear ht
           obtain ⟨y0, y1, y2⟩ := t
           dsimp only at KD2
           go_wp2_with fail
           refine KD2.out.mono ?_
           rintro e w5 ⟨rfl, g5⟩
           have H5 := hide (H8.out.chg g5 (fun _ _ h => h))
           have B5 := hide (g5.blk B8.out)
           have X5 := hide (g5.blk X8.out)
           have O5 := hide (own_chgS O8.out g5 (fun _ _ h => h))
           have Z5 := hide (Nat.le_trans Z8.out g5.size)
           have G5 := hide (G8.out.trans g5.none)
           clear g5 c3 KD2 H8 B8 X8 O8 Z8 G8 HRW
           by_cases h1 : y0 = 1
           ·
            subst h1
            have ER2 : Hid (R = moreW ts s f (l ++ [y1]) (k1 + 1)) := hide (by
             rw [ER.out, moreW, HT2.out, if_pos rfl])
            have ET : Hid (tokS ts s 1 k1 = .ok ((1, y1, y2), k1 + 1)) := hide (by unfold tokS; rw [HT2.out, if_pos rfl])
            have AAX := hide (fun w' (h : RS w' tb v ts s (.ok k1)) => a_any 1 (by decide) h)
            have AAX : Hid (∀ w', RS w' tb v ts s (.ok k1) → Calls Try.prog 71 #[.pointer (some ⟨tb, 0, none⟩), .int .i64 1] w' fun e w'' => e = .returned (.string (tokOf (tokS ts s 1 k1)).2.1) ∧ RS w'' tb v ts s (tokS ts s 1 k1).st ∧ Chg (fun x => x = tb) w' w'') := AAX
            rw [ET.out] at AAX
            have AAX : Hid (∀ w', RS w' tb v ts s (.ok k1) → Calls Try.prog 71 #[.pointer (some ⟨tb, 0, none⟩), .int .i64 1] w' fun e w'' => e = .returned (.string y1) ∧ RS w'' tb v ts s (.ok (k1 + 1)) ∧ Chg (fun x => x = tb) w' w'') := AAX
            go_wp2_with fail
            have z1 := blk_cell X5.out 1
            simp only [gets] at z1
            have AA : Hid (∀ w', RS w' tb v ts s (.ok k1) → Calls Try.prog 71 #[.pointer (some ⟨tb, 0, none⟩), .int .i64 1] w' fun e w'' => e = .returned (.string y1) ∧ RS w'' tb v ts s (.ok (k1 + 1)) ∧ Chg (fun x => x = tb) w' w'') := AAX
            refine wp_region_held_drew (S := (fun _ => True)) (by kernel_rfl) trivial (fun hHeld => ?_)
            refine tkl 0 ?_ ?_ ?_
            rotate_left
            ·
             intro w hSw
             go_simp <;> with_reducible rfl
            try simp only [Act.put, puts]
            refine tkl 2 ?_ ?_ ?_
            rotate_left
            ·
             intro w hSw
             go_simp <;> with_reducible rfl
            try simp only [Act.put, puts]
            refine wpAnyH_ready (rs := [1, 3]) (by kernel_rfl) (by simp) ?_
            refine AllReadyH.cons (i := 1) (o := _) rfl (fun K hK => ?_) ?_
            ·
             go_simp
             refine hK.out _ _ trivial (fun hHeld => ?_)
             clear hK K
             try simp only [Act.put, puts]
             refine rd1 3 (fun K hK => ?_)
             go_simp
             refine (AA.out w5.drew (H5.out.chg ((Chg.refl (fun _ => False) w5).drew) (fun _ _ h => h))).mono ?_
             rintro e v6 ⟨rfl, h6, g6'⟩
             have g6 := (Chg.refl (fun _ => False) w5).drew.none.trans g6'
             have GA := al v6 (.cells #[.string y1] 9)
             have X6 := g6.blkS (by have := DL.out; omega) X5.out
             have X7 := GA.blk X6
             have z16 := blk_cell X6 1
             have z17 := blk_cell X7 1
             simp only [gets] at z16 z17
             have HX7 := hide X7
             have H7 := hide (h6.chg GA (fun _ _ h => h))
             have B7 := hide (GA.blk (g6.blkS (by have := DL.out; omega) B5.out))
             have O7 := hide (own_chgS (own_chgS O5.out g6 (fun x hx e => by have := DL.out; omega)) GA (fun _ _ h => h))
             have Z7 := hide (Nat.le_trans Z5.out (Nat.le_trans g6.size GA.size))
             have G7 := hide ((G5.out.trans g6).trans GA.none)
             have NB := hide (World.news_of_block (cs := #[.string y1]) (t := 9) (fr := (0, 0)) (heap_alloc_new v6 _))
             clear h6 g6 g6' GA X6 X7 z1
             go_simp
             refine hK.out _ _ trivial (fun hHeld => ?_)
             clear hK K
             try simp only [Act.put, puts]
             refine rd1 4 (fun K hK => ?_)
             go_simp
             refine hK.out _ _ trivial (fun hHeld => ?_)
             clear hK K
             try simp only [Act.put, puts]
             refine rd1 5 (fun K hK => ?_)
             refine step_append_lies _ (by rfl) _ _ _ (by rfl) bo 9 i0 (.string ⟨#[]⟩) 1 16 Try.underlying39 hi0 hz0 hz1 hz2 rfl (by omega) _ (l : List ByteArray).length ((l : List ByteArray).map .string) (by rfl) O7.out ⟨v6.heap.size, 0, none⟩ 1 1 [.string y1] (by rfl) (by rfl) NB.out (by simp [Value.oneCell']) (by have := LL.out; first | omega | (simp; omega) | simp | decide) (by have := LL.out; first | (simp [maxLen]; omega) | simp [maxLen]) (by have := LL.out; first | omega | (simp; omega) | simp) Z7.out (v6.heap.size + 1) (by simp) ?_
             intro gg cap2 v8 hown hgrow hgat hglt
             have T8 := (own_grow_chg O7.out hgrow).blkS (by have := DL.out; omega) HX7.out
             have fX8 := blk_free T8 1
             have zX8 := blk_cell T8 1
             simp only [gets] at zX8
             have F9 : Hid (RW w (v8.setCell ⟨X, 1, none⟩ (.slice (some ⟨gg, 0, none⟩) ((l : List ByteArray).length + 1) cap2)) tb v ts s A X bo 1 (t2 : Int) (.ok (k1 + 1)) ((l : List ByteArray) ++ [y1])) := hide (rw_app DL.out HX7.out H7.out B7.out O7.out Z7.out G7.out hown hgrow)
             clear T8 hown hgrow hgat hglt
             refine hK.out _ _ trivial (fun hHeld => ?_)
             clear hK K
             try simp only [Act.put, puts]
             refine tkl 6 ?_ ?_ ?_
             rotate_left
             ·
              intro w hSw
              go_simp <;> with_reducible rfl
             try simp only [Act.put, puts]
             refine rd1 7 (fun K hK => ?_)
             go_simp
             refine hK.out _ _ trivial (fun hHeld => ?_)
             clear hK K
             try simp only [Act.put, puts]
             refine wpAnyH_done (by kernel_rfl) ?_ _
             generalize v8.setCell ⟨X, 1, none⟩ (.slice (some ⟨gg, 0, none⟩) (l.length + 1) cap2) = v9 at *
             have I8 : Hid (∃ g', g' < gk ∧ RWInv w v9 tb v ts s A X bo 1 (t2 : Int) (moreW ts s) R g') := hide (⟨ts.length + 2 - (k1 + 1), by have := EG.out; have := HLE.out; omega, .ok (k1 + 1), l ++ [y1], F9, hide (Or.inl ⟨k1 + 1, f, rfl, ER2.out, by have := EK.out; omega, rfl⟩), hide (by have := L4.out; have := EG.out; have := HLE.out; rw [List.length_append, List.length_singleton]; omega)⟩)
             clear F9
             go_wp2_with fail
             obtain ⟨g', hg', HI8⟩ := I8.out
             have HI8 := hide HI8
             clear I8
             go_roundg g'
             case measure => exact hg'
             case rel => exact HI8
            refine AllReadyH.cons (i := 3) (o := _) rfl (fun K hK => ?_) ?_
            rotate_left
            ·
             exact AllReadyH.nil
            go_simp
            refine (AA.out w5.drew (H5.out.chg ((Chg.refl (fun _ => False) w5).drew) (fun _ _ h => h))).mono ?_
            rintro e v6 ⟨rfl, h6, g6'⟩
            have g6 := (Chg.refl (fun _ => False) w5).drew.none.trans g6'
            have GA := al v6 (.cells #[.string y1] 9)
            have X6 := g6.blkS (by have := DL.out; omega) X5.out
            have X7 := GA.blk X6
            have z16 := blk_cell X6 1
            have z17 := blk_cell X7 1
            simp only [gets] at z16 z17
            have HX7 := hide X7
            have H7 := hide (h6.chg GA (fun _ _ h => h))
            have B7 := hide (GA.blk (g6.blkS (by have := DL.out; omega) B5.out))
            have O7 := hide (own_chgS (own_chgS O5.out g6 (fun x hx e => by have := DL.out; omega)) GA (fun _ _ h => h))
            have Z7 := hide (Nat.le_trans Z5.out (Nat.le_trans g6.size GA.size))
            have G7 := hide ((G5.out.trans g6).trans GA.none)
            have NB := hide (World.news_of_block (cs := #[.string y1]) (t := 9) (fr := (0, 0)) (heap_alloc_new v6 _))
            clear h6 g6 g6' GA X6 X7 z1
            go_simp
            refine hK.out _ _ trivial (fun hHeld => ?_)
            clear hK K
            try simp only [Act.put, puts]
            refine wpAnyH_ready (rs := [1, 4]) (by kernel_rfl) (by simp) ?_
            refine AllReadyH.cons (i := 1) (o := _) rfl (fun K hK => ?_) ?_
            ·
             go_simp
             refine hK.out _ _ trivial (fun hHeld => ?_)
             clear hK K
             try simp only [Act.put, puts]
             refine rd1 4 (fun K hK => ?_)
             go_simp
             refine hK.out _ _ trivial (fun hHeld => ?_)
             clear hK K
             try simp only [Act.put, puts]
             refine rd1 5 (fun K hK => ?_)
             refine step_append_lies _ (by rfl) _ _ _ (by rfl) bo 9 i0 (.string ⟨#[]⟩) 1 16 Try.underlying39 hi0 hz0 hz1 hz2 rfl (by omega) _ (l : List ByteArray).length ((l : List ByteArray).map .string) (by rfl) O7.out ⟨v6.heap.size, 0, none⟩ 1 1 [.string y1] (by rfl) (by rfl) NB.out (by simp [Value.oneCell']) (by have := LL.out; first | omega | (simp; omega) | simp | decide) (by have := LL.out; first | (simp [maxLen]; omega) | simp [maxLen]) (by have := LL.out; first | omega | (simp; omega) | simp) Z7.out (v6.heap.size + 1) (by simp) ?_
             intro gg cap2 v8 hown hgrow hgat hglt
             have T8 := (own_grow_chg O7.out hgrow).blkS (by have := DL.out; omega) HX7.out
             have fX8 := blk_free T8 1
             have zX8 := blk_cell T8 1
             simp only [gets] at zX8
             have F9 : Hid (RW w (v8.setCell ⟨X, 1, none⟩ (.slice (some ⟨gg, 0, none⟩) ((l : List ByteArray).length + 1) cap2)) tb v ts s A X bo 1 (t2 : Int) (.ok (k1 + 1)) ((l : List ByteArray) ++ [y1])) := hide (rw_app DL.out HX7.out H7.out B7.out O7.out Z7.out G7.out hown hgrow)
             clear T8 hown hgrow hgat hglt
             refine hK.out _ _ trivial (fun hHeld => ?_)
             clear hK K
             try simp only [Act.put, puts]
             refine tkl 6 ?_ ?_ ?_
             rotate_left
             ·
              intro w hSw
              go_simp <;> with_reducible rfl
             try simp only [Act.put, puts]
             refine rd1 7 (fun K hK => ?_)
             go_simp
             refine hK.out _ _ trivial (fun hHeld => ?_)
             clear hK K
             try simp only [Act.put, puts]
             refine wpAnyH_done (by kernel_rfl) ?_ _
             generalize v8.setCell ⟨X, 1, none⟩ (.slice (some ⟨gg, 0, none⟩) (l.length + 1) cap2) = v9 at *
             have I8 : Hid (∃ g', g' < gk ∧ RWInv w v9 tb v ts s A X bo 1 (t2 : Int) (moreW ts s) R g') := hide (⟨ts.length + 2 - (k1 + 1), by have := EG.out; have := HLE.out; omega, .ok (k1 + 1), l ++ [y1], F9, hide (Or.inl ⟨k1 + 1, f, rfl, ER2.out, by have := EK.out; omega, rfl⟩), hide (by have := L4.out; have := EG.out; have := HLE.out; rw [List.length_append, List.length_singleton]; omega)⟩)
             clear F9
             go_wp2_with fail
             obtain ⟨g', hg', HI8⟩ := I8.out
             have HI8 := hide HI8
             clear I8
             go_roundg g'
             case measure => exact hg'
             case rel => exact HI8
            refine AllReadyH.cons (i := 4) (o := _) rfl (fun K hK => ?_) ?_
            rotate_left
            ·
             exact AllReadyH.nil
            go_simp
            refine hK.out _ _ trivial (fun hHeld => ?_)
            clear hK K
            try simp only [Act.put, puts]
            refine rd1 1 (fun K hK => ?_)
            go_simp
            refine hK.out _ _ trivial (fun hHeld => ?_)
            clear hK K
            try simp only [Act.put, puts]
            refine rd1 5 (fun K hK => ?_)
            refine step_append_lies _ (by rfl) _ _ _ (by rfl) bo 9 i0 (.string ⟨#[]⟩) 1 16 Try.underlying39 hi0 hz0 hz1 hz2 rfl (by omega) _ (l : List ByteArray).length ((l : List ByteArray).map .string) (by rfl) O7.out ⟨v6.heap.size, 0, none⟩ 1 1 [.string y1] (by rfl) (by rfl) NB.out (by simp [Value.oneCell']) (by have := LL.out; first | omega | (simp; omega) | simp | decide) (by have := LL.out; first | (simp [maxLen]; omega) | simp [maxLen]) (by have := LL.out; first | omega | (simp; omega) | simp) Z7.out (v6.heap.size + 1) (by simp) ?_
            intro gg cap2 v8 hown hgrow hgat hglt
            have T8 := (own_grow_chg O7.out hgrow).blkS (by have := DL.out; omega) HX7.out
            have fX8 := blk_free T8 1
            have zX8 := blk_cell T8 1
            simp only [gets] at zX8
            have F9 : Hid (RW w (v8.setCell ⟨X, 1, none⟩ (.slice (some ⟨gg, 0, none⟩) ((l : List ByteArray).length + 1) cap2)) tb v ts s A X bo 1 (t2 : Int) (.ok (k1 + 1)) ((l : List ByteArray) ++ [y1])) := hide (rw_app DL.out HX7.out H7.out B7.out O7.out Z7.out G7.out hown hgrow)
            clear T8 hown hgrow hgat hglt
            refine hK.out _ _ trivial (fun hHeld => ?_)
            clear hK K
            try simp only [Act.put, puts]
            refine tkl 6 ?_ ?_ ?_
            rotate_left
            ·
             intro w hSw
             go_simp <;> with_reducible rfl
            try simp only [Act.put, puts]
            refine rd1 7 (fun K hK => ?_)
            go_simp
            refine hK.out _ _ trivial (fun hHeld => ?_)
            clear hK K
            try simp only [Act.put, puts]
            refine wpAnyH_done (by kernel_rfl) ?_ _
            generalize v8.setCell ⟨X, 1, none⟩ (.slice (some ⟨gg, 0, none⟩) (l.length + 1) cap2) = v9 at *
            have I8 : Hid (∃ g', g' < gk ∧ RWInv w v9 tb v ts s A X bo 1 (t2 : Int) (moreW ts s) R g') := hide (⟨ts.length + 2 - (k1 + 1), by have := EG.out; have := HLE.out; omega, .ok (k1 + 1), l ++ [y1], F9, hide (Or.inl ⟨k1 + 1, f, rfl, ER2.out, by have := EK.out; omega, rfl⟩), hide (by have := L4.out; have := EG.out; have := HLE.out; rw [List.length_append, List.length_singleton]; omega)⟩)
            clear F9
            go_wp2_with fail
            obtain ⟨g', hg', HI8⟩ := I8.out
            have HI8 := hide HI8
            clear I8
            go_roundg g'
            case measure => exact hg'
            case rel => exact HI8
           ·
            have e1 : (y0 == 1) = false := by simpa using h1
            have ER2 : Hid (R = .ok (l, k1)) := hide (by rw [ER.out, moreW, HT2.out, if_neg h1])
            have HW : Hid (RW w w5 tb v ts s A X bo 1 (t2 : Int) (.ok k1) l) := hide ⟨_, H5, B5, X5, O5, Z5, G5⟩
            have LA := hide (LAW.out l (fun q hq => by rw [ER2.out] at hq; cases hq; rfl))
            have F8 : Hid (RBody w w5 tb v ts s A X bo 1 (t2 : Int) (bodyS ts s 1 (k + 1))) := hide ⟨l, [], 0, .ok k1, hide HW.out.toN, hide (by have := LA.out.1; rw [ER2.out] at this; exact this), hide LA.out.2⟩
            go_wp2_with fail
            go_meet
            exact ⟨rfl, F8⟩
       ·
        exfalso
        have := HGRP.out
        omega
       ·
        exfalso
        have := HGRP.out
        omega
       ·
        exfalso
        have := HGRP.out
        omega
       ·
        exfalso
        have := HGRP.out
        omega
       ·
        clear NN z0
        obtain ⟨u1, H8, B8, X8, O8, Z8, G8⟩ := hRW.out
        clear hRW
        obtain ⟨st2, hst2⟩ : ∃ st2, st1.then (mustS ts s bGt) = st2 := ⟨_, rfl⟩
        have HST2 := hide hst2
        have SGN := hide (sign_any' bGt sg_gt H8.out)
        go_wp2_with fail
        refine SGN.out.mono ?_
        rintro e ws8 ⟨rfl, hs, gs⟩
        have H9 := hide hs
        have B9 := hide (gs.blkS (by have := DL.out; omega) B8.out)
        have X9 := hide (gs.blkS (by have := DL.out; omega) X8.out)
        have G9 := hide (G8.out.trans gs)
        have Z9 := hide (Nat.le_trans Z8.out gs.size)
        rw [hst2] at H9
        have O9 := hide (own_chgS O8.out gs (fun x hx e => by have := DL.out; omega))
        clear hs gs SGN H8 B8 X8 O8 Z8 G8 hst2
        have AAX := hide (fun w' (h : RS w' tb v ts s st2) => a_any 1 (by decide) h)
        obtain ⟨r2, hr2⟩ : ∃ r2, st2.bind (tokS ts s 1) = r2 := ⟨_, rfl⟩
        have HR2 := hide hr2
        rw [hr2] at AAX
        obtain ⟨x2, hx2⟩ : ∃ x2, (tokOf r2).2.1 = x2 := ⟨_, rfl⟩
        have HX2 := hide hx2
        rw [hx2] at AAX
        clear hr2 hx2
        have LL : Hid (([x1] : List ByteArray).length ≤ 100000) := hide (by show 1 ≤ 100000; omega)
        go_upto_region 21 with fail
        go_cut [2] (fun s2 wx => s2 = .pointer (some ⟨A, 0, none⟩) ∧ Hid (RW w wx tb v ts s A X bo 6 (t2 : Int) r2.st ([x1] ++ [x2])))
        case first =>
         go_wp2_with fail
         have z1 := blk_cell X9.out 1
         simp only [gets] at z1
         have AA : Hid (∀ w', RS w' tb v ts s (st2) → Calls Try.prog 71 #[.pointer (some ⟨tb, 0, none⟩), .int .i64 1] w' fun e w'' => e = .returned (.string x2) ∧ RS w'' tb v ts s (r2.st) ∧ Chg (fun x => x = tb) w' w'') := AAX
         refine wp_region_held_drew (S := (fun _ => True)) (by kernel_rfl) trivial (fun hHeld => ?_)
         refine tkl 0 ?_ ?_ ?_
         rotate_left
         ·
          intro w hSw
          go_simp <;> with_reducible rfl
         try simp only [Act.put, puts]
         refine tkl 2 ?_ ?_ ?_
         rotate_left
         ·
          intro w hSw
          go_simp <;> with_reducible rfl
         try simp only [Act.put, puts]
         refine wpAnyH_ready (rs := [1, 3]) (by kernel_rfl) (by simp) ?_
         refine AllReadyH.cons (i := 1) (o := _) rfl (fun K hK => ?_) ?_
         ·
          go_simp
          refine hK.out _ _ trivial (fun hHeld => ?_)
          clear hK K
          try simp only [Act.put, puts]
          refine rd1 3 (fun K hK => ?_)
          go_simp
          refine (AA.out ws8.drew (H9.out.chg ((Chg.refl (fun _ => False) ws8).drew) (fun _ _ h => h))).mono ?_
          rintro e v6 ⟨rfl, h6, g6'⟩
          have g6 := (Chg.refl (fun _ => False) ws8).drew.none.trans g6'
          have GA := al v6 (.cells #[.string x2] 9)
          have X6 := g6.blkS (by have := DL.out; omega) X9.out
          have X7 := GA.blk X6
          have z16 := blk_cell X6 1
          have z17 := blk_cell X7 1
          simp only [gets] at z16 z17
          have HX7 := hide X7
          have H7 := hide (h6.chg GA (fun _ _ h => h))
          have B7 := hide (GA.blk (g6.blkS (by have := DL.out; omega) B9.out))
          have O7 := hide (own_chgS (own_chgS O9.out g6 (fun x hx e => by have := DL.out; omega)) GA (fun _ _ h => h))
          have Z7 := hide (Nat.le_trans Z9.out (Nat.le_trans g6.size GA.size))
          have G7 := hide ((G9.out.trans g6).trans GA.none)
          have NB := hide (World.news_of_block (cs := #[.string x2]) (t := 9) (fr := (0, 0)) (heap_alloc_new v6 _))
          clear h6 g6 g6' GA X6 X7 z1
          go_simp
          refine hK.out _ _ trivial (fun hHeld => ?_)
          clear hK K
          try simp only [Act.put, puts]
          refine rd1 4 (fun K hK => ?_)
          go_simp
          refine hK.out _ _ trivial (fun hHeld => ?_)
          clear hK K
          try simp only [Act.put, puts]
          refine rd1 5 (fun K hK => ?_)
          refine step_append_lies _ (by rfl) _ _ _ (by rfl) bo 9 i0 (.string ⟨#[]⟩) 1 16 Try.underlying39 hi0 hz0 hz1 hz2 rfl (by omega) _ ([x1] : List ByteArray).length (([x1] : List ByteArray).map .string) (by rfl) O7.out ⟨v6.heap.size, 0, none⟩ 1 1 [.string x2] (by rfl) (by rfl) NB.out (by simp [Value.oneCell']) (by have := LL.out; first | omega | (simp; omega) | simp | decide) (by have := LL.out; first | (simp [maxLen]; omega) | simp [maxLen]) (by have := LL.out; first | omega | (simp; omega) | simp) Z7.out (v6.heap.size + 1) (by simp) ?_
          intro gg cap2 v8 hown hgrow hgat hglt
          have T8 := (own_grow_chg O7.out hgrow).blkS (by have := DL.out; omega) HX7.out
          have fX8 := blk_free T8 1
          have zX8 := blk_cell T8 1
          simp only [gets] at zX8
          have F9 : Hid (RW w (v8.setCell ⟨X, 1, none⟩ (.slice (some ⟨gg, 0, none⟩) (([x1] : List ByteArray).length + 1) cap2)) tb v ts s A X bo 6 (t2 : Int) (r2.st) (([x1] : List ByteArray) ++ [x2])) := hide (rw_app DL.out HX7.out H7.out B7.out O7.out Z7.out G7.out hown hgrow)
          clear T8 hown hgrow hgat hglt
          refine hK.out _ _ trivial (fun hHeld => ?_)
          clear hK K
          try simp only [Act.put, puts]
          refine tkl 6 ?_ ?_ ?_
          rotate_left
          ·
           intro w hSw
           go_simp <;> with_reducible rfl
          try simp only [Act.put, puts]
          refine rd1 7 (fun K hK => ?_)
          go_simp
          refine hK.out _ _ trivial (fun hHeld => ?_)
          clear hK K
          try simp only [Act.put, puts]
          refine wpAnyH_done (by kernel_rfl) ?_ _
          go_wp2_with fail
          go_meet
          exact ⟨rfl, F9⟩
         refine AllReadyH.cons (i := 3) (o := _) rfl (fun K hK => ?_) ?_
         rotate_left
         ·
          exact AllReadyH.nil
         go_simp
         refine (AA.out ws8.drew (H9.out.chg ((Chg.refl (fun _ => False) ws8).drew) (fun _ _ h => h))).mono ?_
         rintro e v6 ⟨rfl, h6, g6'⟩
         have g6 := (Chg.refl (fun _ => False) ws8).drew.none.trans g6'
         have GA := al v6 (.cells #[.string x2] 9)
         have X6 := g6.blkS (by have := DL.out; omega) X9.out
         have X7 := GA.blk X6
         have z16 := blk_cell X6 1
         have z17 := blk_cell X7 1
         simp only [gets] at z16 z17
         have HX7 := hide X7
         have H7 := hide (h6.chg GA (fun _ _ h => h))
         have B7 := hide (GA.blk (g6.blkS (by have := DL.out; omega) B9.out))
         have O7 := hide (own_chgS (own_chgS O9.out g6 (fun x hx e => by have := DL.out; omega)) GA (fun _ _ h => h))
         have Z7 := hide (Nat.le_trans Z9.out (Nat.le_trans g6.size GA.size))
         have G7 := hide ((G9.out.trans g6).trans GA.none)
         have NB := hide (World.news_of_block (cs := #[.string x2]) (t := 9) (fr := (0, 0)) (heap_alloc_new v6 _))
         clear h6 g6 g6' GA X6 X7 z1
         go_simp
         refine hK.out _ _ trivial (fun hHeld => ?_)
         clear hK K
         try simp only [Act.put, puts]
         refine wpAnyH_ready (rs := [1, 4]) (by kernel_rfl) (by simp) ?_
         refine AllReadyH.cons (i := 1) (o := _) rfl (fun K hK => ?_) ?_
         ·
          go_simp
          refine hK.out _ _ trivial (fun hHeld => ?_)
          clear hK K
          try simp only [Act.put, puts]
          refine rd1 4 (fun K hK => ?_)
          go_simp
          refine hK.out _ _ trivial (fun hHeld => ?_)
          clear hK K
          try simp only [Act.put, puts]
          refine rd1 5 (fun K hK => ?_)
          refine step_append_lies _ (by rfl) _ _ _ (by rfl) bo 9 i0 (.string ⟨#[]⟩) 1 16 Try.underlying39 hi0 hz0 hz1 hz2 rfl (by omega) _ ([x1] : List ByteArray).length (([x1] : List ByteArray).map .string) (by rfl) O7.out ⟨v6.heap.size, 0, none⟩ 1 1 [.string x2] (by rfl) (by rfl) NB.out (by simp [Value.oneCell']) (by have := LL.out; first | omega | (simp; omega) | simp | decide) (by have := LL.out; first | (simp [maxLen]; omega) | simp [maxLen]) (by have := LL.out; first | omega | (simp; omega) | simp) Z7.out (v6.heap.size + 1) (by simp) ?_
          intro gg cap2 v8 hown hgrow hgat hglt
          have T8 := (own_grow_chg O7.out hgrow).blkS (by have := DL.out; omega) HX7.out
          have fX8 := blk_free T8 1
          have zX8 := blk_cell T8 1
          simp only [gets] at zX8
          have F9 : Hid (RW w (v8.setCell ⟨X, 1, none⟩ (.slice (some ⟨gg, 0, none⟩) (([x1] : List ByteArray).length + 1) cap2)) tb v ts s A X bo 6 (t2 : Int) (r2.st) (([x1] : List ByteArray) ++ [x2])) := hide (rw_app DL.out HX7.out H7.out B7.out O7.out Z7.out G7.out hown hgrow)
          clear T8 hown hgrow hgat hglt
          refine hK.out _ _ trivial (fun hHeld => ?_)
          clear hK K
          try simp only [Act.put, puts]
          refine tkl 6 ?_ ?_ ?_
          rotate_left
          ·
           intro w hSw
           go_simp <;> with_reducible rfl
          try simp only [Act.put, puts]
          refine rd1 7 (fun K hK => ?_)
          go_simp
          refine hK.out _ _ trivial (fun hHeld => ?_)
          clear hK K
          try simp only [Act.put, puts]
          refine wpAnyH_done (by kernel_rfl) ?_ _
          go_wp2_with fail
          go_meet
          exact ⟨rfl, F9⟩
         refine AllReadyH.cons (i := 4) (o := _) rfl (fun K hK => ?_) ?_
         rotate_left
         ·
          exact AllReadyH.nil
         go_simp
         refine hK.out _ _ trivial (fun hHeld => ?_)
         clear hK K
         try simp only [Act.put, puts]
         refine rd1 1 (fun K hK => ?_)
         go_simp
         refine hK.out _ _ trivial (fun hHeld => ?_)
         clear hK K
         try simp only [Act.put, puts]
         refine rd1 5 (fun K hK => ?_)
         refine step_append_lies _ (by rfl) _ _ _ (by rfl) bo 9 i0 (.string ⟨#[]⟩) 1 16 Try.underlying39 hi0 hz0 hz1 hz2 rfl (by omega) _ ([x1] : List ByteArray).length (([x1] : List ByteArray).map .string) (by rfl) O7.out ⟨v6.heap.size, 0, none⟩ 1 1 [.string x2] (by rfl) (by rfl) NB.out (by simp [Value.oneCell']) (by have := LL.out; first | omega | (simp; omega) | simp | decide) (by have := LL.out; first | (simp [maxLen]; omega) | simp [maxLen]) (by have := LL.out; first | omega | (simp; omega) | simp) Z7.out (v6.heap.size + 1) (by simp) ?_
         intro gg cap2 v8 hown hgrow hgat hglt
         have T8 := (own_grow_chg O7.out hgrow).blkS (by have := DL.out; omega) HX7.out
         have fX8 := blk_free T8 1
         have zX8 := blk_cell T8 1
         simp only [gets] at zX8
         have F9 : Hid (RW w (v8.setCell ⟨X, 1, none⟩ (.slice (some ⟨gg, 0, none⟩) (([x1] : List ByteArray).length + 1) cap2)) tb v ts s A X bo 6 (t2 : Int) (r2.st) (([x1] : List ByteArray) ++ [x2])) := hide (rw_app DL.out HX7.out H7.out B7.out O7.out Z7.out G7.out hown hgrow)
         clear T8 hown hgrow hgat hglt
         refine hK.out _ _ trivial (fun hHeld => ?_)
         clear hK K
         try simp only [Act.put, puts]
         refine tkl 6 ?_ ?_ ?_
         rotate_left
         ·
          intro w hSw
          go_simp <;> with_reducible rfl
         try simp only [Act.put, puts]
         refine rd1 7 (fun K hK => ?_)
         go_simp
         refine hK.out _ _ trivial (fun hHeld => ?_)
         clear hK K
         try simp only [Act.put, puts]
         refine wpAnyH_done (by kernel_rfl) ?_ _
         go_wp2_with fail
         go_meet
         exact ⟨rfl, F9⟩
        case rest =>
         obtain ⟨rfl, hRW2⟩ := hcut
         clear H9 B9 X9 O9 Z9 G9 LL AAX
         generalize wc = w12 at *
         have LW : Hid ((∃ k1 f, (((tokS ts s 1 (k + 1)).st.then (mustS ts s bGt)).bind (tokS ts s 1)).st = .ok k1 ∧ chainS ts s (k + 1) = moreC ts s f [x1, x2] k1 ∧ ts.length + 1 - k1 ≤ f) ∨ (∃ x, (((tokS ts s 1 (k + 1)).st.then (mustS ts s bGt)).bind (tokS ts s 1)).st = .error x ∧ chainS ts s (k + 1) = .error x)) := hide (chain_st ts s (.ok (k + 1)) x1 x2 (by show (tokOf (tokS ts s 1 (k + 1))).2.1 = x1; rw [HR1.out, HX1.out]) (by show (tokOf (((tokS ts s 1 (k + 1)).st.then (mustS ts s bGt)).bind (tokS ts s 1))).2.1 = x2; rw [HR1.out, HST1.out, HST2.out, HR2.out, HX2.out]))
         rw [HR1.out, HST1.out, HST2.out, HR2.out] at LW
         have LAW := hide (fun l hl => rlaw6 ts s (k + 1) l hl)
         generalize chainS ts s (k + 1) = R at *
         have I0 : Hid (∃ g, RWInv w w12 tb v ts s A X bo 6 (t2 : Int) (moreC ts s) R g) := hide (by
          obtain ⟨_, HH, _⟩ := hRW2.out
          rcases LW.out with ⟨k1, f, e, e2, hf⟩ | ⟨x, e, e2⟩
          ·
           rw [e] at hRW2 HH
           have hle : k1 ≤ ts.length := HH.out.le
           exact ⟨ts.length + 2 - k1, .ok k1, [x1] ++ [x2], hRW2, hide (Or.inl ⟨k1, f, rfl, e2, hf, rfl⟩), hide (by simp; omega)⟩
          ·
           rw [e] at hRW2
           exact ⟨0, .error x, [x1] ++ [x2], hRW2, hide (Or.inr ⟨x, rfl, e2, rfl⟩), hide (by simp)⟩)
         obtain ⟨g0, I0⟩ := I0.out
         clear hRW2 LW
         go_wp2_with fail
         go_loopg [92] g0 (fun g u wr => Hid (RWInv w wr tb v ts s A X bo 6 (t2 : Int) (moreC ts s) R g))
         case atStart => exact hide I0
         case round =>
          have hI := hrel
          clear I0 hrel
          obtain ⟨st, l, HRW, J4, L4⟩ := hI.out
          clear hI
          obtain ⟨u1, H8, B8, X8, O8, Z8, G8⟩ := HRW.out
          cases st with
          | error x =>
            have QF : Hid (R.st = .error x ∧ ∀ q, R = .ok q → l = q.1) := hide (by
             rcases J4.out with ⟨k1, f, e0, -⟩ | ⟨y, e0, e, -⟩
             ·
              cases e0
             ·
              cases e0
              rw [e]
              exact ⟨rfl, fun q hq => by cases hq⟩)
            have F8 : Hid (RBody w wr tb v ts s A X bo 6 (t2 : Int) (bodyS ts s 6 (k + 1))) := hide ⟨l, [], 0, .error x, hide HRW.out.toN, hide (QF.out.1.symm.trans (LAW.out l QF.out.2).1), hide (LAW.out l QF.out.2).2⟩
            obtain ⟨e1, e2⟩ := rerr_ne (H8.out.code x rfl)
            have c3 : wr.cell? ⟨tb, 3, none⟩ = some (.int .i64 x.1) := H8.out.cells.2.2.2.1
            clear J4
            have IS := hide (is_any bGt sg_gt H8.out)
            have nb : nextB ts s (.error x) bGt = false := rfl
            rw [nb] at IS
            clear nb F8
            go_wp2_with fail
            refine IS.out.mono ?_
            rintro e w5 ⟨rfl, g5⟩
            have H5 := hide (H8.out.chg g5 (fun _ _ h => h))
            have B5 := hide (g5.blk B8.out)
            have X5 := hide (g5.blk X8.out)
            have O5 := hide (own_chgS O8.out g5 (fun _ _ h => h))
            have Z5 := hide (Nat.le_trans Z8.out g5.size)
            have G5 := hide (G8.out.trans g5.none)
            clear g5 c3 IS H8 B8 X8 O8 Z8 G8 HRW
            have HW : Hid (RW w w5 tb v ts s A X bo 6 (t2 : Int) (.error x) l) := hide ⟨_, H5, B5, X5, O5, Z5, G5⟩
            have F5 : Hid (RBody w w5 tb v ts s A X bo 6 (t2 : Int) (bodyS ts s 6 (k + 1))) := hide ⟨l, [], 0, .error x, hide HW.out.toN, hide (QF.out.1.symm.trans (LAW.out l QF.out.2).1), hide (LAW.out l QF.out.2).2⟩
            go_wp2_with fail
            go_meet
            exact ⟨rfl, F5⟩
          | ok k1 =>
            have HLE : Hid (k1 ≤ ts.length) := hide H8.out.le
            obtain ⟨f, ER, EK, EG⟩ : ∃ f, Hid (R = moreC ts s (f + 1) l k1) ∧ Hid (ts.length + 1 - k1 ≤ f + 1) ∧ Hid (gk = ts.length + 2 - k1) := by
             have := HLE.out
             rcases J4.out with ⟨k', f, e0, e, hf, hg⟩ | ⟨y, e0, e, -⟩
             ·
              cases e0
              obtain ⟨f', rfl⟩ : ∃ f', f = f' + 1 := ⟨f - 1, by omega⟩
              exact ⟨f', e, hf, hg⟩
             ·
              cases e0
            have LL : Hid (l.length ≤ 100000) := hide (by have := L4.out; have := HN.out; omega)
            have c3 : wr.cell? ⟨tb, 3, none⟩ = some (.int .i64 0) := H8.out.cells.2.2.2.1
            clear J4
            have IS := hide (is_any bGt sg_gt H8.out)
            have nb : nextB ts s (.ok k1) bGt = eatB ts s bGt k1 := rfl
            rw [nb] at IS
            clear nb
            cases hb : eatB ts s bGt k1
            ·
             rw [hb] at IS
             have ER2 : Hid (R = .ok (l, k1)) := hide (by rw [ER.out, moreC, if_neg (by rw [hb]; decide)])
             clear hb
             go_wp2_with fail
             refine IS.out.mono ?_
             rintro e w5 ⟨rfl, g5⟩
             have H5 := hide (H8.out.chg g5 (fun _ _ h => h))
             have B5 := hide (g5.blk B8.out)
             have X5 := hide (g5.blk X8.out)
             have O5 := hide (own_chgS O8.out g5 (fun _ _ h => h))
             have Z5 := hide (Nat.le_trans Z8.out g5.size)
             have G5 := hide (G8.out.trans g5.none)
             clear g5 c3 IS H8 B8 X8 O8 Z8 G8 HRW
             have HW : Hid (RW w w5 tb v ts s A X bo 6 (t2 : Int) (.ok k1) l) := hide ⟨_, H5, B5, X5, O5, Z5, G5⟩
             have LA := hide (LAW.out l (fun q hq => by rw [ER2.out] at hq; cases hq; rfl))
             have F8 : Hid (RBody w w5 tb v ts s A X bo 6 (t2 : Int) (bodyS ts s 6 (k + 1))) := hide ⟨l, [], 0, .ok k1, hide HW.out.toN, hide (by have := LA.out.1; rw [ER2.out] at this; exact this), hide LA.out.2⟩
             go_wp2_with fail
             go_meet
             exact ⟨rfl, F8⟩
            ·
             rw [hb] at IS
             have HLT : Hid (k1 < ts.length) := hide (eatB_lt hb)
             have ER2 : Hid (R = (tokS ts s 1 (k1 + 1)).bind fun t k2 => moreC ts s f (l ++ [t.2.1]) k2) := hide (by rw [ER.out, moreC, if_pos hb])
             have TL := hide (tokS_lt (ts := ts) (s := s) (kind := 1) (k := k1 + 1) (by decide) HLT.out)
             clear hb
             go_wp2_with fail
             refine IS.out.mono ?_
             rintro e w5 ⟨rfl, g5⟩
             have H5 := hide (H8.out.chg g5 (fun _ _ h => h))
             have B5 := hide (g5.blk B8.out)
             have X5 := hide (g5.blk X8.out)
             have O5 := hide (own_chgS O8.out g5 (fun _ _ h => h))
             have Z5 := hide (Nat.le_trans Z8.out g5.size)
             have G5 := hide (G8.out.trans g5.none)
             clear g5 c3 IS H8 B8 X8 O8 Z8 G8 HRW
             have H6 := hide (H5.out.moved ((k1 : Int) + 1) (by omega) HLT.out)
             have GS := Chg.set w5 tb 2 (.int .i64 ((k1 : Int) + 1))
             have B6 := hide (GS.blkS (by have := DL.out; omega) B5.out)
             have X6 := hide (GS.blkS (by have := DL.out; omega) X5.out)
             have O6 := hide (own_chgS O5.out GS (fun x hx e => by have := DL.out; omega))
             have Z6 := hide (Nat.le_trans Z5.out GS.size)
             have G6 := hide (G5.out.trans GS)
             have c2 : w5.cell? ⟨tb, 2, none⟩ = some (.int .i64 (k1 : Int)) := H5.out.cells.2.2.1
             have x2' := blk_free H5.out.blk 2
             have hkn : (k1 : Int) ≤ 20000 := by have := HN.out; have := HLT.out; omega
             clear GS H5 B5 X5 O5 Z5 G5
             have AAX := hide (fun w' (h : RS w' tb v ts s (.ok (k1 + 1))) => a_any 1 (by decide) h)
             have AAX : Hid (∀ w', RS w' tb v ts s (.ok (k1 + 1)) → Calls Try.prog 71 #[.pointer (some ⟨tb, 0, none⟩), .int .i64 1] w' fun e w'' => e = .returned (.string (tokOf (tokS ts s 1 (k1 + 1))).2.1) ∧ RS w'' tb v ts s (tokS ts s 1 (k1 + 1)).st ∧ Chg (fun x => x = tb) w' w'') := AAX
             obtain ⟨r3, hr3⟩ : ∃ r3, tokS ts s 1 (k1 + 1) = r3 := ⟨_, rfl⟩
             rw [hr3] at AAX ER2 TL
             obtain ⟨x3, hx3⟩ : ∃ x3, (tokOf r3).2.1 = x3 := ⟨_, rfl⟩
             rw [hx3] at AAX
             have HX3 := hide hx3
             clear hr3 hx3
             go_upto_region 24 with fail
             generalize w5.setCell ⟨tb, 2, none⟩ (.int .i64 ((k1 : Int) + 1)) = w6 at *
             clear c2 x2' hkn
             go_wp2_with fail
             have z1 := blk_cell X6.out 1
             simp only [gets] at z1
             have AA : Hid (∀ w', RS w' tb v ts s (.ok (k1 + 1)) → Calls Try.prog 71 #[.pointer (some ⟨tb, 0, none⟩), .int .i64 1] w' fun e w'' => e = .returned (.string x3) ∧ RS w'' tb v ts s (r3.st) ∧ Chg (fun x => x = tb) w' w'') := AAX
             refine wp_region_held_drew (S := (fun _ => True)) (by kernel_rfl) trivial (fun hHeld => ?_)
             refine tkl 0 ?_ ?_ ?_
             rotate_left
             ·
              intro w hSw
              go_simp <;> with_reducible rfl
             try simp only [Act.put, puts]
             refine tkl 2 ?_ ?_ ?_
             rotate_left
             ·
              intro w hSw
              go_simp <;> with_reducible rfl
             try simp only [Act.put, puts]
             refine wpAnyH_ready (rs := [1, 3]) (by kernel_rfl) (by simp) ?_
             refine AllReadyH.cons (i := 1) (o := _) rfl (fun K hK => ?_) ?_
             ·
              go_simp
              refine hK.out _ _ trivial (fun hHeld => ?_)
              clear hK K
              try simp only [Act.put, puts]
              refine rd1 3 (fun K hK => ?_)
              go_simp
              refine (AA.out w6.drew (H6.out.chg ((Chg.refl (fun _ => False) w6).drew) (fun _ _ h => h))).mono ?_
              rintro e v6 ⟨rfl, h6, g6'⟩
              have g6 := (Chg.refl (fun _ => False) w6).drew.none.trans g6'
              have GA := al v6 (.cells #[.string x3] 9)
              have X6 := g6.blkS (by have := DL.out; omega) X6.out
              have X7 := GA.blk X6
              have z16 := blk_cell X6 1
              have z17 := blk_cell X7 1
              simp only [gets] at z16 z17
              have HX7 := hide X7
              have H7 := hide (h6.chg GA (fun _ _ h => h))
              have B7 := hide (GA.blk (g6.blkS (by have := DL.out; omega) B6.out))
              have O7 := hide (own_chgS (own_chgS O6.out g6 (fun x hx e => by have := DL.out; omega)) GA (fun _ _ h => h))
              have Z7 := hide (Nat.le_trans Z6.out (Nat.le_trans g6.size GA.size))
              have G7 := hide ((G6.out.trans g6).trans GA.none)
              have NB := hide (World.news_of_block (cs := #[.string x3]) (t := 9) (fr := (0, 0)) (heap_alloc_new v6 _))
              clear h6 g6 g6' GA X6 X7 z1
              go_simp
              refine hK.out _ _ trivial (fun hHeld => ?_)
              clear hK K
              try simp only [Act.put, puts]
              refine rd1 4 (fun K hK => ?_)
              go_simp
              refine hK.out _ _ trivial (fun hHeld => ?_)
              clear hK K
              try simp only [Act.put, puts]
              refine rd1 5 (fun K hK => ?_)
              refine step_append_lies _ (by rfl) _ _ _ (by rfl) bo 9 i0 (.string ⟨#[]⟩) 1 16 Try.underlying39 hi0 hz0 hz1 hz2 rfl (by omega) _ (l : List ByteArray).length ((l : List ByteArray).map .string) (by rfl) O7.out ⟨v6.heap.size, 0, none⟩ 1 1 [.string x3] (by rfl) (by rfl) NB.out (by simp [Value.oneCell']) (by have := LL.out; first | omega | (simp; omega) | simp | decide) (by have := LL.out; first | (simp [maxLen]; omega) | simp [maxLen]) (by have := LL.out; first | omega | (simp; omega) | simp) Z7.out (v6.heap.size + 1) (by simp) ?_
              intro gg cap2 v8 hown hgrow hgat hglt
              have T8 := (own_grow_chg O7.out hgrow).blkS (by have := DL.out; omega) HX7.out
              have fX8 := blk_free T8 1
              have zX8 := blk_cell T8 1
              simp only [gets] at zX8
              have F9 : Hid (RW w (v8.setCell ⟨X, 1, none⟩ (.slice (some ⟨gg, 0, none⟩) ((l : List ByteArray).length + 1) cap2)) tb v ts s A X bo 6 (t2 : Int) (r3.st) ((l : List ByteArray) ++ [x3])) := hide (rw_app DL.out HX7.out H7.out B7.out O7.out Z7.out G7.out hown hgrow)
              clear T8 hown hgrow hgat hglt
              refine hK.out _ _ trivial (fun hHeld => ?_)
              clear hK K
              try simp only [Act.put, puts]
              refine tkl 6 ?_ ?_ ?_
              rotate_left
              ·
               intro w hSw
               go_simp <;> with_reducible rfl
              try simp only [Act.put, puts]
              refine rd1 7 (fun K hK => ?_)
              go_simp
              refine hK.out _ _ trivial (fun hHeld => ?_)
              clear hK K
              try simp only [Act.put, puts]
              refine wpAnyH_done (by kernel_rfl) ?_ _
              generalize v8.setCell ⟨X, 1, none⟩ (.slice (some ⟨gg, 0, none⟩) (l.length + 1) cap2) = v9 at *
              have I8 : Hid (∃ g', g' < gk ∧ RWInv w v9 tb v ts s A X bo 6 (t2 : Int) (moreC ts s) R g') := hide (by
               have hE := ER2.out
               have hT := TL.out
               have hX := HX3.out
               cases r3 with
               | error y => exact ⟨0, by have := EG.out; have := HLT.out; omega, .error y, l ++ [x3], F9, hide (Or.inr ⟨y, rfl, hE, rfl⟩), hide (by have := LL.out; have := L4.out; have := EG.out; have := HLT.out; rw [List.length_append, List.length_singleton]; omega)⟩
               | ok p =>
                 obtain ⟨pt, pk⟩ := p
                 have hpk : pk = k1 + 1 + 1 := hT.1
                 subst hpk
                 have hx : pt.2.1 = x3 := hX
                 refine ⟨ts.length + 2 - (k1 + 1 + 1), by have := EG.out; have := HLT.out; omega, .ok (k1 + 1 + 1), l ++ [x3], F9, hide (Or.inl ⟨k1 + 1 + 1, f, rfl, by rw [hE, ← hx]; rfl, by have := EK.out; omega, rfl⟩), hide (by have := L4.out; have := EG.out; have := HLT.out; rw [List.length_append, List.length_singleton]; omega)⟩)
              clear F9
              go_wp2_with fail
              obtain ⟨g', hg', HI8⟩ := I8.out
              have HI8 := hide HI8
              clear I8
              go_roundg g'
              case measure => exact hg'
              case rel => exact HI8
             refine AllReadyH.cons (i := 3) (o := _) rfl (fun K hK => ?_) ?_
             rotate_left
             ·
              exact AllReadyH.nil
             go_simp
             refine (AA.out w6.drew (H6.out.chg ((Chg.refl (fun _ => False) w6).drew) (fun _ _ h => h))).mono ?_
             rintro e v6 ⟨rfl, h6, g6'⟩
             have g6 := (Chg.refl (fun _ => False) w6).drew.none.trans g6'
             have GA := al v6 (.cells #[.string x3] 9)
             have X6 := g6.blkS (by have := DL.out; omega) X6.out
             have X7 := GA.blk X6
             have z16 := blk_cell X6 1
             have z17 := blk_cell X7 1
             simp only [gets] at z16 z17
             have HX7 := hide X7
             have H7 := hide (h6.chg GA (fun _ _ h => h))
             have B7 := hide (GA.blk (g6.blkS (by have := DL.out; omega) B6.out))
             have O7 := hide (own_chgS (own_chgS O6.out g6 (fun x hx e => by have := DL.out; omega)) GA (fun _ _ h => h))
             have Z7 := hide (Nat.le_trans Z6.out (Nat.le_trans g6.size GA.size))
             have G7 := hide ((G6.out.trans g6).trans GA.none)
             have NB := hide (World.news_of_block (cs := #[.string x3]) (t := 9) (fr := (0, 0)) (heap_alloc_new v6 _))
             clear h6 g6 g6' GA X6 X7 z1
             go_simp
             refine hK.out _ _ trivial (fun hHeld => ?_)
             clear hK K
             try simp only [Act.put, puts]
             refine wpAnyH_ready (rs := [1, 4]) (by kernel_rfl) (by simp) ?_
             refine AllReadyH.cons (i := 1) (o := _) rfl (fun K hK => ?_) ?_
             ·
              go_simp
              refine hK.out _ _ trivial (fun hHeld => ?_)
              clear hK K
              try simp only [Act.put, puts]
              refine rd1 4 (fun K hK => ?_)
              go_simp
              refine hK.out _ _ trivial (fun hHeld => ?_)
              clear hK K
              try simp only [Act.put, puts]
              refine rd1 5 (fun K hK => ?_)
              refine step_append_lies _ (by rfl) _ _ _ (by rfl) bo 9 i0 (.string ⟨#[]⟩) 1 16 Try.underlying39 hi0 hz0 hz1 hz2 rfl (by omega) _ (l : List ByteArray).length ((l : List ByteArray).map .string) (by rfl) O7.out ⟨v6.heap.size, 0, none⟩ 1 1 [.string x3] (by rfl) (by rfl) NB.out (by simp [Value.oneCell']) (by have := LL.out; first | omega | (simp; omega) | simp | decide) (by have := LL.out; first | (simp [maxLen]; omega) | simp [maxLen]) (by have := LL.out; first | omega | (simp; omega) | simp) Z7.out (v6.heap.size + 1) (by simp) ?_
              intro gg cap2 v8 hown hgrow hgat hglt
              have T8 := (own_grow_chg O7.out hgrow).blkS (by have := DL.out; omega) HX7.out
              have fX8 := blk_free T8 1
              have zX8 := blk_cell T8 1
              simp only [gets] at zX8
              have F9 : Hid (RW w (v8.setCell ⟨X, 1, none⟩ (.slice (some ⟨gg, 0, none⟩) ((l : List ByteArray).length + 1) cap2)) tb v ts s A X bo 6 (t2 : Int) (r3.st) ((l : List ByteArray) ++ [x3])) := hide (rw_app DL.out HX7.out H7.out B7.out O7.out Z7.out G7.out hown hgrow)
              clear T8 hown hgrow hgat hglt
              refine hK.out _ _ trivial (fun hHeld => ?_)
              clear hK K
              try simp only [Act.put, puts]
              refine tkl 6 ?_ ?_ ?_
              rotate_left
              ·
               intro w hSw
               go_simp <;> with_reducible rfl
              try simp only [Act.put, puts]
              refine rd1 7 (fun K hK => ?_)
              go_simp
              refine hK.out _ _ trivial (fun hHeld => ?_)
              clear hK K
              try simp only [Act.put, puts]
              refine wpAnyH_done (by kernel_rfl) ?_ _
              generalize v8.setCell ⟨X, 1, none⟩ (.slice (some ⟨gg, 0, none⟩) (l.length + 1) cap2) = v9 at *
              have I8 : Hid (∃ g', g' < gk ∧ RWInv w v9 tb v ts s A X bo 6 (t2 : Int) (moreC ts s) R g') := hide (by
               have hE := ER2.out
               have hT := TL.out
               have hX := HX3.out
               cases r3 with
               | error y => exact ⟨0, by have := EG.out; have := HLT.out; omega, .error y, l ++ [x3], F9, hide (Or.inr ⟨y, rfl, hE, rfl⟩), hide (by have := LL.out; have := L4.out; have := EG.out; have := HLT.out; rw [List.length_append, List.length_singleton]; omega)⟩
               | ok p =>
                 obtain ⟨pt, pk⟩ := p
                 have hpk : pk = k1 + 1 + 1 := hT.1
                 subst hpk
                 have hx : pt.2.1 = x3 := hX
                 refine ⟨ts.length + 2 - (k1 + 1 + 1), by have := EG.out; have := HLT.out; omega, .ok (k1 + 1 + 1), l ++ [x3], F9, hide (Or.inl ⟨k1 + 1 + 1, f, rfl, by rw [hE, ← hx]; rfl, by have := EK.out; omega, rfl⟩), hide (by have := L4.out; have := EG.out; have := HLT.out; rw [List.length_append, List.length_singleton]; omega)⟩)
              clear F9
              go_wp2_with fail
              obtain ⟨g', hg', HI8⟩ := I8.out
              have HI8 := hide HI8
              clear I8
              go_roundg g'
              case measure => exact hg'
              case rel => exact HI8
             refine AllReadyH.cons (i := 4) (o := _) rfl (fun K hK => ?_) ?_
             rotate_left
             ·
              exact AllReadyH.nil
             go_simp
             refine hK.out _ _ trivial (fun hHeld => ?_)
             clear hK K
             try simp only [Act.put, puts]
             refine rd1 1 (fun K hK => ?_)
             go_simp
             refine hK.out _ _ trivial (fun hHeld => ?_)
             clear hK K
             try simp only [Act.put, puts]
             refine rd1 5 (fun K hK => ?_)
             refine step_append_lies _ (by rfl) _ _ _ (by rfl) bo 9 i0 (.string ⟨#[]⟩) 1 16 Try.underlying39 hi0 hz0 hz1 hz2 rfl (by omega) _ (l : List ByteArray).length ((l : List ByteArray).map .string) (by rfl) O7.out ⟨v6.heap.size, 0, none⟩ 1 1 [.string x3] (by rfl) (by rfl) NB.out (by simp [Value.oneCell']) (by have := LL.out; first | omega | (simp; omega) | simp | decide) (by have := LL.out; first | (simp [maxLen]; omega) | simp [maxLen]) (by have := LL.out; first | omega | (simp; omega) | simp) Z7.out (v6.heap.size + 1) (by simp) ?_
             intro gg cap2 v8 hown hgrow hgat hglt
             have T8 := (own_grow_chg O7.out hgrow).blkS (by have := DL.out; omega) HX7.out
             have fX8 := blk_free T8 1
             have zX8 := blk_cell T8 1
             simp only [gets] at zX8
             have F9 : Hid (RW w (v8.setCell ⟨X, 1, none⟩ (.slice (some ⟨gg, 0, none⟩) ((l : List ByteArray).length + 1) cap2)) tb v ts s A X bo 6 (t2 : Int) (r3.st) ((l : List ByteArray) ++ [x3])) := hide (rw_app DL.out HX7.out H7.out B7.out O7.out Z7.out G7.out hown hgrow)
             clear T8 hown hgrow hgat hglt
             refine hK.out _ _ trivial (fun hHeld => ?_)
             clear hK K
             try simp only [Act.put, puts]
             refine tkl 6 ?_ ?_ ?_
             rotate_left
             ·
              intro w hSw
              go_simp <;> with_reducible rfl
             try simp only [Act.put, puts]
             refine rd1 7 (fun K hK => ?_)
             go_simp
             refine hK.out _ _ trivial (fun hHeld => ?_)
             clear hK K
             try simp only [Act.put, puts]
             refine wpAnyH_done (by kernel_rfl) ?_ _
             generalize v8.setCell ⟨X, 1, none⟩ (.slice (some ⟨gg, 0, none⟩) (l.length + 1) cap2) = v9 at *
             have I8 : Hid (∃ g', g' < gk ∧ RWInv w v9 tb v ts s A X bo 6 (t2 : Int) (moreC ts s) R g') := hide (by
              have hE := ER2.out
              have hT := TL.out
              have hX := HX3.out
              cases r3 with
              | error y => exact ⟨0, by have := EG.out; have := HLT.out; omega, .error y, l ++ [x3], F9, hide (Or.inr ⟨y, rfl, hE, rfl⟩), hide (by have := LL.out; have := L4.out; have := EG.out; have := HLT.out; rw [List.length_append, List.length_singleton]; omega)⟩
              | ok p =>
                obtain ⟨pt, pk⟩ := p
                have hpk : pk = k1 + 1 + 1 := hT.1
                subst hpk
                have hx : pt.2.1 = x3 := hX
                refine ⟨ts.length + 2 - (k1 + 1 + 1), by have := EG.out; have := HLT.out; omega, .ok (k1 + 1 + 1), l ++ [x3], F9, hide (Or.inl ⟨k1 + 1 + 1, f, rfl, by rw [hE, ← hx]; rfl, by have := EK.out; omega, rfl⟩), hide (by have := L4.out; have := EG.out; have := HLT.out; rw [List.length_append, List.length_singleton]; omega)⟩)
             clear F9
             go_wp2_with fail
             obtain ⟨g', hg', HI8⟩ := I8.out
             have HI8 := hide HI8
             clear I8
             go_roundg g'
             case measure => exact hg'
             case rel => exact HI8
       ·
        exfalso
        have := HGRP.out
        omega
       ·
        exfalso
        have := HGRP.out
        omega
      ·
       have NN := hide hNN
       obtain ⟨r1, hr1⟩ : ∃ r1, tokS ts s 2 (k + 1) = r1 := ⟨_, rfl⟩
       have HR1 := hide hr1
       rw [hr1] at NN
       obtain ⟨num, hnm⟩ : ∃ num, numV (tokOf r1) = num := ⟨_, rfl⟩
       have HNM := hide hnm
       rw [hnm] at NN
       obtain ⟨st1, hst1⟩ : ∃ st1, r1.st = st1 := ⟨_, rfl⟩
       have HST1 := hide hst1
       rw [hst1] at NN
       have hkc : kd = 8 ∨ kd = 9 ∨ kd = 10 ∨ kd = 11 := by have := KB2.out; omega
       clear KB2 hg hST hr1 hnm hst1 hNN
       rcases hkc with rfl | rfl | rfl | rfl
       all_goals (have := HGRP.out; omega)
     case rest =>
      obtain ⟨rfl, hM⟩ := hcut
      clear z0 hST HBB
      generalize wc = w9 at *
      obtain ⟨l, ns, num, st, HRN, HST, Q6⟩ := hM.out
      obtain ⟨u1, u2, us, H6, B6, X6, S6, O6, M6, Z6, G6⟩ := HRN.out
      obtain ⟨a1, c1, rfl⟩ : ∃ a1 c1, u1 = Value.slice a1 l.length c1 := by obtain ⟨a, c, e, _⟩ := S6.out; exact ⟨a, c, e⟩
      have N6 := hide (sameN_ts O6.out M6.out)
      obtain ⟨a2, c2, rfl⟩ : ∃ a2 c2, u2 = Value.slice a2 (Ns.ofL ns).len c2 := by obtain ⟨a, c, e, _⟩ := N6.out; exact ⟨a, c, e⟩
      clear hM HRN
      have MU := hide (sign_any' bSemi sg_semi H6.out)
      have LAW : Hid ((st.then (mustS ts s bSemi)) = (itemS ts s k).st ∧ ∀ q, itemS ts s k = .ok q → ((kd, l, Ns.ofL ns, num, (t2 : Int)) : It) = q.1) := hide (by
       rw [HI.out, HST.out]
       have hq := Q6.out
       cases hb : bodyS ts s kd (k + 1) with
       | error x => exact ⟨rfl, fun q hq => by cases hq⟩
       | ok p =>
         have e := hq p hb
         simp only [Rz.st, St.then, Rz.bind]
         cases mustS ts s bSemi p.2 with
         | error x => exact ⟨rfl, fun q hq => by cases hq⟩
         | ok k2 => exact ⟨rfl, fun q hq => by cases hq; rw [← e]⟩)
      rw [LAW.out.1] at MU
      clear Q6 HST
      generalize Ns.ofL ns = nn at *
      go_wp2_with fail
      refine MU.out.mono ?_
      rintro e wf ⟨rfl, hf, gf⟩
      have HF := hide hf
      have BF := hide (gf.blkS (by have := DL.out; omega) B6.out)
      have XF := hide (gf.blkS (by have := DL.out; omega) X6.out)
      have GF := hide (G6.out.trans gf)
      have SF := hide (S6.out.chg gf (fun x hx e => by have := hx.1; have := DL.out; omega))
      have NF := hide (N6.out.chg gf (fun x hx e => by have := hx.1; have := DL.out; omega))
      have SZ := hide gf.size
      have z0 := blk_cell XF.out 0
      have z1 := blk_cell XF.out 1
      have z2 := blk_cell XF.out 2
      have z3 := blk_cell XF.out 3
      have z4 := blk_cell XF.out 4
      simp only [gets] at z0 z1 z2 z3 z4
      clear hf gf MU O6 M6
      have b0 := blk_cell BF.out 0
      have f0 := blk_free BF.out 0
      have b1 := blk_cell BF.out 1
      have f1 := blk_free BF.out 1
      have b2 := blk_cell BF.out 2
      have f2 := blk_free BF.out 2
      have b3 := blk_cell BF.out 3
      have f3 := blk_free BF.out 3
      have b4 := blk_cell BF.out 4
      have f4 := blk_free BF.out 4
      simp only [gets] at b0 b1 b2 b3 b4
      go_wp2_with fail
      clear b0 b1 b2 b3 b4 f0 f1 f2 f3 f4
      have NS : Hid ((((((wf.setCell ⟨A, 0, none⟩ (.int .i64 kd)).setCell ⟨A, 1, none⟩ (.slice a1 l.length c1)).setCell ⟨A, 2, none⟩ (.slice a2 nn.len c2)).setCell ⟨A, 3, none⟩ (.int .i64 num)).setCell ⟨A, 4, none⟩ (.int .i64 (t2 : Int))).heap[A]? = some (.cells #[.int .i64 kd, .slice a1 l.length c1, .slice a2 nn.len c2, .int .i64 num, .int .i64 (t2 : Int)] 42) ∧ Chg (fun x => x = A) wf (((((wf.setCell ⟨A, 0, none⟩ (.int .i64 kd)).setCell ⟨A, 1, none⟩ (.slice a1 l.length c1)).setCell ⟨A, 2, none⟩ (.slice a2 nn.len c2)).setCell ⟨A, 3, none⟩ (.int .i64 num)).setCell ⟨A, 4, none⟩ (.int .i64 (t2 : Int)))) := hide ⟨(blk_set (blk_set (blk_set (blk_set (blk_set BF.out 0 (.int .i64 kd)) 1 (.slice a1 l.length c1)) 2 (.slice a2 nn.len c2)) 3 (.int .i64 num)) 4 (.int .i64 (t2 : Int))), (((((Chg.set wf A 0 (.int .i64 kd)).trans (Chg.set (wf.setCell ⟨A, 0, none⟩ (.int .i64 kd)) A 1 (.slice a1 l.length c1))).trans (Chg.set ((wf.setCell ⟨A, 0, none⟩ (.int .i64 kd)).setCell ⟨A, 1, none⟩ (.slice a1 l.length c1)) A 2 (.slice a2 nn.len c2))).trans (Chg.set (((wf.setCell ⟨A, 0, none⟩ (.int .i64 kd)).setCell ⟨A, 1, none⟩ (.slice a1 l.length c1)).setCell ⟨A, 2, none⟩ (.slice a2 nn.len c2)) A 3 (.int .i64 num))).trans (Chg.set ((((wf.setCell ⟨A, 0, none⟩ (.int .i64 kd)).setCell ⟨A, 1, none⟩ (.slice a1 l.length c1)).setCell ⟨A, 2, none⟩ (.slice a2 nn.len c2)).setCell ⟨A, 3, none⟩ (.int .i64 num)) A 4 (.int .i64 (t2 : Int))))⟩
      have FS := hide (HF.out.chg NS.out.2 (fun x hx e => by have := DL.out; omega))
      have CS := hide (rchg_fresh GF.out NS.out.2 (by have := DL.out; omega))
      generalize (((((wf.setCell ⟨A, 0, none⟩ (.int .i64 kd)).setCell ⟨A, 1, none⟩ (.slice a1 l.length c1)).setCell ⟨A, 2, none⟩ (.slice a2 nn.len c2)).setCell ⟨A, 3, none⟩ (.int .i64 num)).setCell ⟨A, 4, none⟩ (.int .i64 (t2 : Int))) = wF at *
      have r0 := blk_cell NS.out.1 0
      have r1 := blk_cell NS.out.1 1
      have r2 := blk_cell NS.out.1 2
      have r3 := blk_cell NS.out.1 3
      have r4 := blk_cell NS.out.1 4
      refine bodyPost_ret (v := .agg #[.int .i64 kd, .slice a1 l.length c1, .slice a2 nn.len c2, .int .i64 num, .int .i64 (t2 : Int)]) (by simp [results, Try.results37, go_sem, r0, r1, r2, r3, r4]) rfl ?_
      have S8 := SF.out.chg NS.out.2 (fun x hx e => by have := hx.1; have := DL.out; omega)
      have N8 := NF.out.chg NS.out.2 (fun x hx e => by have := hx.1; have := DL.out; omega)
      exact ⟨⟨_, ((kd, l, nn, num, (t2 : Int)) : It), rfl, ⟨_, _, rfl, S8.up (fun x hx => ⟨by have := hx.1; have := DL.out; omega, by have h1 := NS.out.2.size; have h2 := SZ.out; have := hx.2.1; omega⟩), N8.up (fun x hx => ⟨by have := hx.1; have := DL.out; omega, by have h1 := NS.out.2.size; have h2 := SZ.out; have := hx.2; omega⟩)⟩, LAW.out.2⟩, FS.out, CS.out⟩
 ·
  have e1 : (t0 == 1) = false := by simpa using h1
  have HR : Hid (itemS ts s k = .error (3, k)) := hide (by unfold itemS; rw [HT.out, if_pos (Or.inl h1)])
  have H1 := hide h1
  clear h1 KB HK HT RK WD
  exact absurd HGRP.out.1 H1.out
end Go.Proofs.Ytboeeaekhijboaa
