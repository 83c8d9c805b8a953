/- The rows of types that are made have their capacity: the same walks, with that said too. -/
import Derived.Test.YtnpcapdlgcaniaaDoorClose30
import Derived.Test.YtnpcapdlgcaniaaDoorRefAll
import Derived.Deep.DeepCutAuto
import Derived.Deep.CutBlock
namespace Go.Proofs.YtnpcapdlgcaniaaDoor
open Go.RowKit
set_option linter.unusedVariables false
set_option linter.unusedSimpArgs false

set_option maxRecDepth 100000 in
set_option maxHeartbeats 32000000 in
theorem copied_stepC (n : Nat) (hn : n ≤ 1000000) (ih : ∀ (f : Fs), f.size < n → ∀ (v : Value) (b : Int) (X : Nat → Prop) (w : World), (∀ x, X x → x < w.heap.size) → Ts w X v f →
    Calls Tryd.prog 59 #[.agg #[v, .int .i64 b]] w fun e w' => (∃ v', e = .returned (.agg #[v', .int .i64 b]) ∧ Ts w' (fun x => w.heap.size ≤ x ∧ x < w'.heap.size) v' f) ∧ Chg (fun _ => False) w w')
    (f : Fs) (hf : f.size ≤ n) (v : Value) (b : Int) (X : Nat → Prop) (w : World) (hB : ∀ x, X x → x < w.heap.size) (hv : Ts w X v f) :
    Calls Tryd.prog 59 #[.agg #[v, .int .i64 b]] w fun e w' => (∃ v', e = .returned (.agg #[v', .int .i64 b]) ∧ Ts w' (fun x => w.heap.size ≤ x ∧ x < w'.heap.size) v' f ∧ CapOk v') ∧ Chg (fun _ => False) w w' := by
  obtain ⟨i0, hi0, hz0, hz1, hz2⟩ := info_parts info73
  have IH := hide ih
  obtain ⟨a, cap, rfl, hx⟩ := id hv
  have HV := hide hv
  have HB := hide hB
  have hfl := Fs.len_size f
  have htl := Fs.toL_len f
  have HF := hide hf
  have hln : f.len ≤ 1000001 := by omega
  have G1 := al w (.cells #[.slice a f.len cap, .int .i64 b] 73)
  have G2 := al (w.alloc (.cells #[.slice a f.len cap, .int .i64 b] 73)) (.cells #[.slice none 0 0, .int .i64 0] 73)
  have G3 := al ((w.alloc (.cells #[.slice a f.len cap, .int .i64 b] 73)).alloc (.cells #[.slice none 0 0, .int .i64 0] 73)) (.cells #[.slice none 0 0, .int .i64 b] 73)
  have b1 := blk_new (w.alloc (.cells #[.slice a f.len cap, .int .i64 b] 73)) (.cells #[.slice none 0 0, .int .i64 0] 73)
  have b2 := blk_new ((w.alloc (.cells #[.slice a f.len cap, .int .i64 b] 73)).alloc (.cells #[.slice none 0 0, .int .i64 0] 73)) (.cells #[.slice none 0 0, .int .i64 b] 73)
  have b1' := G3.blk (fun h => h) b1
  rw [al_sz, al_sz] at b2
  rw [al_sz] at b1'
  have GG := hide (G1.trans (G2.trans G3))
  have sz3 : (((w.alloc (.cells #[.slice a f.len cap, .int .i64 b] 73)).alloc (.cells #[.slice none 0 0, .int .i64 0] 73)).alloc (.cells #[.slice none 0 0, .int .i64 b] 73)).heap.size = w.heap.size + 3 := by rw [al_sz, al_sz, al_sz]
  have BR := hide b1'
  have BO := hide b2
  have SZ := hide sz3
  clear hx hv ih hB hf G1 G2 G3 b1 b2 b1' sz3
  go_enter Tryd.func59, Tryd.ntmps59
  go_wp2_with fail
  generalize (((w.alloc (.cells #[.slice a f.len cap, .int .i64 b] 73)).alloc (.cells #[.slice none 0 0, .int .i64 0] 73)).alloc (.cells #[.slice none 0 0, .int .i64 b] 73)) = w1 at *
  have NN : Hid (w.heap.size ≤ w.heap.size) := hide (Nat.le_refl _)
  obtain ⟨R, hR⟩ : ∃ R, w.heap.size + 1 = R := ⟨_, rfl⟩
  rw [hR] at BR BO ⊢
  obtain ⟨O, hO⟩ : ∃ O, R + 1 = O := ⟨_, rfl⟩
  rw [hO] at BO ⊢
  obtain ⟨bo, hbo⟩ : ∃ bo, w1.heap.size = bo := ⟨_, rfl⟩
  have HS := hide hbo
  have HO : Hid (O < bo ∧ R < O ∧ w.heap.size ≤ R) := hide (by have := SZ.out; refine ⟨by omega, by omega, by omega⟩)
  clear hR hO hbo SZ NN
  go_loopw [12] (fun iv wr => ∃ (i : Nat), i ≤ f.len ∧ iv = .int .i64 i ∧ Hid (CInv w1 wr O bo b f i)) (fun iv _ => f.len - (intOf iv).toNat)
  case atStart => exact ⟨0, Nat.zero_le _, rfl, _, [], BO, ⟨rfl, Or.inl ⟨rfl, rfl⟩⟩, rfl, Same1.nil _ _ _ _, Nat.le_of_eq HS.out.symm, Chg.refl _ _⟩
  case round =>
    clear BO
    obtain ⟨i, hi, rfl, hIN⟩ := hrel
    obtain ⟨u, us, hT, hA, hL, hM, hZ, hC⟩ := hIN.out
    clear hIN
    by_cases hlt : i < f.len
    · have hit : i < f.toL.length := by omega
      obtain ⟨la, lc, hlv, hl⟩ := HV.out
      rcases hl with h0 | ⟨g, off, rfl, hg, hl⟩
      · subst h0; exact absurd hlt (Nat.not_lt_zero _)
      injection hlv with e1 e2 e3
      subst e1
      obtain ⟨⟨vi, c0, ti⟩, c1⟩ := lies_get hl i hit
      obtain ⟨ka, kc, rfl, _⟩ := id ti
      have hks := Fs.kid_size f i hit
      have WC : Chg (fun x => x = O) w wr := GG.out.none.trans hC.out
      have nO : ∀ x, X x → ¬ x = O := fun x hx e => by have := HB.out x hx; have := HO.out; omega
      have d0 := WC.cell (nO g hg) c0
      have d1 := WC.cell (nO g hg) c1
      have ti5 := hide (((ti.chg WC nO).chg (al wr (.cells #[.slice ka (f.toL[i]).1.len kc, .int .i64 (f.toL[i]).2] 73)) (fun _ _ h => h)))
      have KI := hide (IH.out (f.toL[i]).1 (by have := HF.out; omega) (.slice ka (f.toL[i]).1.len kc) (f.toL[i]).2 X)
      have BW := hide (fun x (hx : X x) => Nat.lt_of_lt_of_le (HB.out x hx) (Nat.le_trans WC.size (al wr (.cells #[.slice ka (f.toL[i]).1.len kc, .int .i64 (f.toL[i]).2] 73)).size))
      have SN := hide (fun (w' : World) (v' : Value) (h : Same1 w' bo u f us) (hv' : Ts w' (fun x => bo ≤ x ∧ x < w'.heap.size ∧ u.ownBlock ≠ some x) v' (f.toL[i]).1) => h.snoc hit hL.out rfl hv')
      have RL := hide (fun r (e : u.ownBlock = some r) => World.ownsRow.lt (show wr.ownsRow bo 73 2 u us.length (cellsV us) from hA.out) r e)
      have SA := hide (al_size wr (.cells #[.slice ka (f.toL[i]).1.len kc, .int .i64 (f.toL[i]).2] 73))
      have i1 : (0 : Int) ≤ (i : Int) := by omega
      have i2 : (i : Int) < (f.len : Int) := by omega
      have b5 := blk_new wr (.cells #[.slice ka (f.toL[i]).1.len kc, .int .i64 (f.toL[i]).2] 73)
      have G5 := al wr (.cells #[.slice ka (f.toL[i]).1.len kc, .int .i64 (f.toL[i]).2] 73)
      have T5 := G5.blk (fun h => h) hT.out
      have A5 := hide (own_chg (show wr.ownsRow bo 73 2 u us.length (cellsV us) from hA.out) G5 (fun x hx h => h))
      have M5 := hide (hM.out.chg G5 (fun _ _ _ _ h => h))
      have C5 := hide (hC.out.trans G5.none)
      have Z5 := hide (Nat.le_trans hZ.out G5.size)
      have lO : ¬ wr.heap.size = O := fun e => by have := HO.out; have := hZ.out; omega
      have LO := hide lO
      have hus : us.length ≤ 1000001 := by have := hL.out; omega
      have HUL := hide hL.out
      clear hl c0 c1 ti hks WC nO G5 hT hA hL hM hZ hC lO
      obtain ⟨kk, hkk⟩ : ∃ kk, kk = (f.toL[i]).1 := ⟨_, rfl⟩
      rw [← hkk] at d0 ti5 KI SN BW SA b5 T5 A5 M5 C5 Z5
      generalize (f.toL[i]).2 = kb at *
      clear hkk
      go_wp2_with fail
      generalize wr.alloc (.cells #[.slice ka kk.len kc, .int .i64 kb] 73) = w5 at *
      have y0 := blk_cell b5 0
      have y1 := blk_cell b5 1
      have zO := blk_cell T5 0
      simp only [List.getElem?_toArray, List.getElem?_cons_zero, List.getElem?_cons_succ] at y0 y1 zO
      have HT5 := hide T5
      clear b5 T5 d0 d1
      generalize wr.heap.size = A at *
      refine wp_region_held_drew (S := (fun w' => w'.cell? ⟨A, 0, none⟩ = some (.slice ka kk.len kc) ∧ w'.cell? ⟨A, 1, none⟩ = some (.int .i64 kb))) (by kernel_rfl) (by go_keep) (fun hHeld => ?_)
      first
        | (refine wpAnyH_take (i := 0) (v := undef) rfl (by kernel_rfl) (by kernel_rfl) (by kernel_rfl) (fun _ _ _ h => h) (Or.inr ⟨by rfl, rfl⟩) (by assumption) ?_)
        | (refine wpAnyH_take (i := 0) (v := ?_) rfl (by kernel_rfl) (by kernel_rfl) (by kernel_rfl) (fun _ _ _ h => h) (Or.inl ⟨by rfl, ?_⟩) (by assumption) ?_
           rotate_left
           (intro w hSw
            (try dsimp only at hSw)
            (go_simp <;> with_reducible rfl)))
      try simp only [Act.put, List.getElem_toArray, List.getElem_cons_zero, List.getElem_cons_succ, List.setIfInBounds_toArray, List.set_cons_zero, List.set_cons_succ]
      first
        | (refine wpAnyH_take (i := 2) (v := undef) rfl (by kernel_rfl) (by kernel_rfl) (by kernel_rfl) (fun _ _ _ h => h) (Or.inr ⟨by rfl, rfl⟩) (by assumption) ?_)
        | (refine wpAnyH_take (i := 2) (v := ?_) rfl (by kernel_rfl) (by kernel_rfl) (by kernel_rfl) (fun _ _ _ h => h) (Or.inl ⟨by rfl, ?_⟩) (by assumption) ?_
           rotate_left
           (intro w hSw
            (try dsimp only at hSw)
            (go_simp <;> with_reducible rfl)))
      try simp only [Act.put, List.getElem_toArray, List.getElem_cons_zero, List.getElem_cons_succ, List.setIfInBounds_toArray, List.set_cons_zero, List.set_cons_succ]
      refine wpAnyH_ready (rs := [1, 3]) (by kernel_rfl) (by simp) ?_
      refine AllReadyH.cons (i := 1) (o := _) rfl (fun K hK => ?_) ?_
      · go_simp
        refine hK.out _ _ ⟨y0, y1⟩ (fun hHeld => ?_)
        clear hK K
        try simp only [Act.put, List.getElem_toArray, List.getElem_cons_zero, List.getElem_cons_succ, List.setIfInBounds_toArray, List.set_cons_zero, List.set_cons_succ]
        refine wpAnyH_ready (rs := [3]) (by kernel_rfl) (by simp) ?_
        refine AllReadyH.cons (i := 3) (o := _) rfl (fun K hK => ?_) ?_
        rotate_left
        · exact AllReadyH.nil
        go_simp
        refine (KI.out w5.drew BW.out (ti5.out.chg ((Chg.refl (fun _ => False) w5).drew) (fun _ _ h => h))).mono ?_
        rintro e w6 ⟨⟨v', rfl, t6⟩, g6'⟩
        obtain ⟨va, vc, rfl, _⟩ := id t6
        have g6 := (Chg.refl (fun _ => False) w5).drew.trans g6'
        have y06 := g6.cell (fun h => h) y0
        have y16 := g6.cell (fun h => h) y1
        have zO6 := g6.cell (fun h => h) zO
        have G7 := al w6 (.cells #[.slice va kk.len vc, .int .i64 kb] 73)
        have y07 := G7.cell (fun h => h) y06
        have y17 := G7.cell (fun h => h) y16
        have zO7 := G7.cell (fun h => h) zO6
        have HT7 := hide (G7.blk (fun h => h) (g6.blk (fun h => h) HT5.out))
        have A7 := hide (own_chg (own_chg A5.out g6 (fun x hx h => h)) G7 (fun x hx h => h))
        have M7 := (M5.out.chg g6 (fun _ _ _ _ h => h)).chg G7 (fun _ _ _ _ h => h)
        have C7 := hide ((C5.out.trans g6.none).trans G7.none)
        have T7 := (t6.chg G7 (fun _ _ h => h)).up (Y := fun x => bo ≤ x ∧ x < (w6.alloc (.cells #[.slice va kk.len vc, .int .i64 kb] 73)).heap.size ∧ u.ownBlock ≠ some x) (fun x hx => ⟨Nat.le_trans Z5.out hx.1, Nat.lt_of_lt_of_le hx.2 G7.size, fun e => by have h1 := (RL.out x e).2; have h2 := SA.out; have h3 : w5.heap.size ≤ x := hx.1; omega⟩)
        have N7 := hide (SN.out _ _ M7 T7)
        have Z7 := hide (Nat.le_trans Z5.out (Nat.le_trans g6.size G7.size))
        have NB := hide (World.news_of_block (cs := #[.slice va kk.len vc, .int .i64 kb]) (t := 73) (fr := (0, 0)) (heap_alloc_new w6 _))
        clear t6 g6 g6' G7 M7 T7
        go_simp
        refine hK.out _ _ ⟨y06, y16⟩ (fun hHeld => ?_)
        clear hK K
        try simp only [Act.put, List.getElem_toArray, List.getElem_cons_zero, List.getElem_cons_succ, List.setIfInBounds_toArray, List.set_cons_zero, List.set_cons_succ]
        refine wpAnyH_ready (rs := [4]) (by kernel_rfl) (by simp) ?_
        refine AllReadyH.cons (i := 4) (o := _) rfl (fun K hK => ?_) ?_
        rotate_left
        · exact AllReadyH.nil
        go_simp
        refine hK.out _ _ ⟨y07, y17⟩ (fun hHeld => ?_)
        clear hK K
        try simp only [Act.put, List.getElem_toArray, List.getElem_cons_zero, List.getElem_cons_succ, List.setIfInBounds_toArray, List.set_cons_zero, List.set_cons_succ]
        refine wpAnyH_ready (rs := [5]) (by kernel_rfl) (by simp) ?_
        refine AllReadyH.cons (i := 5) (o := _) rfl (fun K hK => ?_) ?_
        rotate_left
        · exact AllReadyH.nil
        refine step_append_lies _ (by rfl) _ _ _ (by rfl) bo 73 i0 (.agg #[.slice none 0 0, .int .i64 0]) 2 32 Tryd.underlying31 hi0 hz0 hz1 hz2 rfl (by omega) _ us.length (cellsV us) (by rfl) A7.out ⟨w6.heap.size, 0, none⟩ 1 1 [.slice va kk.len vc, .int .i64 kb] (by rfl) (by rfl) NB.out (by simp [Value.oneCell']) (by omega) (by simp [maxLen]; omega) (by omega) Z7.out (w6.heap.size + 1) (by simp) ?_
        intro gg cap2 w8 hown hgrow hgat hglt
        have GR := (Chg.refl (fun x => u.ownBlock = some x) (w6.alloc (.cells #[.slice va kk.len vc, .int .i64 kb] 73))).grown hgrow (fun r e => Or.inl e)
        have nA : ¬ u.ownBlock = some A := fun e => by have := (RL.out A e).2; omega
        have nO : ¬ u.ownBlock = some O := fun e => by have := (RL.out O e).1; have := HO.out; omega
        have T8 := GR.blk nO HT7.out
        have zO8 := blk_cell T8 0
        have fO8 := blk_free T8 0
        simp only [List.getElem?_toArray, List.getElem?_cons_zero, List.getElem?_cons_succ] at zO8
        have y08 := GR.cell nA y07
        have y18 := GR.cell nA y17
        have M8 := N7.out.grown hgrow (u' := .slice (some ⟨gg, 0, none⟩) (us.length + 1) cap2) (by rcases hgat with h | h; exact Or.inl (by rw [h]; rfl); exact Or.inr (by rw [h, al_sz]; rfl))
        have G9 := Chg.set w8 O 0 (.slice (some ⟨gg, 0, none⟩) (us.length + 1) cap2)
        have T9 : Hid ((w8.setCell ⟨O, 0, none⟩ (.slice (some ⟨gg, 0, none⟩) (us.length + 1) cap2)).heap[O]? = some (.cells #[.slice (some ⟨gg, 0, none⟩) (us.length + 1) cap2, .int .i64 b] 73)) := hide (blk_set T8 0 (.slice (some ⟨gg, 0, none⟩) (us.length + 1) cap2))
        have A9 := hide (tacc_snoc (own_chg hown G9 (fun x hx e => by have := HO.out; omega)))
        have M9 := hide (M8.chg G9 (fun x hx _ _ e => by have := HO.out; omega))
        have Z9 := hide (Nat.le_trans Z7.out (Nat.le_trans GR.size G9.size))
        have C9 : Hid (Chg (fun x => x = O) w1 (w8.setCell ⟨O, 0, none⟩ (.slice (some ⟨gg, 0, none⟩) (us.length + 1) cap2))) := hide (by
          have h1 : Chg (fun x => x = O ∨ bo ≤ x) w1 _ := ((C7.out.mono (fun x _ h => Or.inl h)).trans (GR.mono (fun x _ h => Or.inr (RL.out x h).1))).trans (G9.mono (fun x _ h => Or.inl h))
          exact h1.mono (fun x hx h => by have := HS.out; omega))
        have y09 := G9.cell LO.out y08
        have y19 := G9.cell LO.out y18
        have HL9 : Hid ((us ++ [((Value.slice va kk.len vc), kb)]).length = i + 1) := hide (by rw [List.length_append, HUL.out]; rfl)
        have F9 : Hid (CInv w1 (w8.setCell ⟨O, 0, none⟩ (.slice (some ⟨gg, 0, none⟩) (us.length + 1) cap2)) O bo b f (i + 1)) := hide ⟨_, us ++ [(.slice va kk.len vc, kb)], T9, A9, HL9, M9, Z9, C9⟩
        clear GR T8 M8 G9 hown hgrow hgat nA nO T9 A9 HL9 M9 Z9 C9
        refine hK.out _ _ ⟨y08, y18⟩ (fun hHeld => ?_)
        clear hK K
        try simp only [Act.put, List.getElem_toArray, List.getElem_cons_zero, List.getElem_cons_succ, List.setIfInBounds_toArray, List.set_cons_zero, List.set_cons_succ]
        first
          | (refine wpAnyH_take (i := 6) (v := undef) rfl (by kernel_rfl) (by kernel_rfl) (by kernel_rfl) (fun _ _ _ h => h) (Or.inr ⟨by rfl, rfl⟩) (by assumption) ?_)
          | (refine wpAnyH_take (i := 6) (v := ?_) rfl (by kernel_rfl) (by kernel_rfl) (by kernel_rfl) (fun _ _ _ h => h) (Or.inl ⟨by rfl, ?_⟩) (by assumption) ?_
             rotate_left
             (intro w hSw
              (try dsimp only at hSw)
              (go_simp <;> with_reducible rfl)))
        try simp only [Act.put, List.getElem_toArray, List.getElem_cons_zero, List.getElem_cons_succ, List.setIfInBounds_toArray, List.set_cons_zero, List.set_cons_succ]
        refine wpAnyH_ready (rs := [7]) (by kernel_rfl) (by simp) ?_
        refine AllReadyH.cons (i := 7) (o := _) rfl (fun K hK => ?_) ?_
        rotate_left
        · exact AllReadyH.nil
        go_simp
        refine hK.out _ _ ⟨y09, y19⟩ (fun hHeld => ?_)
        clear hK K
        try simp only [Act.put, List.getElem_toArray, List.getElem_cons_zero, List.getElem_cons_succ, List.setIfInBounds_toArray, List.set_cons_zero, List.set_cons_succ]
        refine wpAnyH_done (by kernel_rfl) ?_ _
        go_wp2_with fail
        go_roundw
        case rel => exact ⟨i + 1, by omega, by go_num, F9⟩
        case measure => simp [intOf]; omega
      refine AllReadyH.cons (i := 3) (o := _) rfl (fun K hK => ?_) ?_
      rotate_left
      · exact AllReadyH.nil
      go_simp
      refine (KI.out w5.drew BW.out (ti5.out.chg ((Chg.refl (fun _ => False) w5).drew) (fun _ _ h => h))).mono ?_
      rintro e w6 ⟨⟨v', rfl, t6⟩, g6'⟩
      obtain ⟨va, vc, rfl, _⟩ := id t6
      have g6 := (Chg.refl (fun _ => False) w5).drew.trans g6'
      have y06 := g6.cell (fun h => h) y0
      have y16 := g6.cell (fun h => h) y1
      have zO6 := g6.cell (fun h => h) zO
      have G7 := al w6 (.cells #[.slice va kk.len vc, .int .i64 kb] 73)
      have y07 := G7.cell (fun h => h) y06
      have y17 := G7.cell (fun h => h) y16
      have zO7 := G7.cell (fun h => h) zO6
      have HT7 := hide (G7.blk (fun h => h) (g6.blk (fun h => h) HT5.out))
      have A7 := hide (own_chg (own_chg A5.out g6 (fun x hx h => h)) G7 (fun x hx h => h))
      have M7 := (M5.out.chg g6 (fun _ _ _ _ h => h)).chg G7 (fun _ _ _ _ h => h)
      have C7 := hide ((C5.out.trans g6.none).trans G7.none)
      have T7 := (t6.chg G7 (fun _ _ h => h)).up (Y := fun x => bo ≤ x ∧ x < (w6.alloc (.cells #[.slice va kk.len vc, .int .i64 kb] 73)).heap.size ∧ u.ownBlock ≠ some x) (fun x hx => ⟨Nat.le_trans Z5.out hx.1, Nat.lt_of_lt_of_le hx.2 G7.size, fun e => by have h1 := (RL.out x e).2; have h2 := SA.out; have h3 : w5.heap.size ≤ x := hx.1; omega⟩)
      have N7 := hide (SN.out _ _ M7 T7)
      have Z7 := hide (Nat.le_trans Z5.out (Nat.le_trans g6.size G7.size))
      have NB := hide (World.news_of_block (cs := #[.slice va kk.len vc, .int .i64 kb]) (t := 73) (fr := (0, 0)) (heap_alloc_new w6 _))
      clear t6 g6 g6' G7 M7 T7
      go_simp
      refine hK.out _ _ ⟨y06, y16⟩ (fun hHeld => ?_)
      clear hK K
      try simp only [Act.put, List.getElem_toArray, List.getElem_cons_zero, List.getElem_cons_succ, List.setIfInBounds_toArray, List.set_cons_zero, List.set_cons_succ]
      refine wpAnyH_ready (rs := [1, 4]) (by kernel_rfl) (by simp) ?_
      refine AllReadyH.cons (i := 1) (o := _) rfl (fun K hK => ?_) ?_
      · go_simp
        refine hK.out _ _ ⟨y06, y16⟩ (fun hHeld => ?_)
        clear hK K
        try simp only [Act.put, List.getElem_toArray, List.getElem_cons_zero, List.getElem_cons_succ, List.setIfInBounds_toArray, List.set_cons_zero, List.set_cons_succ]
        refine wpAnyH_ready (rs := [4]) (by kernel_rfl) (by simp) ?_
        refine AllReadyH.cons (i := 4) (o := _) rfl (fun K hK => ?_) ?_
        rotate_left
        · exact AllReadyH.nil
        go_simp
        refine hK.out _ _ ⟨y07, y17⟩ (fun hHeld => ?_)
        clear hK K
        try simp only [Act.put, List.getElem_toArray, List.getElem_cons_zero, List.getElem_cons_succ, List.setIfInBounds_toArray, List.set_cons_zero, List.set_cons_succ]
        refine wpAnyH_ready (rs := [5]) (by kernel_rfl) (by simp) ?_
        refine AllReadyH.cons (i := 5) (o := _) rfl (fun K hK => ?_) ?_
        rotate_left
        · exact AllReadyH.nil
        refine step_append_lies _ (by rfl) _ _ _ (by rfl) bo 73 i0 (.agg #[.slice none 0 0, .int .i64 0]) 2 32 Tryd.underlying31 hi0 hz0 hz1 hz2 rfl (by omega) _ us.length (cellsV us) (by rfl) A7.out ⟨w6.heap.size, 0, none⟩ 1 1 [.slice va kk.len vc, .int .i64 kb] (by rfl) (by rfl) NB.out (by simp [Value.oneCell']) (by omega) (by simp [maxLen]; omega) (by omega) Z7.out (w6.heap.size + 1) (by simp) ?_
        intro gg cap2 w8 hown hgrow hgat hglt
        have GR := (Chg.refl (fun x => u.ownBlock = some x) (w6.alloc (.cells #[.slice va kk.len vc, .int .i64 kb] 73))).grown hgrow (fun r e => Or.inl e)
        have nA : ¬ u.ownBlock = some A := fun e => by have := (RL.out A e).2; omega
        have nO : ¬ u.ownBlock = some O := fun e => by have := (RL.out O e).1; have := HO.out; omega
        have T8 := GR.blk nO HT7.out
        have zO8 := blk_cell T8 0
        have fO8 := blk_free T8 0
        simp only [List.getElem?_toArray, List.getElem?_cons_zero, List.getElem?_cons_succ] at zO8
        have y08 := GR.cell nA y07
        have y18 := GR.cell nA y17
        have M8 := N7.out.grown hgrow (u' := .slice (some ⟨gg, 0, none⟩) (us.length + 1) cap2) (by rcases hgat with h | h; exact Or.inl (by rw [h]; rfl); exact Or.inr (by rw [h, al_sz]; rfl))
        have G9 := Chg.set w8 O 0 (.slice (some ⟨gg, 0, none⟩) (us.length + 1) cap2)
        have T9 : Hid ((w8.setCell ⟨O, 0, none⟩ (.slice (some ⟨gg, 0, none⟩) (us.length + 1) cap2)).heap[O]? = some (.cells #[.slice (some ⟨gg, 0, none⟩) (us.length + 1) cap2, .int .i64 b] 73)) := hide (blk_set T8 0 (.slice (some ⟨gg, 0, none⟩) (us.length + 1) cap2))
        have A9 := hide (tacc_snoc (own_chg hown G9 (fun x hx e => by have := HO.out; omega)))
        have M9 := hide (M8.chg G9 (fun x hx _ _ e => by have := HO.out; omega))
        have Z9 := hide (Nat.le_trans Z7.out (Nat.le_trans GR.size G9.size))
        have C9 : Hid (Chg (fun x => x = O) w1 (w8.setCell ⟨O, 0, none⟩ (.slice (some ⟨gg, 0, none⟩) (us.length + 1) cap2))) := hide (by
          have h1 : Chg (fun x => x = O ∨ bo ≤ x) w1 _ := ((C7.out.mono (fun x _ h => Or.inl h)).trans (GR.mono (fun x _ h => Or.inr (RL.out x h).1))).trans (G9.mono (fun x _ h => Or.inl h))
          exact h1.mono (fun x hx h => by have := HS.out; omega))
        have y09 := G9.cell LO.out y08
        have y19 := G9.cell LO.out y18
        have HL9 : Hid ((us ++ [((Value.slice va kk.len vc), kb)]).length = i + 1) := hide (by rw [List.length_append, HUL.out]; rfl)
        have F9 : Hid (CInv w1 (w8.setCell ⟨O, 0, none⟩ (.slice (some ⟨gg, 0, none⟩) (us.length + 1) cap2)) O bo b f (i + 1)) := hide ⟨_, us ++ [(.slice va kk.len vc, kb)], T9, A9, HL9, M9, Z9, C9⟩
        clear GR T8 M8 G9 hown hgrow hgat nA nO T9 A9 HL9 M9 Z9 C9
        refine hK.out _ _ ⟨y08, y18⟩ (fun hHeld => ?_)
        clear hK K
        try simp only [Act.put, List.getElem_toArray, List.getElem_cons_zero, List.getElem_cons_succ, List.setIfInBounds_toArray, List.set_cons_zero, List.set_cons_succ]
        first
          | (refine wpAnyH_take (i := 6) (v := undef) rfl (by kernel_rfl) (by kernel_rfl) (by kernel_rfl) (fun _ _ _ h => h) (Or.inr ⟨by rfl, rfl⟩) (by assumption) ?_)
          | (refine wpAnyH_take (i := 6) (v := ?_) rfl (by kernel_rfl) (by kernel_rfl) (by kernel_rfl) (fun _ _ _ h => h) (Or.inl ⟨by rfl, ?_⟩) (by assumption) ?_
             rotate_left
             (intro w hSw
              (try dsimp only at hSw)
              (go_simp <;> with_reducible rfl)))
        try simp only [Act.put, List.getElem_toArray, List.getElem_cons_zero, List.getElem_cons_succ, List.setIfInBounds_toArray, List.set_cons_zero, List.set_cons_succ]
        refine wpAnyH_ready (rs := [7]) (by kernel_rfl) (by simp) ?_
        refine AllReadyH.cons (i := 7) (o := _) rfl (fun K hK => ?_) ?_
        rotate_left
        · exact AllReadyH.nil
        go_simp
        refine hK.out _ _ ⟨y09, y19⟩ (fun hHeld => ?_)
        clear hK K
        try simp only [Act.put, List.getElem_toArray, List.getElem_cons_zero, List.getElem_cons_succ, List.setIfInBounds_toArray, List.set_cons_zero, List.set_cons_succ]
        refine wpAnyH_done (by kernel_rfl) ?_ _
        go_wp2_with fail
        go_roundw
        case rel => exact ⟨i + 1, by omega, by go_num, F9⟩
        case measure => simp [intOf]; omega
      refine AllReadyH.cons (i := 4) (o := _) rfl (fun K hK => ?_) ?_
      rotate_left
      · exact AllReadyH.nil
      go_simp
      refine hK.out _ _ ⟨y07, y17⟩ (fun hHeld => ?_)
      clear hK K
      try simp only [Act.put, List.getElem_toArray, List.getElem_cons_zero, List.getElem_cons_succ, List.setIfInBounds_toArray, List.set_cons_zero, List.set_cons_succ]
      refine wpAnyH_ready (rs := [1]) (by kernel_rfl) (by simp) ?_
      refine AllReadyH.cons (i := 1) (o := _) rfl (fun K hK => ?_) ?_
      rotate_left
      · exact AllReadyH.nil
      go_simp
      refine hK.out _ _ ⟨y07, y17⟩ (fun hHeld => ?_)
      clear hK K
      try simp only [Act.put, List.getElem_toArray, List.getElem_cons_zero, List.getElem_cons_succ, List.setIfInBounds_toArray, List.set_cons_zero, List.set_cons_succ]
      refine wpAnyH_ready (rs := [5]) (by kernel_rfl) (by simp) ?_
      refine AllReadyH.cons (i := 5) (o := _) rfl (fun K hK => ?_) ?_
      rotate_left
      · exact AllReadyH.nil
      refine step_append_lies _ (by rfl) _ _ _ (by rfl) bo 73 i0 (.agg #[.slice none 0 0, .int .i64 0]) 2 32 Tryd.underlying31 hi0 hz0 hz1 hz2 rfl (by omega) _ us.length (cellsV us) (by rfl) A7.out ⟨w6.heap.size, 0, none⟩ 1 1 [.slice va kk.len vc, .int .i64 kb] (by rfl) (by rfl) NB.out (by simp [Value.oneCell']) (by omega) (by simp [maxLen]; omega) (by omega) Z7.out (w6.heap.size + 1) (by simp) ?_
      intro gg cap2 w8 hown hgrow hgat hglt
      have GR := (Chg.refl (fun x => u.ownBlock = some x) (w6.alloc (.cells #[.slice va kk.len vc, .int .i64 kb] 73))).grown hgrow (fun r e => Or.inl e)
      have nA : ¬ u.ownBlock = some A := fun e => by have := (RL.out A e).2; omega
      have nO : ¬ u.ownBlock = some O := fun e => by have := (RL.out O e).1; have := HO.out; omega
      have T8 := GR.blk nO HT7.out
      have zO8 := blk_cell T8 0
      have fO8 := blk_free T8 0
      simp only [List.getElem?_toArray, List.getElem?_cons_zero, List.getElem?_cons_succ] at zO8
      have y08 := GR.cell nA y07
      have y18 := GR.cell nA y17
      have M8 := N7.out.grown hgrow (u' := .slice (some ⟨gg, 0, none⟩) (us.length + 1) cap2) (by rcases hgat with h | h; exact Or.inl (by rw [h]; rfl); exact Or.inr (by rw [h, al_sz]; rfl))
      have G9 := Chg.set w8 O 0 (.slice (some ⟨gg, 0, none⟩) (us.length + 1) cap2)
      have T9 : Hid ((w8.setCell ⟨O, 0, none⟩ (.slice (some ⟨gg, 0, none⟩) (us.length + 1) cap2)).heap[O]? = some (.cells #[.slice (some ⟨gg, 0, none⟩) (us.length + 1) cap2, .int .i64 b] 73)) := hide (blk_set T8 0 (.slice (some ⟨gg, 0, none⟩) (us.length + 1) cap2))
      have A9 := hide (tacc_snoc (own_chg hown G9 (fun x hx e => by have := HO.out; omega)))
      have M9 := hide (M8.chg G9 (fun x hx _ _ e => by have := HO.out; omega))
      have Z9 := hide (Nat.le_trans Z7.out (Nat.le_trans GR.size G9.size))
      have C9 : Hid (Chg (fun x => x = O) w1 (w8.setCell ⟨O, 0, none⟩ (.slice (some ⟨gg, 0, none⟩) (us.length + 1) cap2))) := hide (by
        have h1 : Chg (fun x => x = O ∨ bo ≤ x) w1 _ := ((C7.out.mono (fun x _ h => Or.inl h)).trans (GR.mono (fun x _ h => Or.inr (RL.out x h).1))).trans (G9.mono (fun x _ h => Or.inl h))
        exact h1.mono (fun x hx h => by have := HS.out; omega))
      have y09 := G9.cell LO.out y08
      have y19 := G9.cell LO.out y18
      have HL9 : Hid ((us ++ [((Value.slice va kk.len vc), kb)]).length = i + 1) := hide (by rw [List.length_append, HUL.out]; rfl)
      have F9 : Hid (CInv w1 (w8.setCell ⟨O, 0, none⟩ (.slice (some ⟨gg, 0, none⟩) (us.length + 1) cap2)) O bo b f (i + 1)) := hide ⟨_, us ++ [(.slice va kk.len vc, kb)], T9, A9, HL9, M9, Z9, C9⟩
      clear GR T8 M8 G9 hown hgrow hgat nA nO T9 A9 HL9 M9 Z9 C9
      refine hK.out _ _ ⟨y08, y18⟩ (fun hHeld => ?_)
      clear hK K
      try simp only [Act.put, List.getElem_toArray, List.getElem_cons_zero, List.getElem_cons_succ, List.setIfInBounds_toArray, List.set_cons_zero, List.set_cons_succ]
      first
        | (refine wpAnyH_take (i := 6) (v := undef) rfl (by kernel_rfl) (by kernel_rfl) (by kernel_rfl) (fun _ _ _ h => h) (Or.inr ⟨by rfl, rfl⟩) (by assumption) ?_)
        | (refine wpAnyH_take (i := 6) (v := ?_) rfl (by kernel_rfl) (by kernel_rfl) (by kernel_rfl) (fun _ _ _ h => h) (Or.inl ⟨by rfl, ?_⟩) (by assumption) ?_
           rotate_left
           (intro w hSw
            (try dsimp only at hSw)
            (go_simp <;> with_reducible rfl)))
      try simp only [Act.put, List.getElem_toArray, List.getElem_cons_zero, List.getElem_cons_succ, List.setIfInBounds_toArray, List.set_cons_zero, List.set_cons_succ]
      refine wpAnyH_ready (rs := [7]) (by kernel_rfl) (by simp) ?_
      refine AllReadyH.cons (i := 7) (o := _) rfl (fun K hK => ?_) ?_
      rotate_left
      · exact AllReadyH.nil
      go_simp
      refine hK.out _ _ ⟨y09, y19⟩ (fun hHeld => ?_)
      clear hK K
      try simp only [Act.put, List.getElem_toArray, List.getElem_cons_zero, List.getElem_cons_succ, List.setIfInBounds_toArray, List.set_cons_zero, List.set_cons_succ]
      refine wpAnyH_done (by kernel_rfl) ?_ _
      go_wp2_with fail
      go_roundw
      case rel => exact ⟨i + 1, by omega, by go_num, F9⟩
      case measure => simp [intOf]; omega
    · have hif : i = f.len := by omega
      have BRr := hC.out.blk (by have := HO.out; omega) BR.out
      have zO := blk_cell hT.out 0
      have zO1 := blk_cell hT.out 1
      have cR0 := blk_cell BRr 0
      have cR1 := blk_cell BRr 1
      have fR0 := blk_free BRr 0
      have fR1 := blk_free BRr 1
      simp only [List.getElem?_toArray, List.getElem?_cons_zero, List.getElem?_cons_succ] at zO zO1 cR0 cR1
      obtain ⟨ua, uc, hue, hcp⟩ : ∃ ua uc, u = .slice ua us.length uc ∧ us.length ≤ uc ∧ uc ≤ maxLen := by
        rcases (show wr.ownsRow bo 73 2 u us.length (cellsV us) from hA.out).2 with ⟨h1, h2⟩ | ⟨g, cap2, cur, h1, _, _, h5, h6, _⟩
        · exact ⟨none, 0, by rw [h1, h2], by omega, Nat.zero_le _⟩
        · exact ⟨_, _, h1, h5, h6⟩
      have HCP := hide hcp
      clear hcp
      have T1 := blk_set BRr 0 u
      have T2 := blk_set T1 1 (.int .i64 b)
      have S1 := Chg.set wr R 0 u
      have S2 := Chg.set (wr.setCell ⟨R, 0, none⟩ u) R 1 (.int .i64 b)
      have SS := S1.trans S2
      have AF := own_chg (show wr.ownsRow bo 73 2 u us.length (cellsV us) from hA.out) SS (fun x hx e => by have := HO.out; omega)
      have MF := hM.out.chg SS (fun x hx _ _ e => by have := HO.out; omega)
      have CF : Chg (fun _ => False) w ((wr.setCell ⟨R, 0, none⟩ u).setCell ⟨R, 1, none⟩ (.int .i64 b)) := by
        have h1 : Chg (fun x => x = O ∨ x = R) w _ := (GG.out.none.trans (hC.out.mono (fun x _ h => Or.inl h))).trans (SS.mono (fun x _ h => Or.inr h))
        exact h1.mono (fun x hx h => by have := HO.out; omega)
      have F : Hid (Ts ((wr.setCell ⟨R, 0, none⟩ u).setCell ⟨R, 1, none⟩ (.int .i64 b)) (fun x => w.heap.size ≤ x ∧ x < ((wr.setCell ⟨R, 0, none⟩ u).setCell ⟨R, 1, none⟩ (.int .i64 b)).heap.size) u f ∧ Chg (fun _ => False) w ((wr.setCell ⟨R, 0, none⟩ u).setCell ⟨R, 1, none⟩ (.int .i64 b))) := hide ⟨tacc_ts AF (fun r e => by have h1 := World.ownsRow.lt AF r e; have := HO.out; exact ⟨by omega, h1.2⟩) (by rw [hL.out, htl, hif]) (fun j h1 h2 => ⟨(MF.2 j h1 h2).1, (MF.2 j h1 h2).2.up (fun x hx => ⟨by have := HO.out; omega, hx.2.1⟩)⟩), CF⟩
      have z0 : ((wr.setCell ⟨R, 0, none⟩ u).setCell ⟨R, 1, none⟩ (.int .i64 b)).cell? ⟨R, 0, none⟩ = some u := blk_cell T2 0
      have z1 : ((wr.setCell ⟨R, 0, none⟩ u).setCell ⟨R, 1, none⟩ (.int .i64 b)).cell? ⟨R, 1, none⟩ = some (.int .i64 b) := blk_cell T2 1
      subst hue
      subst hif
      clear T1 T2 S1 S2 SS AF MF CF hT hA hL hM hZ hC BRr
      go_wp2_with fail
      generalize hwf : ((wr.setCell ⟨R, 0, none⟩ (.slice ua us.length uc)).setCell ⟨R, 1, none⟩ (.int .i64 b)) = wF at *
      refine bodyPost_ret (fn := Tryd.f59) (v := .agg #[.slice ua us.length uc, .int .i64 b]) (by simp [results, Tryd.results59, go_sem, z0, z1]) rfl ?_
      exact ⟨⟨_, rfl, F.out.1, ⟨_, _, _, rfl, HCP.out.1, HCP.out.2⟩⟩, F.out.2⟩


theorem copied_cap (f : Fs) (hf : f.size ≤ 1000000) (v : Value) (b : Int) (X : Nat → Prop) (w : World) (hX : ∀ x, X x → x < w.heap.size) (hv : Ts w X v f) :
    Calls Tryd.prog 59 #[.agg #[v, .int .i64 b]] w fun e w' => (∃ v', e = .returned (.agg #[v', .int .i64 b]) ∧ Ts w' (fun x => w.heap.size ≤ x ∧ x < w'.heap.size) v' f ∧ CapOk v') ∧ Chg (fun _ => False) w w' :=
  copied_stepC f.size hf (fun g hg v b X w hB hv => copied_any g (by omega) v b X w hB hv) f (Nat.le_refl _) v b X w hX hv

set_option maxRecDepth 100000 in
set_option maxHeartbeats 8000000 in
theorem arrow_cap (f fa : Fs) (hf : f.size ≤ 40000) (hfa : fa.size ≤ 40000) (v va : Value) (b : Int) (X : Nat → Prop) (w : World) (hX : ∀ x, X x → x < w.heap.size) (hv : Ts w X v f) (ha : Ts w X va fa) :
    Calls Tryd.prog 35 #[.agg #[v, .int .i64 b], va] w fun e w' => (∃ v', e = .returned (.agg #[v', .int .i64 b]) ∧ Ts w' (fun x => w.heap.size ≤ x ∧ x < w'.heap.size) v' (fa.app f) ∧ CapOk v') ∧ Chg (fun _ => False) w w' := by
  have l1 := Fs.len_size f
  have l2 := Fs.len_size fa
  obtain ⟨a, cap, rfl, _⟩ := id hv
  obtain ⟨aa, acap, rfl, _⟩ := id ha
  have G1 := al w (.cells #[.slice a f.len cap, .int .i64 b] 73)
  have G2 := al (w.alloc (.cells #[.slice a f.len cap, .int .i64 b] 73)) (.cells #[.slice none 0 0, .int .i64 0] 73)
  have b0 := G2.blk (fun h => h) (blk_new w (.cells #[.slice a f.len cap, .int .i64 b] 73))
  have b1 := blk_new (w.alloc (.cells #[.slice a f.len cap, .int .i64 b] 73)) (.cells #[.slice none 0 0, .int .i64 0] 73)
  rw [al_sz] at b1
  have GG := G1.trans G2
  have HT := hide (hv.chg GG (fun _ _ h => h))
  have HA := hide (ha.chg GG (fun _ _ h => h))
  have sz2 : ((w.alloc (.cells #[.slice a f.len cap, .int .i64 b] 73)).alloc (.cells #[.slice none 0 0, .int .i64 0] 73)).heap.size = w.heap.size + 2 := by rw [al_sz, al_sz]
  have HG := hide GG
  have HX := hide hX
  have SZ := hide sz2
  clear G1 G2 hv ha GG sz2 hX
  go_enter Tryd.func35, Tryd.ntmps35
  go_wp2_with fail
  generalize ((w.alloc (.cells #[.slice a f.len cap, .int .i64 b] 73)).alloc (.cells #[.slice none 0 0, .int .i64 0] 73)) = w1 at *
  obtain ⟨W0, hW0⟩ : ∃ W0, w.heap.size = W0 := ⟨_, rfl⟩
  rw [hW0] at b0 b1 SZ ⊢
  have HW := hide hW0
  clear hW0
  have y0 := blk_cell b0 0
  have y1 := blk_cell b0 1
  simp only [List.getElem?_toArray, List.getElem?_cons_zero, List.getElem?_cons_succ] at y0 y1
  have B1 := hide b1
  clear b0 b1
  -- REG
  refine wp_region_held_drew (S := (fun w' => w'.cell? ⟨W0, 0, none⟩ = some (.slice a f.len cap) ∧ w'.cell? ⟨W0, 1, none⟩ = some (.int .i64 b))) (by kernel_rfl) (by go_keep) (fun hHeld => ?_)
  first
    | (refine wpAnyH_take (i := 0) (v := undef) rfl (by kernel_rfl) (by kernel_rfl) (by kernel_rfl) (fun _ _ _ h => h) (Or.inr ⟨by rfl, rfl⟩) (by assumption) ?_)
    | (refine wpAnyH_take (i := 0) (v := ?_) rfl (by kernel_rfl) (by kernel_rfl) (by kernel_rfl) (fun _ _ _ h => h) (Or.inl ⟨by rfl, ?_⟩) (by assumption) ?_
       rotate_left
       (intro w hSw
        (try dsimp only at hSw)
        (go_simp <;> with_reducible rfl)))
  try simp only [Act.put, List.getElem_toArray, List.getElem_cons_zero, List.getElem_cons_succ, List.setIfInBounds_toArray, List.set_cons_zero, List.set_cons_succ]
  first
    | (refine wpAnyH_take (i := 1) (v := undef) rfl (by kernel_rfl) (by kernel_rfl) (by kernel_rfl) (fun _ _ _ h => h) (Or.inr ⟨by rfl, rfl⟩) (by assumption) ?_)
    | (refine wpAnyH_take (i := 1) (v := ?_) rfl (by kernel_rfl) (by kernel_rfl) (by kernel_rfl) (fun _ _ _ h => h) (Or.inl ⟨by rfl, ?_⟩) (by assumption) ?_
       rotate_left
       (intro w hSw
        (try dsimp only at hSw)
        (go_simp <;> with_reducible rfl)))
  try simp only [Act.put, List.getElem_toArray, List.getElem_cons_zero, List.getElem_cons_succ, List.setIfInBounds_toArray, List.set_cons_zero, List.set_cons_succ]
  first
    | (refine wpAnyH_take (i := 2) (v := undef) rfl (by kernel_rfl) (by kernel_rfl) (by kernel_rfl) (fun _ _ _ h => h) (Or.inr ⟨by rfl, rfl⟩) (by assumption) ?_)
    | (refine wpAnyH_take (i := 2) (v := ?_) rfl (by kernel_rfl) (by kernel_rfl) (by kernel_rfl) (fun _ _ _ h => h) (Or.inl ⟨by rfl, ?_⟩) (by assumption) ?_
       rotate_left
       (intro w hSw
        (try dsimp only at hSw)
        (go_simp <;> with_reducible rfl)))
  try simp only [Act.put, List.getElem_toArray, List.getElem_cons_zero, List.getElem_cons_succ, List.setIfInBounds_toArray, List.set_cons_zero, List.set_cons_succ]
  first
    | (refine wpAnyH_take (i := 5) (v := undef) rfl (by kernel_rfl) (by kernel_rfl) (by kernel_rfl) (fun _ _ _ h => h) (Or.inr ⟨by rfl, rfl⟩) (by assumption) ?_)
    | (refine wpAnyH_take (i := 5) (v := ?_) rfl (by kernel_rfl) (by kernel_rfl) (by kernel_rfl) (fun _ _ _ h => h) (Or.inl ⟨by rfl, ?_⟩) (by assumption) ?_
       rotate_left
       (intro w hSw
        (try dsimp only at hSw)
        (go_simp <;> with_reducible rfl)))
  try simp only [Act.put, List.getElem_toArray, List.getElem_cons_zero, List.getElem_cons_succ, List.setIfInBounds_toArray, List.set_cons_zero, List.set_cons_succ]
  first
    | (refine wpAnyH_take (i := 6) (v := undef) rfl (by kernel_rfl) (by kernel_rfl) (by kernel_rfl) (fun _ _ _ h => h) (Or.inr ⟨by rfl, rfl⟩) (by assumption) ?_)
    | (refine wpAnyH_take (i := 6) (v := ?_) rfl (by kernel_rfl) (by kernel_rfl) (by kernel_rfl) (fun _ _ _ h => h) (Or.inl ⟨by rfl, ?_⟩) (by assumption) ?_
       rotate_left
       (intro w hSw
        (try dsimp only at hSw)
        (go_simp <;> with_reducible rfl)))
  try simp only [Act.put, List.getElem_toArray, List.getElem_cons_zero, List.getElem_cons_succ, List.setIfInBounds_toArray, List.set_cons_zero, List.set_cons_succ]
  refine wpAnyH_ready (rs := [3]) (by kernel_rfl) (by simp) ?_
  refine AllReadyH.cons (i := 3) (o := _) rfl (fun K hK => ?_) ?_
  rotate_left
  · exact AllReadyH.nil
  have D0 := hide ((Chg.refl (fun _ => False) w1).drew.trans (al w1.drew (.cells #[.slice aa fa.len acap, .slice a f.len cap] 31)))
  have NB := blk_new w1.drew (.cells #[.slice aa fa.len acap, .slice a f.len cap] 31)
  have n0 := blk_cell NB 0
  have n1 := blk_cell NB 1
  simp only [List.getElem?_toArray, List.getElem?_cons_zero, List.getElem?_cons_succ] at n0 n1
  have u0 := D0.out.cell (fun h => h) y0
  have u1 := D0.out.cell (fun h => h) y1
  have B2 := hide (D0.out.blk (fun h => h) B1.out)
  have HTT := hide (HT.out.chg D0.out (fun _ _ h => h))
  have HAA := hide (HA.out.chg D0.out (fun _ _ h => h))
  have HXX := hide (fun x (hx : X x) => Nat.lt_of_lt_of_le (HX.out x hx) (Nat.le_trans HG.out.size D0.out.size))
  clear NB
  go_simp
  refine hK.out _ _ ⟨u0, u1⟩ (fun hHeld => ?_)
  clear hK K
  try simp only [Act.put, List.getElem_toArray, List.getElem_cons_zero, List.getElem_cons_succ, List.setIfInBounds_toArray, List.set_cons_zero, List.set_cons_succ]
  refine wpAnyH_ready (rs := [4]) (by kernel_rfl) (by simp) ?_
  refine AllReadyH.cons (i := 4) (o := _) rfl (fun K hK => ?_) ?_
  rotate_left
  · exact AllReadyH.nil
  go_simp
  refine (concat_ts _ X _ _ fa f (by omega) (by omega) _ HXX.out n0 n1 HAA.out HTT.out).mono ?_
  rintro e w3 ⟨⟨v3, rfl, t3⟩, g3⟩
  obtain ⟨a3, c3, rfl, _⟩ := id t3
  have D3 := hide (D0.out.trans g3)
  have p0 := g3.cell (fun h => h) u0
  have p1 := g3.cell (fun h => h) u1
  have B3 := hide (g3.blk (fun h => h) B2.out)
  have cp := hide (copied_cap (fa.app f) (by rw [Fs.app_size]; omega) (.slice a3 (fa.app f).len c3) b _ w3 (fun x hx => by
    rcases hx with hx | hx
    · exact Nat.lt_of_lt_of_le (HXX.out x hx) g3.size
    · exact hx.2) t3)
  clear t3 g3 n0 n1 HTT HAA B2 HXX
  go_simp
  refine hK.out _ _ ⟨p0, p1⟩ (fun hHeld => ?_)
  clear hK K
  try simp only [Act.put, List.getElem_toArray, List.getElem_cons_zero, List.getElem_cons_succ, List.setIfInBounds_toArray, List.set_cons_zero, List.set_cons_succ]
  first
    | (refine wpAnyH_take (i := 7) (v := undef) rfl (by kernel_rfl) (by kernel_rfl) (by kernel_rfl) (fun _ _ _ h => h) (Or.inr ⟨by rfl, rfl⟩) (by assumption) ?_)
    | (refine wpAnyH_take (i := 7) (v := ?_) rfl (by kernel_rfl) (by kernel_rfl) (by kernel_rfl) (fun _ _ _ h => h) (Or.inl ⟨by rfl, ?_⟩) (by assumption) ?_
       rotate_left
       (intro w hSw
        (try dsimp only at hSw)
        (go_simp <;> with_reducible rfl)))
  try simp only [Act.put, List.getElem_toArray, List.getElem_cons_zero, List.getElem_cons_succ, List.setIfInBounds_toArray, List.set_cons_zero, List.set_cons_succ]
  refine wpAnyH_ready (rs := [8]) (by kernel_rfl) (by simp) ?_
  refine AllReadyH.cons (i := 8) (o := _) rfl (fun K hK => ?_) ?_
  rotate_left
  · exact AllReadyH.nil
  go_simp
  refine cp.out.mono ?_
  rintro e w4 ⟨⟨v4, rfl, t4, p4⟩, g4⟩
  have HP4 := hide p4
  clear p4
  obtain ⟨a4, c4, rfl, _⟩ := id t4
  have o0 := g4.cell (fun h => h) p0
  have o1 := g4.cell (fun h => h) p1
  have B4 := g4.blk (fun h => h) B3.out
  have r0 := blk_cell B4 0
  have r1 := blk_cell B4 1
  have fr0 := blk_free B4 0
  have fr1 := blk_free B4 1
  simp only [List.getElem?_toArray, List.getElem?_cons_zero, List.getElem?_cons_succ] at r0 r1
  have T1 := blk_set B4 0 (.slice a4 (fa.app f).len c4)
  have T2 := blk_set T1 1 (.int .i64 b)
  have z0 : ((w4.setCell ⟨W0 + 1, 0, none⟩ (.slice a4 (fa.app f).len c4)).setCell ⟨W0 + 1, 1, none⟩ (.int .i64 b)).cell? ⟨W0 + 1, 0, none⟩ = some (.slice a4 (fa.app f).len c4) := blk_cell T2 0
  have z1 : ((w4.setCell ⟨W0 + 1, 0, none⟩ (.slice a4 (fa.app f).len c4)).setCell ⟨W0 + 1, 1, none⟩ (.int .i64 b)).cell? ⟨W0 + 1, 1, none⟩ = some (.int .i64 b) := blk_cell T2 1
  have SS := (Chg.set w4 (W0 + 1) 0 (.slice a4 (fa.app f).len c4)).trans (Chg.set (w4.setCell ⟨W0 + 1, 0, none⟩ (.slice a4 (fa.app f).len c4)) (W0 + 1) 1 (.int .i64 b))
  have q0 := SS.cell (by omega) o0
  have q1 := SS.cell (by omega) o1
  have F : Hid (Ts ((w4.setCell ⟨W0 + 1, 0, none⟩ (.slice a4 (fa.app f).len c4)).setCell ⟨W0 + 1, 1, none⟩ (.int .i64 b)) (fun x => W0 ≤ x ∧ x < ((w4.setCell ⟨W0 + 1, 0, none⟩ (.slice a4 (fa.app f).len c4)).setCell ⟨W0 + 1, 1, none⟩ (.int .i64 b)).heap.size) (.slice a4 (fa.app f).len c4) (fa.app f) ∧ Chg (fun _ => False) w ((w4.setCell ⟨W0 + 1, 0, none⟩ (.slice a4 (fa.app f).len c4)).setCell ⟨W0 + 1, 1, none⟩ (.int .i64 b))) := hide (by
    have h0 := D3.out.size
    have h1 := SZ.out
    refine ⟨(t4.chg SS (fun x hx e => by have := hx.1; omega)).up (fun x hx => ⟨by have := hx.1; omega, Nat.lt_of_lt_of_le hx.2 SS.size⟩), ?_⟩
    have h2 : Chg (fun x => x = W0 + 1) w _ := ((HG.out.trans D3.out).trans g4).none.trans SS
    exact h2.mono (fun x hx e => by have := HW.out; omega))
  clear t4 g4 T1 T2 SS cp B4
  go_simp
  refine hK.out _ _ ⟨o0, o1⟩ (fun hHeld => ?_)
  clear hK K
  try simp only [Act.put, List.getElem_toArray, List.getElem_cons_zero, List.getElem_cons_succ, List.setIfInBounds_toArray, List.set_cons_zero, List.set_cons_succ]
  refine wpAnyH_ready (rs := [9]) (by kernel_rfl) (by simp) ?_
  refine AllReadyH.cons (i := 9) (o := _) rfl (fun K hK => ?_) ?_
  rotate_left
  · exact AllReadyH.nil
  go_simp
  refine hK.out _ _ ⟨q0, q1⟩ (fun hHeld => ?_)
  clear hK K
  try simp only [Act.put, List.getElem_toArray, List.getElem_cons_zero, List.getElem_cons_succ, List.setIfInBounds_toArray, List.set_cons_zero, List.set_cons_succ]
  refine wpAnyH_done (by kernel_rfl) ?_ _
  go_wp2_with fail
  generalize ((w4.setCell ⟨W0 + 1, 0, none⟩ (.slice a4 (fa.app f).len c4)).setCell ⟨W0 + 1, 1, none⟩ (.int .i64 b)) = wF at *
  refine bodyPost_ret (fn := Tryd.f35) (v := .agg #[.slice a4 (fa.app f).len c4, .int .i64 b]) (by simp [results, Tryd.results35, go_sem, z0, z1]) rfl ?_
  exact ⟨⟨_, rfl, by rw [HW.out]; exact F.out.1, HP4.out⟩, F.out.2⟩


/-- what is made of a term -/
def TurnCC (f : Tms) : Prop := ∀ (b : Fs) (k i : Int) (ins : Nat) (vb v : Value) (X : Nat → Prop) (w : World), b.size ≤ 40000 → In64' i → f.len ≤ 1000000 → TOk f → ins + b.size + f.size ≤ 1000000000 → (∀ x, X x → x < w.heap.size) → Ts w X vb b → Tr w X v f →
  Calls Tryd.prog 68 #[.agg #[vb, .int .i64 k, .int .i64 i, v], .int .i64 (ins : Int), turnV] w fun e w' => (∃ vb' v', e = .returned (.agg #[vb', .int .i64 k, .int .i64 i, v']) ∧ Ts w' (fun x => w.heap.size ≤ x ∧ x < w'.heap.size) vb' b ∧ Tr w' (fun x => w.heap.size ≤ x ∧ x < w'.heap.size) v' f ∧ CapOk vb') ∧ Chg (fun _ => False) w w'
set_option maxRecDepth 100000 in
set_option maxHeartbeats 32000000 in
theorem turned_stepC (n : Nat) (ih : ∀ (f : Tms), f.size < n → TurnC f) (f : Tms) (hf : f.size ≤ n) : TurnCC f := by
  intro b k i ins vb v X w hbs hi6 hfl hok hsz hB hvb hv
  obtain ⟨i0, hi0, hz0, hz1, hz2⟩ := info_parts info35
  have IH := hide ih
  have OK := hide hok
  have HI6 := hide hi6
  have HSZ := hide hsz
  have HBS := hide hbs
  have HFL := hide hfl
  obtain ⟨ba, bc, rfl, _⟩ := id hvb
  obtain ⟨av, cap, rfl, hx⟩ := id hv
  have HV := hide hv
  have HVB := hide hvb
  have HB := hide hB
  have htl := Tms.toL_len f
  have HF := hide hf
  have G1 := al w (.cells #[.slice ba b.len bc, .int .i64 k, .int .i64 i, .slice av f.len cap] 35)
  have b0 := blk_new w (.cells #[.slice ba b.len bc, .int .i64 k, .int .i64 i, .slice av f.len cap] 35)
  have G2 := al (w.alloc (.cells #[.slice ba b.len bc, .int .i64 k, .int .i64 i, .slice av f.len cap] 35)) (.cells #[.slice none 0 0, .int .i64 0, .int .i64 0, .slice none 0 0] 35)
  have b1 := blk_new (w.alloc (.cells #[.slice ba b.len bc, .int .i64 k, .int .i64 i, .slice av f.len cap] 35)) (.cells #[.slice none 0 0, .int .i64 0, .int .i64 0, .slice none 0 0] 35)
  have b0' := G2.blk (fun h => h) b0
  rw [al_sz] at b1
  have GG := hide (G1.trans G2)
  have sz2 : ((w.alloc (.cells #[.slice ba b.len bc, .int .i64 k, .int .i64 i, .slice av f.len cap] 35)).alloc (.cells #[.slice none 0 0, .int .i64 0, .int .i64 0, .slice none 0 0] 35)).heap.size = w.heap.size + 2 := by rw [al_sz, al_sz]
  have BP := hide b0'
  have BR := hide b1
  have SZ := hide sz2
  have r1 : (b.len : Int) ≤ 40000 := by have := Fs.len_size b; omega
  have r2 : (ins : Int) ≤ 1000000000 := by omega
  have r3 : (0 : Int) ≤ (ins : Int) := by omega
  have r4 : (0 : Int) ≤ (b.len : Int) := by omega
  clear hx hv hvb ih hB hf G1 G2 b0 b1 b0' sz2 hok hi6 hsz hbs hfl
  go_enter Tryd.func68, Tryd.ntmps68
  go_upto_region 2 with fail
  generalize ((w.alloc (.cells #[.slice ba b.len bc, .int .i64 k, .int .i64 i, .slice av f.len cap] 35)).alloc (.cells #[.slice none 0 0, .int .i64 0, .int .i64 0, .slice none 0 0] 35)) = w1 at *
  obtain ⟨P, hP⟩ : ∃ P, w.heap.size = P := ⟨_, rfl⟩
  obtain ⟨R, hR⟩ : ∃ R, P + 1 = R := ⟨_, rfl⟩
  have hZ := SZ.out
  rw [hP] at BP BR hZ ⊢
  rw [hR] at BR ⊢
  have HO1 : Hid (R < w1.heap.size ∧ P < R ∧ w.heap.size = P) := hide (by refine ⟨by omega, by omega, hP⟩)
  clear hP hR SZ hZ
  have p0 : w1.cell? ⟨P, 0, none⟩ = some (.slice ba b.len bc) := blk_cell BP.out 0
  have p1 : w1.cell? ⟨P, 1, none⟩ = some (.int .i64 k) := blk_cell BP.out 1
  have p2 : w1.cell? ⟨P, 2, none⟩ = some (.int .i64 i) := blk_cell BP.out 2
  go_cut [7] (fun s7 wx => ∃ (O : Nat) (ca : Option Addr) (cc : Nat), s7 = .pointer (some ⟨O, 0, none⟩) ∧ Hid (wx.heap[O]? = some (.cells #[.slice ca b.len cc, .int .i64 k, .int .i64 i, .slice none 0 0] 35)) ∧ Hid (Ts wx (fun x => w1.heap.size ≤ x ∧ x < wx.heap.size ∧ x ≠ O) (.slice ca b.len cc) b) ∧ Hid (Chg (fun _ => False) w1 wx) ∧ Hid (w1.heap.size ≤ O) ∧ Hid (CapOk (.slice ca b.len cc)))
  case first =>
    have AR := hide (fun w' (g : Chg (fun _ => False) w1 w') => arrow_cap .nil b (Nat.zero_le _) HBS.out (.slice none 0 0) (.slice ba b.len bc) 0 X w' (fun x hx => Nat.lt_of_lt_of_le (HB.out x hx) (GG.out.trans g).size) (Ts.nil _ _) (HVB.out.chg (GG.out.trans g) (fun _ _ h => h)))
    have fl0 := @field73_0
    refine wp_region_held_drew (S := (fun w' => w'.cell? ⟨P, 0, none⟩ = some (.slice ba b.len bc) ∧ w'.cell? ⟨P, 1, none⟩ = some (.int .i64 k) ∧ w'.cell? ⟨P, 2, none⟩ = some (.int .i64 i))) (by kernel_rfl) (by go_keep) (fun hHeld => ?_)
    first
      | (refine wpAnyH_take (i := 0) (v := undef) rfl (by kernel_rfl) (by kernel_rfl) (by kernel_rfl) (fun _ _ _ h => h) (Or.inr ⟨by rfl, rfl⟩) (by assumption) ?_)
      | (refine wpAnyH_take (i := 0) (v := ?_) rfl (by kernel_rfl) (by kernel_rfl) (by kernel_rfl) (fun _ _ _ h => h) (Or.inl ⟨by rfl, ?_⟩) (by assumption) ?_
         rotate_left
         (intro w hSw
          (try dsimp only at hSw)
          (go_simp <;> with_reducible rfl)))
    try simp only [Act.put, List.getElem_toArray, List.getElem_cons_zero, List.getElem_cons_succ, List.setIfInBounds_toArray, List.set_cons_zero, List.set_cons_succ]
    first
      | (refine wpAnyH_take (i := 1) (v := undef) rfl (by kernel_rfl) (by kernel_rfl) (by kernel_rfl) (fun _ _ _ h => h) (Or.inr ⟨by rfl, rfl⟩) (by assumption) ?_)
      | (refine wpAnyH_take (i := 1) (v := ?_) rfl (by kernel_rfl) (by kernel_rfl) (by kernel_rfl) (fun _ _ _ h => h) (Or.inl ⟨by rfl, ?_⟩) (by assumption) ?_
         rotate_left
         (intro w hSw
          (try dsimp only at hSw)
          (go_simp <;> with_reducible rfl)))
    try simp only [Act.put, List.getElem_toArray, List.getElem_cons_zero, List.getElem_cons_succ, List.setIfInBounds_toArray, List.set_cons_zero, List.set_cons_succ]
    first
      | (refine wpAnyH_take (i := 2) (v := undef) rfl (by kernel_rfl) (by kernel_rfl) (by kernel_rfl) (fun _ _ _ h => h) (Or.inr ⟨by rfl, rfl⟩) (by assumption) ?_)
      | (refine wpAnyH_take (i := 2) (v := ?_) rfl (by kernel_rfl) (by kernel_rfl) (by kernel_rfl) (fun _ _ _ h => h) (Or.inl ⟨by rfl, ?_⟩) (by assumption) ?_
         rotate_left
         (intro w hSw
          (try dsimp only at hSw)
          (go_simp <;> with_reducible rfl)))
    try simp only [Act.put, List.getElem_toArray, List.getElem_cons_zero, List.getElem_cons_succ, List.setIfInBounds_toArray, List.set_cons_zero, List.set_cons_succ]
    first
      | (refine wpAnyH_take (i := 5) (v := undef) rfl (by kernel_rfl) (by kernel_rfl) (by kernel_rfl) (fun _ _ _ h => h) (Or.inr ⟨by rfl, rfl⟩) (by assumption) ?_)
      | (refine wpAnyH_take (i := 5) (v := ?_) rfl (by kernel_rfl) (by kernel_rfl) (by kernel_rfl) (fun _ _ _ h => h) (Or.inl ⟨by rfl, ?_⟩) (by assumption) ?_
         rotate_left
         (intro w hSw
          (try dsimp only at hSw)
          (go_simp <;> with_reducible rfl)))
    try simp only [Act.put, List.getElem_toArray, List.getElem_cons_zero, List.getElem_cons_succ, List.setIfInBounds_toArray, List.set_cons_zero, List.set_cons_succ]
    first
      | (refine wpAnyH_take (i := 6) (v := undef) rfl (by kernel_rfl) (by kernel_rfl) (by kernel_rfl) (fun _ _ _ h => h) (Or.inr ⟨by rfl, rfl⟩) (by assumption) ?_)
      | (refine wpAnyH_take (i := 6) (v := ?_) rfl (by kernel_rfl) (by kernel_rfl) (by kernel_rfl) (fun _ _ _ h => h) (Or.inl ⟨by rfl, ?_⟩) (by assumption) ?_
         rotate_left
         (intro w hSw
          (try dsimp only at hSw)
          (go_simp <;> with_reducible rfl)))
    try simp only [Act.put, List.getElem_toArray, List.getElem_cons_zero, List.getElem_cons_succ, List.setIfInBounds_toArray, List.set_cons_zero, List.set_cons_succ]
    refine wpAnyH_ready (rs := [3, 8]) (by kernel_rfl) (by simp) ?_
    refine AllReadyH.cons (i := 3) (o := _) rfl (fun K hK => ?_) ?_
    · go_simp
      refine (AR.out w1.drew ((Chg.refl (fun _ => False) w1).drew)).mono ?_
      rintro e w6 ⟨⟨v', rfl, t6, cp6⟩, g6'⟩
      have HCP6 := hide cp6
      clear cp6
      rw [Fs.app_nil] at t6
      obtain ⟨ca, cc, rfl, _⟩ := id t6
      have g6 := (Chg.refl (fun _ => False) w1).drew.trans g6'
      have p0a := g6.cell (fun h => h) p0
      have p1a := g6.cell (fun h => h) p1
      have p2a := g6.cell (fun h => h) p2
      have T6 := hide t6
      have G6 := hide g6
      clear t6 g6 g6'
      go_simp
      refine hK.out _ _ ⟨p0a, p1a, p2a⟩ (fun hHeld => ?_)
      clear hK K
      try simp only [Act.put, List.getElem_toArray, List.getElem_cons_zero, List.getElem_cons_succ, List.setIfInBounds_toArray, List.set_cons_zero, List.set_cons_succ]
      first
        | (refine wpAnyH_take (i := 4) (v := undef) rfl (by kernel_rfl) (by kernel_rfl) (by kernel_rfl) (fun _ _ _ h => h) (Or.inr ⟨by rfl, rfl⟩) (by assumption) ?_)
        | (refine wpAnyH_take (i := 4) (v := ?_) rfl (by kernel_rfl) (by kernel_rfl) (by kernel_rfl) (fun _ _ _ h => h) (Or.inl ⟨by rfl, ?_⟩) (by assumption) ?_
           rotate_left
           (intro w hSw
            (try dsimp only at hSw)
            (go_simp <;> with_reducible rfl)))
      try simp only [Act.put, List.getElem_toArray, List.getElem_cons_zero, List.getElem_cons_succ, List.setIfInBounds_toArray, List.set_cons_zero, List.set_cons_succ]
      first
        | (refine wpAnyH_take (i := 7) (v := undef) rfl (by kernel_rfl) (by kernel_rfl) (by kernel_rfl) (fun _ _ _ h => h) (Or.inr ⟨by rfl, rfl⟩) (by assumption) ?_)
        | (refine wpAnyH_take (i := 7) (v := ?_) rfl (by kernel_rfl) (by kernel_rfl) (by kernel_rfl) (fun _ _ _ h => h) (Or.inl ⟨by rfl, ?_⟩) (by assumption) ?_
           rotate_left
           (intro w hSw
            (try dsimp only at hSw)
            (go_simp <;> with_reducible rfl)))
      try simp only [Act.put, List.getElem_toArray, List.getElem_cons_zero, List.getElem_cons_succ, List.setIfInBounds_toArray, List.set_cons_zero, List.set_cons_succ]
      refine wpAnyH_ready (rs := [8]) (by kernel_rfl) (by simp) ?_
      refine AllReadyH.cons (i := 8) (o := _) rfl (fun K hK => ?_) ?_
      rotate_left
      · exact AllReadyH.nil
      have GA := al w6 (.cells #[.slice none 0 0, .int .i64 0, .int .i64 0, .slice none 0 0] 35)
      have BO := hide (blk_new w6 (.cells #[.slice none 0 0, .int .i64 0, .int .i64 0, .slice none 0 0] 35))
      have p0b := GA.cell (fun h => h) p0a
      have p1b := GA.cell (fun h => h) p1a
      have p2b := GA.cell (fun h => h) p2a
      have T7 := hide (T6.out.chg GA (fun _ _ h => h))
      have G7 := hide (G6.out.trans GA)
      clear GA
      go_simp
      refine hK.out _ _ ⟨p0b, p1b, p2b⟩ (fun hHeld => ?_)
      clear hK K
      try simp only [Act.put, List.getElem_toArray, List.getElem_cons_zero, List.getElem_cons_succ, List.setIfInBounds_toArray, List.set_cons_zero, List.set_cons_succ]
      obtain ⟨O, hO⟩ : ∃ O, w6.heap.size = O := ⟨_, rfl⟩
      have HO7 := hide hO
      rw [hO] at BO ⊢
      clear hO
      generalize w6.alloc (.cells #[.slice none 0 0, .int .i64 0, .int .i64 0, .slice none 0 0] 35) = w7 at *
      have HPO : Hid (w1.heap.size ≤ O ∧ P < O ∧ w6.heap.size = O) := hide (by have := HO7.out; have := G6.out.size; have := HO1.out; omega)
      have HS7 : Hid (w6.heap.size ≤ w7.heap.size) := hide (by have := olt' BO.out; have := HO7.out; omega)
      refine wpAnyH_ready (rs := [9]) (by kernel_rfl) (by simp) ?_
      refine AllReadyH.cons (i := 9) (o := _) rfl (fun K hK => ?_) ?_
      rotate_left
      · exact AllReadyH.nil
      have b0 := blk_cell BO.out 0
      have ff0 := blk_free BO.out 0
      have b1 := blk_cell BO.out 1
      have ff1 := blk_free BO.out 1
      have b2 := blk_cell BO.out 2
      have ff2 := blk_free BO.out 2
      have b3 := blk_cell BO.out 3
      have ff3 := blk_free BO.out 3
      simp only [List.getElem?_toArray, List.getElem?_cons_zero, List.getElem?_cons_succ] at b0 b1 b2 b3
      go_simp
      have NS : Hid (((((w7.setCell ⟨O, 0, none⟩ (.slice ca b.len cc)).setCell ⟨O, 1, none⟩ (.int .i64 k)).setCell ⟨O, 2, none⟩ (.int .i64 i)).setCell ⟨O, 3, none⟩ (.slice none 0 0)).heap[O]? = some (.cells #[.slice ca b.len cc, .int .i64 k, .int .i64 i, .slice none 0 0] 35) ∧ Chg (fun x => x = O) w7 ((((w7.setCell ⟨O, 0, none⟩ (.slice ca b.len cc)).setCell ⟨O, 1, none⟩ (.int .i64 k)).setCell ⟨O, 2, none⟩ (.int .i64 i)).setCell ⟨O, 3, none⟩ (.slice none 0 0))) := hide ⟨(blk_set (blk_set (blk_set (blk_set BO.out 0 (.slice ca b.len cc)) 1 (.int .i64 k)) 2 (.int .i64 i)) 3 (.slice none 0 0)), ((((Chg.set w7 O 0 (.slice ca b.len cc)).trans (Chg.set (w7.setCell ⟨O, 0, none⟩ (.slice ca b.len cc)) O 1 (.int .i64 k))).trans (Chg.set ((w7.setCell ⟨O, 0, none⟩ (.slice ca b.len cc)).setCell ⟨O, 1, none⟩ (.int .i64 k)) O 2 (.int .i64 i))).trans (Chg.set (((w7.setCell ⟨O, 0, none⟩ (.slice ca b.len cc)).setCell ⟨O, 1, none⟩ (.int .i64 k)).setCell ⟨O, 2, none⟩ (.int .i64 i)) O 3 (.slice none 0 0)))⟩
      refine hK.out _ _ ⟨NS.out.2.cell (by have := HPO.out; omega) p0b, NS.out.2.cell (by have := HPO.out; omega) p1b, NS.out.2.cell (by have := HPO.out; omega) p2b⟩ (fun hHeld => ?_)
      clear hK K
      try simp only [Act.put, List.getElem_toArray, List.getElem_cons_zero, List.getElem_cons_succ, List.setIfInBounds_toArray, List.set_cons_zero, List.set_cons_succ]
      refine wpAnyH_done (by kernel_rfl) ?_ _
      go_wp2_with fail
      go_meet
      exact ⟨O, ca, cc, rfl, hide NS.out.1, hide ((T7.out.chg NS.out.2 (fun x hx e => by have := HPO.out; have := hx.2; omega)).up (fun x hx => ⟨hx.1, by have := NS.out.2.size; have := HS7.out; have := hx.2; omega, by have := HPO.out; have := hx.1; have := hx.2; omega⟩)), hide (((G7.out.mono (T := fun x => x = O) (fun x _ h => h.elim)).trans NS.out.2).mono (fun x hx e => by have := HPO.out; omega)), hide (by have := HPO.out; omega), HCP6⟩
    refine AllReadyH.cons (i := 8) (o := _) rfl (fun K hK => ?_) ?_
    rotate_left
    · exact AllReadyH.nil
    have GA := (al w1 (.cells #[.slice none 0 0, .int .i64 0, .int .i64 0, .slice none 0 0] 35)).drew
    have BO : Hid ((w1.alloc (.cells #[.slice none 0 0, .int .i64 0, .int .i64 0, .slice none 0 0] 35)).drew.heap[w1.heap.size]? = some (.cells #[.slice none 0 0, .int .i64 0, .int .i64 0, .slice none 0 0] 35)) := hide (blk_new w1 (.cells #[.slice none 0 0, .int .i64 0, .int .i64 0, .slice none 0 0] 35))
    have p0a := GA.cell (fun h => h) p0
    have p1a := GA.cell (fun h => h) p1
    have p2a := GA.cell (fun h => h) p2
    have G6 := hide GA
    clear GA
    go_simp
    refine hK.out _ _ ⟨p0a, p1a, p2a⟩ (fun hHeld => ?_)
    clear hK K
    try simp only [Act.put, List.getElem_toArray, List.getElem_cons_zero, List.getElem_cons_succ, List.setIfInBounds_toArray, List.set_cons_zero, List.set_cons_succ]
    obtain ⟨O, hO⟩ : ∃ O, w1.heap.size = O := ⟨_, rfl⟩
    have HO7 := hide hO
    rw [hO] at BO ⊢
    clear hO
    generalize (w1.alloc (.cells #[.slice none 0 0, .int .i64 0, .int .i64 0, .slice none 0 0] 35)).drew = w7 at *
    have HPO : Hid (w1.heap.size = O ∧ P < O ∧ O < w7.heap.size) := hide (by have h := HO7.out; have := HO1.out; have h3 := blk_lt BO.out; have h2 : w1.heap.size = O := h; omega)
    refine wpAnyH_ready (rs := [3]) (by kernel_rfl) (by simp) ?_
    refine AllReadyH.cons (i := 3) (o := _) rfl (fun K hK => ?_) ?_
    rotate_left
    · exact AllReadyH.nil
    go_simp
    refine (AR.out w7 G6.out).mono ?_
    rintro e w8 ⟨⟨v', rfl, t6, cp6⟩, g8⟩
    have HCP6 := hide cp6
    clear cp6
    rw [Fs.app_nil] at t6
    obtain ⟨ca, cc, rfl, _⟩ := id t6
    have p0b := g8.cell (fun h => h) p0a
    have p1b := g8.cell (fun h => h) p1a
    have p2b := g8.cell (fun h => h) p2a
    have BO := hide (g8.blk (fun h => h) BO.out)
    have T7 := hide t6
    have G7 := hide (G6.out.trans g8)
    clear t6 g8
    go_simp
    refine hK.out _ _ ⟨p0b, p1b, p2b⟩ (fun hHeld => ?_)
    clear hK K
    try simp only [Act.put, List.getElem_toArray, List.getElem_cons_zero, List.getElem_cons_succ, List.setIfInBounds_toArray, List.set_cons_zero, List.set_cons_succ]
    first
      | (refine wpAnyH_take (i := 4) (v := undef) rfl (by kernel_rfl) (by kernel_rfl) (by kernel_rfl) (fun _ _ _ h => h) (Or.inr ⟨by rfl, rfl⟩) (by assumption) ?_)
      | (refine wpAnyH_take (i := 4) (v := ?_) rfl (by kernel_rfl) (by kernel_rfl) (by kernel_rfl) (fun _ _ _ h => h) (Or.inl ⟨by rfl, ?_⟩) (by assumption) ?_
         rotate_left
         (intro w hSw
          (try dsimp only at hSw)
          (go_simp <;> with_reducible rfl)))
    try simp only [Act.put, List.getElem_toArray, List.getElem_cons_zero, List.getElem_cons_succ, List.setIfInBounds_toArray, List.set_cons_zero, List.set_cons_succ]
    first
      | (refine wpAnyH_take (i := 7) (v := undef) rfl (by kernel_rfl) (by kernel_rfl) (by kernel_rfl) (fun _ _ _ h => h) (Or.inr ⟨by rfl, rfl⟩) (by assumption) ?_)
      | (refine wpAnyH_take (i := 7) (v := ?_) rfl (by kernel_rfl) (by kernel_rfl) (by kernel_rfl) (fun _ _ _ h => h) (Or.inl ⟨by rfl, ?_⟩) (by assumption) ?_
         rotate_left
         (intro w hSw
          (try dsimp only at hSw)
          (go_simp <;> with_reducible rfl)))
    try simp only [Act.put, List.getElem_toArray, List.getElem_cons_zero, List.getElem_cons_succ, List.setIfInBounds_toArray, List.set_cons_zero, List.set_cons_succ]
    have HS7 : Hid (w8.heap.size ≤ w8.heap.size) := hide (Nat.le_refl _)
    refine wpAnyH_ready (rs := [9]) (by kernel_rfl) (by simp) ?_
    refine AllReadyH.cons (i := 9) (o := _) rfl (fun K hK => ?_) ?_
    rotate_left
    · exact AllReadyH.nil
    have b0 := blk_cell BO.out 0
    have ff0 := blk_free BO.out 0
    have b1 := blk_cell BO.out 1
    have ff1 := blk_free BO.out 1
    have b2 := blk_cell BO.out 2
    have ff2 := blk_free BO.out 2
    have b3 := blk_cell BO.out 3
    have ff3 := blk_free BO.out 3
    simp only [List.getElem?_toArray, List.getElem?_cons_zero, List.getElem?_cons_succ] at b0 b1 b2 b3
    go_simp
    have NS : Hid (((((w8.setCell ⟨O, 0, none⟩ (.slice ca b.len cc)).setCell ⟨O, 1, none⟩ (.int .i64 k)).setCell ⟨O, 2, none⟩ (.int .i64 i)).setCell ⟨O, 3, none⟩ (.slice none 0 0)).heap[O]? = some (.cells #[.slice ca b.len cc, .int .i64 k, .int .i64 i, .slice none 0 0] 35) ∧ Chg (fun x => x = O) w8 ((((w8.setCell ⟨O, 0, none⟩ (.slice ca b.len cc)).setCell ⟨O, 1, none⟩ (.int .i64 k)).setCell ⟨O, 2, none⟩ (.int .i64 i)).setCell ⟨O, 3, none⟩ (.slice none 0 0))) := hide ⟨(blk_set (blk_set (blk_set (blk_set BO.out 0 (.slice ca b.len cc)) 1 (.int .i64 k)) 2 (.int .i64 i)) 3 (.slice none 0 0)), ((((Chg.set w8 O 0 (.slice ca b.len cc)).trans (Chg.set (w8.setCell ⟨O, 0, none⟩ (.slice ca b.len cc)) O 1 (.int .i64 k))).trans (Chg.set ((w8.setCell ⟨O, 0, none⟩ (.slice ca b.len cc)).setCell ⟨O, 1, none⟩ (.int .i64 k)) O 2 (.int .i64 i))).trans (Chg.set (((w8.setCell ⟨O, 0, none⟩ (.slice ca b.len cc)).setCell ⟨O, 1, none⟩ (.int .i64 k)).setCell ⟨O, 2, none⟩ (.int .i64 i)) O 3 (.slice none 0 0)))⟩
    refine hK.out _ _ ⟨NS.out.2.cell (by have := HPO.out; omega) p0b, NS.out.2.cell (by have := HPO.out; omega) p1b, NS.out.2.cell (by have := HPO.out; omega) p2b⟩ (fun hHeld => ?_)
    clear hK K
    try simp only [Act.put, List.getElem_toArray, List.getElem_cons_zero, List.getElem_cons_succ, List.setIfInBounds_toArray, List.set_cons_zero, List.set_cons_succ]
    refine wpAnyH_done (by kernel_rfl) ?_ _
    go_wp2_with fail
    go_meet
    exact ⟨O, ca, cc, rfl, hide NS.out.1, hide ((T7.out.chg NS.out.2 (fun x hx e => by have := HPO.out; have := hx.1; omega)).up (fun x hx => ⟨by have := HPO.out; have := hx.1; omega, by have := NS.out.2.size; have := HS7.out; have := hx.2; omega, by have := HPO.out; have := hx.1; have := hx.2; omega⟩)), hide (((G7.out.mono (T := fun x => x = O) (fun x _ h => h.elim)).trans NS.out.2).mono (fun x hx e => by have := HPO.out; omega)), hide (by have := HPO.out; omega), HCP6⟩
  case rest =>
  obtain ⟨O, ca, cc, rfl, BO, TB, GW, OW, CPW⟩ := hcut
  clear p0 p1 p2
  generalize wc = w2 at *
  have BP2 := hide (GW.out.blk (fun h => h) BP.out)
  have BR2 := hide (GW.out.blk (fun h => h) BR.out)
  have G2 := hide (GG.out.trans GW.out)
  have p0 : w2.cell? ⟨P, 0, none⟩ = some (.slice ba b.len bc) := blk_cell BP2.out 0
  have p1 : w2.cell? ⟨P, 1, none⟩ = some (.int .i64 k) := blk_cell BP2.out 1
  have p2 : w2.cell? ⟨P, 2, none⟩ = some (.int .i64 i) := blk_cell BP2.out 2
  clear BP BR
  go_upto_region 3 with fail
  obtain ⟨D, hD⟩ : ∃ D, ((k == 0) && decide ((ins : Int) + (b.len : Int) ≤ i)) = D := ⟨_, rfl⟩
  have HD := hide hD
  clear hD
  go_cut [33] (fun sv wx => sv = .bool D ∧ w2 = wx)
  case first =>
    cases e1 : (k == 0)
    · go_wp2_with fail
      go_meet
      exact ⟨by rw [← HD.out, e1]; rfl, rfl⟩
    · by_cases e2 : (ins : Int) + (b.len : Int) ≤ i
      · have e2' : decide ((ins : Int) + (b.len : Int) ≤ i) = true := by simp; omega
        have E2 := hide e2'
        clear e2
        go_wp2_with fail
        go_meet
        exact ⟨by rw [← HD.out, e1, E2.out]; rfl, rfl⟩
      · have e2' : decide ((ins : Int) + (b.len : Int) ≤ i) = false := by simp; omega
        have E2 := hide e2'
        clear e2
        go_wp2_with fail
        go_meet
        exact ⟨by rw [← HD.out, e1, E2.out]; rfl, rfl⟩
  case rest =>
  obtain ⟨rfl, rfl⟩ := hcut
  go_upto_if 33 with fail
  go_cut [7] (fun s7 wx => s7 = .pointer (some ⟨O, 0, none⟩) ∧ Hid (wx.heap[O]? = some (.cells #[.slice ca b.len cc, .int .i64 k, .int .i64 i, .slice none 0 0] 35)) ∧ Hid (Chg (fun x => x = O) w2 wx))
  case first =>
    cases D
    · go_wp2_with fail
      go_meet
      exact ⟨rfl, BO, hide (Chg.refl _ _)⟩
    · have hle : (ins : Int) + (b.len : Int) ≤ i := by
        have h := HD.out
        simp only [Bool.and_eq_true, decide_eq_true_eq] at h
        exact h.2
      have q1 : (0 : Int) ≤ i - ((ins : Int) + (b.len : Int)) := by omega
      have q2 : i - ((ins : Int) + (b.len : Int)) ≤ 9223372036854775807 := by have := HI6.out.2; omega
      have q3 : (ins : Int) + (b.len : Int) + (i - ((ins : Int) + (b.len : Int))) = i := by omega
      have q4 : i ≤ 9223372036854775807 := HI6.out.2
      have q5 : (-9223372036854775808 : Int) ≤ i := HI6.out.1
      have b2 := blk_cell BO.out 2
      have ff2 := blk_free BO.out 2
      simp only [List.getElem?_toArray, List.getElem?_cons_zero, List.getElem?_cons_succ] at b2
      go_wp2_with fail
      refine (copy1_any _ _).mono ?_
      rintro e w' ⟨rfl, rfl⟩
      go_wp2_with fail
      go_meet
      exact ⟨rfl, hide (blk_set BO.out 2 (.int .i64 i)), hide (Chg.set w2 O 2 (.int .i64 i))⟩
  case rest =>
  obtain ⟨rfl, BO3, GW3⟩ := hcut
  generalize wc = w3 at *
  clear BO p0 p1 p2 HD
  have BP3 := hide (GW3.out.blk (by have := HO1.out; have := OW.out; omega) BP2.out)
  have BR3 := hide (GW3.out.blk (by have := HO1.out; have := OW.out; omega) BR2.out)
  have HO : Hid (P < R ∧ R < O ∧ O < w3.heap.size ∧ w1.heap.size ≤ O ∧ w.heap.size = P) := hide (by have := HO1.out; have := OW.out; have := blk_lt BO3.out; omega)
  have TB3 := hide (TB.out.chg GW3.out (fun x hx e => hx.2.2 e))
  obtain ⟨bo, hbo⟩ : ∃ bo, w3.heap.size = bo := ⟨_, rfl⟩
  have HS := hide hbo
  have TBW : Hid (w2.heap.size ≤ bo) := hide (by have := GW3.out.size; omega)
  have HO : Hid (P < R ∧ R < O ∧ O < bo ∧ w1.heap.size ≤ O ∧ w.heap.size = P) := hide (by have := HO.out; omega)
  have G3 : Hid (Chg (fun x => x = O) w w3) := hide (G2.out.none.trans GW3.out)
  clear hbo
  have p3 : w3.cell? ⟨P, 3, none⟩ = some (.slice av f.len cap) := blk_cell BP3.out 3
  go_upto_block 0 with fail
  clear p3
  go_wp2_with fail
  go_loopw [48] (fun jv wr => ∃ (j : Nat), j ≤ f.len ∧ jv = .int .i64 j ∧ Hid (UInvT w3 wr O bo (.slice ca b.len cc) k i f j)) (fun jv _ => f.len - (intOf jv).toNat)
  case atStart => exact ⟨0, Nat.zero_le _, rfl, hide ⟨_, [], BO3, hide ⟨rfl, Or.inl ⟨rfl, rfl⟩⟩, hide rfl, hide (SameT.nil _ _ _ _), hide (Nat.le_of_eq HS.out.symm), hide (Chg.refl _ _)⟩⟩
  case round =>
    obtain ⟨j, hj, rfl, hIN⟩ := hrel
    obtain ⟨u, us, hT, hA, hL, hM, hZ, hC⟩ := hIN.out
    clear hIN BO3
    by_cases hlt : j < f.len
    · have hit : j < f.toL.length := by omega
      obtain ⟨la, lc, hlv, hl⟩ := HV.out
      rcases hl with h0 | ⟨g, off, rfl, hg, hl⟩
      · subst h0; exact absurd hlt (Nat.not_lt_zero _)
      injection hlv with e1 e2 e3
      subst e1 e3
      obtain ⟨⟨vkb, c0, tb⟩, c1, c2, vi, c3, ti⟩ := tlies_get hl j hit
      obtain ⟨kba, kbc, rfl, _⟩ := id tb
      obtain ⟨ka, kc, rfl, _⟩ := id ti
      have hks := Tms.kid_size f j hit
      have hkm := Tms.kid_sum f j hit
      have hok := tok_get OK.out j hit
      have WC : Chg (fun x => x = O) w wr := G3.out.trans hC.out
      have nO : ∀ x, X x → ¬ x = O := fun x hx e => by have := HB.out x hx; have := HO.out; omega
      have d0 := WC.cell (nO g hg) c0
      have d1 := WC.cell (nO g hg) c1
      have d2 := WC.cell (nO g hg) c2
      have d3 := WC.cell (nO g hg) c3
      have ti5 := hide (ti.chg WC nO)
      have tb5 := hide (tb.chg WC nO)
      have BW := hide (fun x (hx : X x) => Nat.lt_of_lt_of_le (HB.out x hx) WC.size)
      have ei : (((ins + b.len : Nat)) : Int) = (ins : Int) + (b.len : Int) := by omega
      have KI := hide (fun w' (gg : Chg (fun _ => False) wr w') => IH.out (f.toL[j]).ag (by have := HF.out; omega) (f.toL[j]).bs (f.toL[j]).kd (f.toL[j]).ix (ins + b.len) _ _ X w' hok.1 hok.2.1 hok.2.2.1 hok.2.2.2 (by have := HSZ.out; have := Fs.len_size b; omega) (fun x hx => Nat.lt_of_lt_of_le (BW.out x hx) gg.size) (tb5.out.chg gg (fun _ _ h => h)) (ti5.out.chg gg (fun _ _ h => h)))
      rw [ei] at KI
      have SN := hide (fun (w' : World) (vb' v' : Value) (h : SameT w' bo u f us) (hvb' : Ts w' (fun x => bo ≤ x ∧ x < w'.heap.size ∧ u.ownBlock ≠ some x) vb' (f.toL[j]).bs) (hv' : Tr w' (fun x => bo ≤ x ∧ x < w'.heap.size ∧ u.ownBlock ≠ some x) v' (f.toL[j]).ag) => h.snoc hit hL.out (p := (vb', (f.toL[j]).kd, (f.toL[j]).ix, v')) ⟨hvb', rfl, rfl, hv'⟩)
      have RL := hide (fun r (e : u.ownBlock = some r) => World.ownsRow.lt hA.out r e)
      have i1 : (0 : Int) ≤ (j : Int) := by omega
      have i2 : (j : Int) < (f.len : Int) := by omega
      have i3 : f.len ≤ 1000000 := HFL.out
      have hus : us.length ≤ 1000001 := by have := hL.out; omega
      have HUL := hide hL.out
      clear hl c0 c1 c2 c3 ti tb hks hkm WC nO hok ei
      dsimp only [Tm.bs, Tm.kd, Tm.ix, Tm.ag] at d0 d1 d2 d3 ti5 tb5 KI SN
      generalize (f.toL[j]).1 = k0 at *
      generalize (f.toL[j]).2.1 = k1 at *
      generalize (f.toL[j]).2.2.1 = k2 at *
      generalize (f.toL[j]).2.2.2 = k3 at *
      have hC0 : Hid (bo ≤ wr.heap.size) := hZ
      have RL0 := RL
      have GE := al wr (.cells #[.slice kba k0.len kbc, .int .i64 k1, .int .i64 k2, .slice ka k3.len kc] 35)
      have BE := blk_new wr (.cells #[.slice kba k0.len kbc, .int .i64 k1, .int .i64 k2, .slice ka k3.len kc] 35)
      have KJ := hide (KI.out _ GE.drew)
      have hT := hide (GE.blk (fun h => h) hT.out)
      have hA := hide (own_chg hA.out GE (fun _ _ h => h))
      have hM := hide (hM.out.chg GE (fun _ _ _ _ h => h))
      have hC := hide (hC.out.trans GE.none)
      have hZ := hide (Nat.le_trans hZ.out GE.size)
      have RL := hide (fun r (e : u.ownBlock = some r) => World.ownsRow.lt hA.out r e)
      have y0 := blk_cell BE 0
      have y1 := blk_cell BE 1
      have y2 := blk_cell BE 2
      have y3 := blk_cell BE 3
      have zO := blk_cell hT.out 3
      simp only [List.getElem?_toArray, List.getElem?_cons_zero, List.getElem?_cons_succ] at y0 y1 y2 y3 zO
      obtain ⟨E, hE⟩ : ∃ E, wr.heap.size = E := ⟨_, rfl⟩
      have HE : Hid (bo ≤ E ∧ E < (wr.alloc (.cells #[.slice kba k0.len kbc, .int .i64 k1, .int .i64 k2, .slice ka k3.len kc] 35)).heap.size) := hide (by rw [al_sz]; have := hC0.out; omega)
      have EO : Hid (∀ r, u.ownBlock = some r → r < E) := hide (fun r e => by have := RL0.out r e; omega)
      rw [hE] at y0 y1 y2 y3
      clear KI ti5 tb5 BW BE GE
      go_wp2_with fail
      try rw [hE]
      clear hE d0 d1 d2 d3
      generalize wr.alloc (.cells #[.slice kba k0.len kbc, .int .i64 k1, .int .i64 k2, .slice ka k3.len kc] 35) = wE at *
      refine wp_region_held_drew (S := (fun w' => w'.cell? ⟨E, 0, none⟩ = some (.slice kba k0.len kbc) ∧ w'.cell? ⟨E, 1, none⟩ = some (.int .i64 k1) ∧ w'.cell? ⟨E, 2, none⟩ = some (.int .i64 k2) ∧ w'.cell? ⟨E, 3, none⟩ = some (.slice ka k3.len kc))) (by kernel_rfl) (by go_keep) (fun hHeld => ?_)
      first
        | (refine wpAnyH_take (i := 0) (v := undef) rfl (by kernel_rfl) (by kernel_rfl) (by kernel_rfl) (fun _ _ _ h => h) (Or.inr ⟨by rfl, rfl⟩) (by assumption) ?_)
        | (refine wpAnyH_take (i := 0) (v := ?_) rfl (by kernel_rfl) (by kernel_rfl) (by kernel_rfl) (fun _ _ _ h => h) (Or.inl ⟨by rfl, ?_⟩) (by assumption) ?_
           rotate_left
           (intro w hSw
            (try dsimp only at hSw)
            (go_simp <;> with_reducible rfl)))
      try simp only [Act.put, List.getElem_toArray, List.getElem_cons_zero, List.getElem_cons_succ, List.setIfInBounds_toArray, List.set_cons_zero, List.set_cons_succ]
      first
        | (refine wpAnyH_take (i := 2) (v := undef) rfl (by kernel_rfl) (by kernel_rfl) (by kernel_rfl) (fun _ _ _ h => h) (Or.inr ⟨by rfl, rfl⟩) (by assumption) ?_)
        | (refine wpAnyH_take (i := 2) (v := ?_) rfl (by kernel_rfl) (by kernel_rfl) (by kernel_rfl) (fun _ _ _ h => h) (Or.inl ⟨by rfl, ?_⟩) (by assumption) ?_
           rotate_left
           (intro w hSw
            (try dsimp only at hSw)
            (go_simp <;> with_reducible rfl)))
      try simp only [Act.put, List.getElem_toArray, List.getElem_cons_zero, List.getElem_cons_succ, List.setIfInBounds_toArray, List.set_cons_zero, List.set_cons_succ]
      first
        | (refine wpAnyH_take (i := 3) (v := undef) rfl (by kernel_rfl) (by kernel_rfl) (by kernel_rfl) (fun _ _ _ h => h) (Or.inr ⟨by rfl, rfl⟩) (by assumption) ?_)
        | (refine wpAnyH_take (i := 3) (v := ?_) rfl (by kernel_rfl) (by kernel_rfl) (by kernel_rfl) (fun _ _ _ h => h) (Or.inl ⟨by rfl, ?_⟩) (by assumption) ?_
           rotate_left
           (intro w hSw
            (try dsimp only at hSw)
            (go_simp <;> with_reducible rfl)))
      try simp only [Act.put, List.getElem_toArray, List.getElem_cons_zero, List.getElem_cons_succ, List.setIfInBounds_toArray, List.set_cons_zero, List.set_cons_succ]
      first
        | (refine wpAnyH_take (i := 4) (v := undef) rfl (by kernel_rfl) (by kernel_rfl) (by kernel_rfl) (fun _ _ _ h => h) (Or.inr ⟨by rfl, rfl⟩) (by assumption) ?_)
        | (refine wpAnyH_take (i := 4) (v := ?_) rfl (by kernel_rfl) (by kernel_rfl) (by kernel_rfl) (fun _ _ _ h => h) (Or.inl ⟨by rfl, ?_⟩) (by assumption) ?_
           rotate_left
           (intro w hSw
            (try dsimp only at hSw)
            (go_simp <;> with_reducible rfl)))
      try simp only [Act.put, List.getElem_toArray, List.getElem_cons_zero, List.getElem_cons_succ, List.setIfInBounds_toArray, List.set_cons_zero, List.set_cons_succ]
      refine wpAnyH_ready (rs := [1, 5]) (by kernel_rfl) (by simp) ?_
      refine AllReadyH.cons (i := 1) (o := _) rfl (fun K hK => ?_) ?_
      · go_simp
        refine hK.out _ _ ⟨y0, y1, y2, y3⟩ (fun hHeld => ?_)
        clear hK K
        try simp only [Act.put, List.getElem_toArray, List.getElem_cons_zero, List.getElem_cons_succ, List.setIfInBounds_toArray, List.set_cons_zero, List.set_cons_succ]
        refine wpAnyH_ready (rs := [5]) (by kernel_rfl) (by simp) ?_
        refine AllReadyH.cons (i := 5) (o := _) rfl (fun K hK => ?_) ?_
        rotate_left
        · exact AllReadyH.nil
        go_simp
        refine KJ.out.mono ?_
        rintro e w6 ⟨⟨vb', v', rfl, tb6, t6⟩, g6'⟩
        obtain ⟨vba, vbc, rfl, _⟩ := id tb6
        obtain ⟨va, vc, rfl, _⟩ := id t6
        have g6 := (Chg.refl (fun _ => False) wE).drew.trans g6'
        have y06 := g6.cell (fun h => h) y0
        have y16 := g6.cell (fun h => h) y1
        have y26 := g6.cell (fun h => h) y2
        have y36 := g6.cell (fun h => h) y3
        have zO6 := g6.cell (fun h => h) zO
        have G7 := al w6 (.cells #[.slice vba k0.len vbc, .int .i64 k1, .int .i64 k2, .slice va k3.len vc] 35)
        have y07 := G7.cell (fun h => h) y06
        have y17 := G7.cell (fun h => h) y16
        have y27 := G7.cell (fun h => h) y26
        have y37 := G7.cell (fun h => h) y36
        have zO7 := G7.cell (fun h => h) zO6
        have HT7 := hide (G7.blk (fun h => h) (g6.blk (fun h => h) hT.out))
        have A7 := hide (own_chg (own_chg hA.out g6 (fun x hx h => h)) G7 (fun x hx h => h))
        have M7 := (hM.out.chg g6 (fun _ _ _ _ h => h)).chg G7 (fun _ _ _ _ h => h)
        have C7 := hide ((hC.out.trans g6.none).trans G7.none)
        have T7 := (t6.chg G7 (fun _ _ h => h)).up (Y := fun x => bo ≤ x ∧ x < (w6.alloc (.cells #[.slice vba k0.len vbc, .int .i64 k1, .int .i64 k2, .slice va k3.len vc] 35)).heap.size ∧ u.ownBlock ≠ some x) (fun x hx => ⟨Nat.le_trans hZ.out hx.1, Nat.lt_of_lt_of_le hx.2 G7.size, fun e => by have h1 := (RL.out x e).2; have h3 : wE.heap.size ≤ x := hx.1; omega⟩)
        have TB7 := (tb6.chg G7 (fun _ _ h => h)).up (Y := fun x => bo ≤ x ∧ x < (w6.alloc (.cells #[.slice vba k0.len vbc, .int .i64 k1, .int .i64 k2, .slice va k3.len vc] 35)).heap.size ∧ u.ownBlock ≠ some x) (fun x hx => ⟨Nat.le_trans hZ.out hx.1, Nat.lt_of_lt_of_le hx.2 G7.size, fun e => by have h1 := (RL.out x e).2; have h3 : wE.heap.size ≤ x := hx.1; omega⟩)
        have N7 := hide (SN.out _ _ _ M7 TB7 T7)
        have Z7 := hide (Nat.le_trans hZ.out (Nat.le_trans g6.size G7.size))
        have NB := hide (World.news_of_block (cs := #[.slice vba k0.len vbc, .int .i64 k1, .int .i64 k2, .slice va k3.len vc]) (t := 35) (fr := (0, 0)) (heap_alloc_new w6 _))
        clear t6 tb6 g6 g6' G7 M7 T7 TB7
        go_simp
        refine hK.out _ _ ⟨y06, y16, y26, y36⟩ (fun hHeld => ?_)
        clear hK K
        try simp only [Act.put, List.getElem_toArray, List.getElem_cons_zero, List.getElem_cons_succ, List.setIfInBounds_toArray, List.set_cons_zero, List.set_cons_succ]
        refine wpAnyH_ready (rs := [6]) (by kernel_rfl) (by simp) ?_
        refine AllReadyH.cons (i := 6) (o := _) rfl (fun K hK => ?_) ?_
        rotate_left
        · exact AllReadyH.nil
        go_simp
        refine hK.out _ _ ⟨y07, y17, y27, y37⟩ (fun hHeld => ?_)
        clear hK K
        try simp only [Act.put, List.getElem_toArray, List.getElem_cons_zero, List.getElem_cons_succ, List.setIfInBounds_toArray, List.set_cons_zero, List.set_cons_succ]
        refine wpAnyH_ready (rs := [7]) (by kernel_rfl) (by simp) ?_
        refine AllReadyH.cons (i := 7) (o := _) rfl (fun K hK => ?_) ?_
        rotate_left
        · exact AllReadyH.nil
        refine step_append_lies _ (by rfl) _ _ _ (by rfl) bo 35 i0 (.agg #[.slice none 0 0, .int .i64 0, .int .i64 0, .slice none 0 0]) 4 64 Tryd.underlying33 hi0 hz0 hz1 hz2 rfl (by omega) _ us.length (cellsT us) (by rfl) A7.out ⟨w6.heap.size, 0, none⟩ 1 1 [.slice vba k0.len vbc, .int .i64 k1, .int .i64 k2, .slice va k3.len vc] (by rfl) (by rfl) NB.out (by simp [Value.oneCell']) (by omega) (by simp [maxLen]; omega) (by omega) Z7.out (w6.heap.size + 1) (by simp) ?_
        intro gg cap2 w8 hown hgrow hgat hglt
        have GR := (Chg.refl (fun x => u.ownBlock = some x) (w6.alloc (.cells #[.slice vba k0.len vbc, .int .i64 k1, .int .i64 k2, .slice va k3.len vc] 35))).grown hgrow (fun r e => Or.inl e)
        have nE : ¬ u.ownBlock = some E := fun e => by have := EO.out E e; omega
        have nO : ¬ u.ownBlock = some O := fun e => by have := (RL.out O e).1; have := HO.out; omega
        have T8 := GR.blk nO HT7.out
        have fO8 := blk_free T8 3
        have zO8 := blk_cell T8 3
        simp only [List.getElem?_toArray, List.getElem?_cons_zero, List.getElem?_cons_succ] at zO8
        have y08 := GR.cell nE y07
        have y18 := GR.cell nE y17
        have y28 := GR.cell nE y27
        have y38 := GR.cell nE y37
        have M8 := N7.out.grown hgrow (u' := .slice (some ⟨gg, 0, none⟩) (us.length + 1) cap2) (by rcases hgat with h | h; exact Or.inl (by rw [h]; rfl); exact Or.inr (by rw [h, al_sz]; rfl))
        have G9 := Chg.set w8 O 3 (.slice (some ⟨gg, 0, none⟩) (us.length + 1) cap2)
        have T9 : Hid ((w8.setCell ⟨O, 3, none⟩ (.slice (some ⟨gg, 0, none⟩) (us.length + 1) cap2)).heap[O]? = some (.cells #[.slice ca b.len cc, .int .i64 k, .int .i64 i, .slice (some ⟨gg, 0, none⟩) (us.length + 1) cap2] 35)) := hide (blk_set T8 3 (.slice (some ⟨gg, 0, none⟩) (us.length + 1) cap2))
        have A9 := hide (tmacc_snoc (p := (.slice vba k0.len vbc, k1, k2, .slice va k3.len vc)) (own_chg hown G9 (fun x hx e => by have := HO.out; omega)))
        have M9 := hide (M8.chg G9 (fun x hx _ _ e => by have := HO.out; omega))
        have Z9 := hide (Nat.le_trans Z7.out (Nat.le_trans GR.size G9.size))
        have C9 : Hid (Chg (fun x => x = O) w3 (w8.setCell ⟨O, 3, none⟩ (.slice (some ⟨gg, 0, none⟩) (us.length + 1) cap2))) := hide (by
          have h1 : Chg (fun x => x = O ∨ bo ≤ x) w3 _ := ((C7.out.mono (fun x _ h => Or.inl h)).trans (GR.mono (fun x _ h => Or.inr (RL.out x h).1))).trans (G9.mono (fun x _ h => Or.inl h))
          exact h1.mono (fun x hx h => by have := HS.out; omega))
        have y09 := G9.cell (by have := HE.out; have := HO.out; omega) y08
        have y19 := G9.cell (by have := HE.out; have := HO.out; omega) y18
        have y29 := G9.cell (by have := HE.out; have := HO.out; omega) y28
        have y39 := G9.cell (by have := HE.out; have := HO.out; omega) y38
        have HL9 : Hid ((us ++ [((.slice vba k0.len vbc, k1, k2, .slice va k3.len vc) : Tc)]).length = j + 1) := hide (by rw [List.length_append, HUL.out]; rfl)
        have F9 : Hid (UInvT w3 (w8.setCell ⟨O, 3, none⟩ (.slice (some ⟨gg, 0, none⟩) (us.length + 1) cap2)) O bo (.slice ca b.len cc) k i f (j + 1)) := hide ⟨_, us ++ [(.slice vba k0.len vbc, k1, k2, .slice va k3.len vc)], T9, A9, HL9, M9, Z9, C9⟩
        clear GR T8 M8 G9 hown hgrow hgat nE nO T9 A9 HL9 M9 Z9 C9
        refine hK.out _ _ ⟨y08, y18, y28, y38⟩ (fun hHeld => ?_)
        clear hK K
        try simp only [Act.put, List.getElem_toArray, List.getElem_cons_zero, List.getElem_cons_succ, List.setIfInBounds_toArray, List.set_cons_zero, List.set_cons_succ]
        first
          | (refine wpAnyH_take (i := 8) (v := undef) rfl (by kernel_rfl) (by kernel_rfl) (by kernel_rfl) (fun _ _ _ h => h) (Or.inr ⟨by rfl, rfl⟩) (by assumption) ?_)
          | (refine wpAnyH_take (i := 8) (v := ?_) rfl (by kernel_rfl) (by kernel_rfl) (by kernel_rfl) (fun _ _ _ h => h) (Or.inl ⟨by rfl, ?_⟩) (by assumption) ?_
             rotate_left
             (intro w hSw
              (try dsimp only at hSw)
              (go_simp <;> with_reducible rfl)))
        try simp only [Act.put, List.getElem_toArray, List.getElem_cons_zero, List.getElem_cons_succ, List.setIfInBounds_toArray, List.set_cons_zero, List.set_cons_succ]
        refine wpAnyH_ready (rs := [9]) (by kernel_rfl) (by simp) ?_
        refine AllReadyH.cons (i := 9) (o := _) rfl (fun K hK => ?_) ?_
        rotate_left
        · exact AllReadyH.nil
        go_simp
        refine hK.out _ _ ⟨y09, y19, y29, y39⟩ (fun hHeld => ?_)
        clear hK K
        try simp only [Act.put, List.getElem_toArray, List.getElem_cons_zero, List.getElem_cons_succ, List.setIfInBounds_toArray, List.set_cons_zero, List.set_cons_succ]
        refine wpAnyH_done (by kernel_rfl) ?_ _
        go_wp2_with fail
        go_roundw
        case rel => exact ⟨j + 1, by omega, by go_num, F9⟩
        case measure => simp [intOf]; omega
      refine AllReadyH.cons (i := 5) (o := _) rfl (fun K hK => ?_) ?_
      rotate_left
      · exact AllReadyH.nil
      go_simp
      refine KJ.out.mono ?_
      rintro e w6 ⟨⟨vb', v', rfl, tb6, t6⟩, g6'⟩
      obtain ⟨vba, vbc, rfl, _⟩ := id tb6
      obtain ⟨va, vc, rfl, _⟩ := id t6
      have g6 := (Chg.refl (fun _ => False) wE).drew.trans g6'
      have y06 := g6.cell (fun h => h) y0
      have y16 := g6.cell (fun h => h) y1
      have y26 := g6.cell (fun h => h) y2
      have y36 := g6.cell (fun h => h) y3
      have zO6 := g6.cell (fun h => h) zO
      have G7 := al w6 (.cells #[.slice vba k0.len vbc, .int .i64 k1, .int .i64 k2, .slice va k3.len vc] 35)
      have y07 := G7.cell (fun h => h) y06
      have y17 := G7.cell (fun h => h) y16
      have y27 := G7.cell (fun h => h) y26
      have y37 := G7.cell (fun h => h) y36
      have zO7 := G7.cell (fun h => h) zO6
      have HT7 := hide (G7.blk (fun h => h) (g6.blk (fun h => h) hT.out))
      have A7 := hide (own_chg (own_chg hA.out g6 (fun x hx h => h)) G7 (fun x hx h => h))
      have M7 := (hM.out.chg g6 (fun _ _ _ _ h => h)).chg G7 (fun _ _ _ _ h => h)
      have C7 := hide ((hC.out.trans g6.none).trans G7.none)
      have T7 := (t6.chg G7 (fun _ _ h => h)).up (Y := fun x => bo ≤ x ∧ x < (w6.alloc (.cells #[.slice vba k0.len vbc, .int .i64 k1, .int .i64 k2, .slice va k3.len vc] 35)).heap.size ∧ u.ownBlock ≠ some x) (fun x hx => ⟨Nat.le_trans hZ.out hx.1, Nat.lt_of_lt_of_le hx.2 G7.size, fun e => by have h1 := (RL.out x e).2; have h3 : wE.heap.size ≤ x := hx.1; omega⟩)
      have TB7 := (tb6.chg G7 (fun _ _ h => h)).up (Y := fun x => bo ≤ x ∧ x < (w6.alloc (.cells #[.slice vba k0.len vbc, .int .i64 k1, .int .i64 k2, .slice va k3.len vc] 35)).heap.size ∧ u.ownBlock ≠ some x) (fun x hx => ⟨Nat.le_trans hZ.out hx.1, Nat.lt_of_lt_of_le hx.2 G7.size, fun e => by have h1 := (RL.out x e).2; have h3 : wE.heap.size ≤ x := hx.1; omega⟩)
      have N7 := hide (SN.out _ _ _ M7 TB7 T7)
      have Z7 := hide (Nat.le_trans hZ.out (Nat.le_trans g6.size G7.size))
      have NB := hide (World.news_of_block (cs := #[.slice vba k0.len vbc, .int .i64 k1, .int .i64 k2, .slice va k3.len vc]) (t := 35) (fr := (0, 0)) (heap_alloc_new w6 _))
      clear t6 tb6 g6 g6' G7 M7 T7 TB7
      go_simp
      refine hK.out _ _ ⟨y06, y16, y26, y36⟩ (fun hHeld => ?_)
      clear hK K
      try simp only [Act.put, List.getElem_toArray, List.getElem_cons_zero, List.getElem_cons_succ, List.setIfInBounds_toArray, List.set_cons_zero, List.set_cons_succ]
      refine wpAnyH_ready (rs := [1, 6]) (by kernel_rfl) (by simp) ?_
      refine AllReadyH.cons (i := 1) (o := _) rfl (fun K hK => ?_) ?_
      · go_simp
        refine hK.out _ _ ⟨y06, y16, y26, y36⟩ (fun hHeld => ?_)
        clear hK K
        try simp only [Act.put, List.getElem_toArray, List.getElem_cons_zero, List.getElem_cons_succ, List.setIfInBounds_toArray, List.set_cons_zero, List.set_cons_succ]
        refine wpAnyH_ready (rs := [6]) (by kernel_rfl) (by simp) ?_
        refine AllReadyH.cons (i := 6) (o := _) rfl (fun K hK => ?_) ?_
        rotate_left
        · exact AllReadyH.nil
        go_simp
        refine hK.out _ _ ⟨y07, y17, y27, y37⟩ (fun hHeld => ?_)
        clear hK K
        try simp only [Act.put, List.getElem_toArray, List.getElem_cons_zero, List.getElem_cons_succ, List.setIfInBounds_toArray, List.set_cons_zero, List.set_cons_succ]
        refine wpAnyH_ready (rs := [7]) (by kernel_rfl) (by simp) ?_
        refine AllReadyH.cons (i := 7) (o := _) rfl (fun K hK => ?_) ?_
        rotate_left
        · exact AllReadyH.nil
        refine step_append_lies _ (by rfl) _ _ _ (by rfl) bo 35 i0 (.agg #[.slice none 0 0, .int .i64 0, .int .i64 0, .slice none 0 0]) 4 64 Tryd.underlying33 hi0 hz0 hz1 hz2 rfl (by omega) _ us.length (cellsT us) (by rfl) A7.out ⟨w6.heap.size, 0, none⟩ 1 1 [.slice vba k0.len vbc, .int .i64 k1, .int .i64 k2, .slice va k3.len vc] (by rfl) (by rfl) NB.out (by simp [Value.oneCell']) (by omega) (by simp [maxLen]; omega) (by omega) Z7.out (w6.heap.size + 1) (by simp) ?_
        intro gg cap2 w8 hown hgrow hgat hglt
        have GR := (Chg.refl (fun x => u.ownBlock = some x) (w6.alloc (.cells #[.slice vba k0.len vbc, .int .i64 k1, .int .i64 k2, .slice va k3.len vc] 35))).grown hgrow (fun r e => Or.inl e)
        have nE : ¬ u.ownBlock = some E := fun e => by have := EO.out E e; omega
        have nO : ¬ u.ownBlock = some O := fun e => by have := (RL.out O e).1; have := HO.out; omega
        have T8 := GR.blk nO HT7.out
        have fO8 := blk_free T8 3
        have zO8 := blk_cell T8 3
        simp only [List.getElem?_toArray, List.getElem?_cons_zero, List.getElem?_cons_succ] at zO8
        have y08 := GR.cell nE y07
        have y18 := GR.cell nE y17
        have y28 := GR.cell nE y27
        have y38 := GR.cell nE y37
        have M8 := N7.out.grown hgrow (u' := .slice (some ⟨gg, 0, none⟩) (us.length + 1) cap2) (by rcases hgat with h | h; exact Or.inl (by rw [h]; rfl); exact Or.inr (by rw [h, al_sz]; rfl))
        have G9 := Chg.set w8 O 3 (.slice (some ⟨gg, 0, none⟩) (us.length + 1) cap2)
        have T9 : Hid ((w8.setCell ⟨O, 3, none⟩ (.slice (some ⟨gg, 0, none⟩) (us.length + 1) cap2)).heap[O]? = some (.cells #[.slice ca b.len cc, .int .i64 k, .int .i64 i, .slice (some ⟨gg, 0, none⟩) (us.length + 1) cap2] 35)) := hide (blk_set T8 3 (.slice (some ⟨gg, 0, none⟩) (us.length + 1) cap2))
        have A9 := hide (tmacc_snoc (p := (.slice vba k0.len vbc, k1, k2, .slice va k3.len vc)) (own_chg hown G9 (fun x hx e => by have := HO.out; omega)))
        have M9 := hide (M8.chg G9 (fun x hx _ _ e => by have := HO.out; omega))
        have Z9 := hide (Nat.le_trans Z7.out (Nat.le_trans GR.size G9.size))
        have C9 : Hid (Chg (fun x => x = O) w3 (w8.setCell ⟨O, 3, none⟩ (.slice (some ⟨gg, 0, none⟩) (us.length + 1) cap2))) := hide (by
          have h1 : Chg (fun x => x = O ∨ bo ≤ x) w3 _ := ((C7.out.mono (fun x _ h => Or.inl h)).trans (GR.mono (fun x _ h => Or.inr (RL.out x h).1))).trans (G9.mono (fun x _ h => Or.inl h))
          exact h1.mono (fun x hx h => by have := HS.out; omega))
        have y09 := G9.cell (by have := HE.out; have := HO.out; omega) y08
        have y19 := G9.cell (by have := HE.out; have := HO.out; omega) y18
        have y29 := G9.cell (by have := HE.out; have := HO.out; omega) y28
        have y39 := G9.cell (by have := HE.out; have := HO.out; omega) y38
        have HL9 : Hid ((us ++ [((.slice vba k0.len vbc, k1, k2, .slice va k3.len vc) : Tc)]).length = j + 1) := hide (by rw [List.length_append, HUL.out]; rfl)
        have F9 : Hid (UInvT w3 (w8.setCell ⟨O, 3, none⟩ (.slice (some ⟨gg, 0, none⟩) (us.length + 1) cap2)) O bo (.slice ca b.len cc) k i f (j + 1)) := hide ⟨_, us ++ [(.slice vba k0.len vbc, k1, k2, .slice va k3.len vc)], T9, A9, HL9, M9, Z9, C9⟩
        clear GR T8 M8 G9 hown hgrow hgat nE nO T9 A9 HL9 M9 Z9 C9
        refine hK.out _ _ ⟨y08, y18, y28, y38⟩ (fun hHeld => ?_)
        clear hK K
        try simp only [Act.put, List.getElem_toArray, List.getElem_cons_zero, List.getElem_cons_succ, List.setIfInBounds_toArray, List.set_cons_zero, List.set_cons_succ]
        first
          | (refine wpAnyH_take (i := 8) (v := undef) rfl (by kernel_rfl) (by kernel_rfl) (by kernel_rfl) (fun _ _ _ h => h) (Or.inr ⟨by rfl, rfl⟩) (by assumption) ?_)
          | (refine wpAnyH_take (i := 8) (v := ?_) rfl (by kernel_rfl) (by kernel_rfl) (by kernel_rfl) (fun _ _ _ h => h) (Or.inl ⟨by rfl, ?_⟩) (by assumption) ?_
             rotate_left
             (intro w hSw
              (try dsimp only at hSw)
              (go_simp <;> with_reducible rfl)))
        try simp only [Act.put, List.getElem_toArray, List.getElem_cons_zero, List.getElem_cons_succ, List.setIfInBounds_toArray, List.set_cons_zero, List.set_cons_succ]
        refine wpAnyH_ready (rs := [9]) (by kernel_rfl) (by simp) ?_
        refine AllReadyH.cons (i := 9) (o := _) rfl (fun K hK => ?_) ?_
        rotate_left
        · exact AllReadyH.nil
        go_simp
        refine hK.out _ _ ⟨y09, y19, y29, y39⟩ (fun hHeld => ?_)
        clear hK K
        try simp only [Act.put, List.getElem_toArray, List.getElem_cons_zero, List.getElem_cons_succ, List.setIfInBounds_toArray, List.set_cons_zero, List.set_cons_succ]
        refine wpAnyH_done (by kernel_rfl) ?_ _
        go_wp2_with fail
        go_roundw
        case rel => exact ⟨j + 1, by omega, by go_num, F9⟩
        case measure => simp [intOf]; omega
      refine AllReadyH.cons (i := 6) (o := _) rfl (fun K hK => ?_) ?_
      rotate_left
      · exact AllReadyH.nil
      go_simp
      refine hK.out _ _ ⟨y07, y17, y27, y37⟩ (fun hHeld => ?_)
      clear hK K
      try simp only [Act.put, List.getElem_toArray, List.getElem_cons_zero, List.getElem_cons_succ, List.setIfInBounds_toArray, List.set_cons_zero, List.set_cons_succ]
      refine wpAnyH_ready (rs := [1]) (by kernel_rfl) (by simp) ?_
      refine AllReadyH.cons (i := 1) (o := _) rfl (fun K hK => ?_) ?_
      rotate_left
      · exact AllReadyH.nil
      go_simp
      refine hK.out _ _ ⟨y07, y17, y27, y37⟩ (fun hHeld => ?_)
      clear hK K
      try simp only [Act.put, List.getElem_toArray, List.getElem_cons_zero, List.getElem_cons_succ, List.setIfInBounds_toArray, List.set_cons_zero, List.set_cons_succ]
      refine wpAnyH_ready (rs := [7]) (by kernel_rfl) (by simp) ?_
      refine AllReadyH.cons (i := 7) (o := _) rfl (fun K hK => ?_) ?_
      rotate_left
      · exact AllReadyH.nil
      refine step_append_lies _ (by rfl) _ _ _ (by rfl) bo 35 i0 (.agg #[.slice none 0 0, .int .i64 0, .int .i64 0, .slice none 0 0]) 4 64 Tryd.underlying33 hi0 hz0 hz1 hz2 rfl (by omega) _ us.length (cellsT us) (by rfl) A7.out ⟨w6.heap.size, 0, none⟩ 1 1 [.slice vba k0.len vbc, .int .i64 k1, .int .i64 k2, .slice va k3.len vc] (by rfl) (by rfl) NB.out (by simp [Value.oneCell']) (by omega) (by simp [maxLen]; omega) (by omega) Z7.out (w6.heap.size + 1) (by simp) ?_
      intro gg cap2 w8 hown hgrow hgat hglt
      have GR := (Chg.refl (fun x => u.ownBlock = some x) (w6.alloc (.cells #[.slice vba k0.len vbc, .int .i64 k1, .int .i64 k2, .slice va k3.len vc] 35))).grown hgrow (fun r e => Or.inl e)
      have nE : ¬ u.ownBlock = some E := fun e => by have := EO.out E e; omega
      have nO : ¬ u.ownBlock = some O := fun e => by have := (RL.out O e).1; have := HO.out; omega
      have T8 := GR.blk nO HT7.out
      have fO8 := blk_free T8 3
      have zO8 := blk_cell T8 3
      simp only [List.getElem?_toArray, List.getElem?_cons_zero, List.getElem?_cons_succ] at zO8
      have y08 := GR.cell nE y07
      have y18 := GR.cell nE y17
      have y28 := GR.cell nE y27
      have y38 := GR.cell nE y37
      have M8 := N7.out.grown hgrow (u' := .slice (some ⟨gg, 0, none⟩) (us.length + 1) cap2) (by rcases hgat with h | h; exact Or.inl (by rw [h]; rfl); exact Or.inr (by rw [h, al_sz]; rfl))
      have G9 := Chg.set w8 O 3 (.slice (some ⟨gg, 0, none⟩) (us.length + 1) cap2)
      have T9 : Hid ((w8.setCell ⟨O, 3, none⟩ (.slice (some ⟨gg, 0, none⟩) (us.length + 1) cap2)).heap[O]? = some (.cells #[.slice ca b.len cc, .int .i64 k, .int .i64 i, .slice (some ⟨gg, 0, none⟩) (us.length + 1) cap2] 35)) := hide (blk_set T8 3 (.slice (some ⟨gg, 0, none⟩) (us.length + 1) cap2))
      have A9 := hide (tmacc_snoc (p := (.slice vba k0.len vbc, k1, k2, .slice va k3.len vc)) (own_chg hown G9 (fun x hx e => by have := HO.out; omega)))
      have M9 := hide (M8.chg G9 (fun x hx _ _ e => by have := HO.out; omega))
      have Z9 := hide (Nat.le_trans Z7.out (Nat.le_trans GR.size G9.size))
      have C9 : Hid (Chg (fun x => x = O) w3 (w8.setCell ⟨O, 3, none⟩ (.slice (some ⟨gg, 0, none⟩) (us.length + 1) cap2))) := hide (by
        have h1 : Chg (fun x => x = O ∨ bo ≤ x) w3 _ := ((C7.out.mono (fun x _ h => Or.inl h)).trans (GR.mono (fun x _ h => Or.inr (RL.out x h).1))).trans (G9.mono (fun x _ h => Or.inl h))
        exact h1.mono (fun x hx h => by have := HS.out; omega))
      have y09 := G9.cell (by have := HE.out; have := HO.out; omega) y08
      have y19 := G9.cell (by have := HE.out; have := HO.out; omega) y18
      have y29 := G9.cell (by have := HE.out; have := HO.out; omega) y28
      have y39 := G9.cell (by have := HE.out; have := HO.out; omega) y38
      have HL9 : Hid ((us ++ [((.slice vba k0.len vbc, k1, k2, .slice va k3.len vc) : Tc)]).length = j + 1) := hide (by rw [List.length_append, HUL.out]; rfl)
      have F9 : Hid (UInvT w3 (w8.setCell ⟨O, 3, none⟩ (.slice (some ⟨gg, 0, none⟩) (us.length + 1) cap2)) O bo (.slice ca b.len cc) k i f (j + 1)) := hide ⟨_, us ++ [(.slice vba k0.len vbc, k1, k2, .slice va k3.len vc)], T9, A9, HL9, M9, Z9, C9⟩
      clear GR T8 M8 G9 hown hgrow hgat nE nO T9 A9 HL9 M9 Z9 C9
      refine hK.out _ _ ⟨y08, y18, y28, y38⟩ (fun hHeld => ?_)
      clear hK K
      try simp only [Act.put, List.getElem_toArray, List.getElem_cons_zero, List.getElem_cons_succ, List.setIfInBounds_toArray, List.set_cons_zero, List.set_cons_succ]
      first
        | (refine wpAnyH_take (i := 8) (v := undef) rfl (by kernel_rfl) (by kernel_rfl) (by kernel_rfl) (fun _ _ _ h => h) (Or.inr ⟨by rfl, rfl⟩) (by assumption) ?_)
        | (refine wpAnyH_take (i := 8) (v := ?_) rfl (by kernel_rfl) (by kernel_rfl) (by kernel_rfl) (fun _ _ _ h => h) (Or.inl ⟨by rfl, ?_⟩) (by assumption) ?_
           rotate_left
           (intro w hSw
            (try dsimp only at hSw)
            (go_simp <;> with_reducible rfl)))
      try simp only [Act.put, List.getElem_toArray, List.getElem_cons_zero, List.getElem_cons_succ, List.setIfInBounds_toArray, List.set_cons_zero, List.set_cons_succ]
      refine wpAnyH_ready (rs := [9]) (by kernel_rfl) (by simp) ?_
      refine AllReadyH.cons (i := 9) (o := _) rfl (fun K hK => ?_) ?_
      rotate_left
      · exact AllReadyH.nil
      go_simp
      refine hK.out _ _ ⟨y09, y19, y29, y39⟩ (fun hHeld => ?_)
      clear hK K
      try simp only [Act.put, List.getElem_toArray, List.getElem_cons_zero, List.getElem_cons_succ, List.setIfInBounds_toArray, List.set_cons_zero, List.set_cons_succ]
      refine wpAnyH_done (by kernel_rfl) ?_ _
      go_wp2_with fail
      go_roundw
      case rel => exact ⟨j + 1, by omega, by go_num, F9⟩
      case measure => simp [intOf]; omega
    · have hif : j = f.len := by omega
      have BRr := hC.out.blk (by have := HO.out; omega) BR3.out
      have z0 := blk_cell hT.out 0
      have z1 := blk_cell hT.out 1
      have z2 := blk_cell hT.out 2
      have z3 := blk_cell hT.out 3
      have cR0 := blk_cell BRr 0
      have cR1 := blk_cell BRr 1
      have cR2 := blk_cell BRr 2
      have cR3 := blk_cell BRr 3
      have fR0 := blk_free BRr 0
      have fR1 := blk_free BRr 1
      have fR2 := blk_free BRr 2
      have fR3 := blk_free BRr 3
      simp only [List.getElem?_toArray, List.getElem?_cons_zero, List.getElem?_cons_succ] at z0 z1 z2 z3 cR0 cR1 cR2 cR3
      obtain ⟨ua, uc, hue⟩ : ∃ ua uc, u = .slice ua us.length uc := by
        rcases hA.out.2 with ⟨h1, h2⟩ | ⟨g, cap2, cur, h1, _⟩
        · exact ⟨_, _, by rw [h1, h2]⟩
        · exact ⟨_, _, h1⟩
      have NS : Hid (((((wr.setCell ⟨R, 0, none⟩ (.slice ca b.len cc)).setCell ⟨R, 1, none⟩ (.int .i64 k)).setCell ⟨R, 2, none⟩ (.int .i64 i)).setCell ⟨R, 3, none⟩ u).heap[R]? = some (.cells #[.slice ca b.len cc, .int .i64 k, .int .i64 i, u] 35) ∧ Chg (fun x => x = R) wr ((((wr.setCell ⟨R, 0, none⟩ (.slice ca b.len cc)).setCell ⟨R, 1, none⟩ (.int .i64 k)).setCell ⟨R, 2, none⟩ (.int .i64 i)).setCell ⟨R, 3, none⟩ u)) := hide ⟨blk_set (blk_set (blk_set (blk_set BRr 0 (.slice ca b.len cc)) 1 (.int .i64 k)) 2 (.int .i64 i)) 3 u, (((Chg.set wr R 0 (.slice ca b.len cc)).trans (Chg.set _ R 1 (.int .i64 k))).trans (Chg.set _ R 2 (.int .i64 i))).trans (Chg.set _ R 3 u)⟩
      have AF := own_chg hA.out NS.out.2 (fun x hx e => by have := HO.out; omega)
      have MF := hM.out.chg NS.out.2 (fun x hx _ _ e => by have := HO.out; omega)
      have CF : Chg (fun _ => False) w ((((wr.setCell ⟨R, 0, none⟩ (.slice ca b.len cc)).setCell ⟨R, 1, none⟩ (.int .i64 k)).setCell ⟨R, 2, none⟩ (.int .i64 i)).setCell ⟨R, 3, none⟩ u) := by
        have h1 : Chg (fun x => x = O ∨ x = R) w _ := ((G3.out.mono (fun x _ h => Or.inl h)).trans (hC.out.mono (fun x _ h => Or.inl h))).trans (NS.out.2.mono (fun x _ h => Or.inr h))
        exact h1.mono (fun x hx h => by have := HO.out; omega)
      have TF := ((TB3.out.chg hC.out (fun x hx e => hx.2.2 e)).chg NS.out.2 (fun x hx e => by have := hx.1; have := HO1.out; omega)).up (Y := fun x => w.heap.size ≤ x ∧ x < ((((wr.setCell ⟨R, 0, none⟩ (.slice ca b.len cc)).setCell ⟨R, 1, none⟩ (.int .i64 k)).setCell ⟨R, 2, none⟩ (.int .i64 i)).setCell ⟨R, 3, none⟩ u).heap.size) (fun x hx => ⟨by have := hx.1; have := HO1.out; omega, by have := hx.2.1; have := TBW.out; have := hZ.out; have := NS.out.2.size; omega⟩)
      have F : Hid ((Ts ((((wr.setCell ⟨R, 0, none⟩ (.slice ca b.len cc)).setCell ⟨R, 1, none⟩ (.int .i64 k)).setCell ⟨R, 2, none⟩ (.int .i64 i)).setCell ⟨R, 3, none⟩ u) (fun x => w.heap.size ≤ x ∧ x < ((((wr.setCell ⟨R, 0, none⟩ (.slice ca b.len cc)).setCell ⟨R, 1, none⟩ (.int .i64 k)).setCell ⟨R, 2, none⟩ (.int .i64 i)).setCell ⟨R, 3, none⟩ u).heap.size) (.slice ca b.len cc) b ∧ Tr ((((wr.setCell ⟨R, 0, none⟩ (.slice ca b.len cc)).setCell ⟨R, 1, none⟩ (.int .i64 k)).setCell ⟨R, 2, none⟩ (.int .i64 i)).setCell ⟨R, 3, none⟩ u) (fun x => w.heap.size ≤ x ∧ x < ((((wr.setCell ⟨R, 0, none⟩ (.slice ca b.len cc)).setCell ⟨R, 1, none⟩ (.int .i64 k)).setCell ⟨R, 2, none⟩ (.int .i64 i)).setCell ⟨R, 3, none⟩ u).heap.size) u f) ∧ Chg (fun _ => False) w ((((wr.setCell ⟨R, 0, none⟩ (.slice ca b.len cc)).setCell ⟨R, 1, none⟩ (.int .i64 k)).setCell ⟨R, 2, none⟩ (.int .i64 i)).setCell ⟨R, 3, none⟩ u)) := hide ⟨⟨TF, tmacc_tr AF (fun r e => by have h1 := World.ownsRow.lt AF r e; have := HO.out; exact ⟨by omega, h1.2⟩) (by rw [hL.out, htl, hif]) (fun m h1 h2 => (MF.2 m h1 h2).up (fun x hx => ⟨by have := HO.out; have := hx.1; omega, hx.2.1⟩))⟩, CF⟩
      subst hue
      subst hif
      clear AF MF CF TF hT hA hL hM hZ hC BRr
      go_wp2_with fail
      generalize ((((wr.setCell ⟨R, 0, none⟩ (.slice ca b.len cc)).setCell ⟨R, 1, none⟩ (.int .i64 k)).setCell ⟨R, 2, none⟩ (.int .i64 i)).setCell ⟨R, 3, none⟩ (.slice ua us.length uc)) = wF at *
      have r0 := blk_cell NS.out.1 0
      have r1 := blk_cell NS.out.1 1
      have r2 := blk_cell NS.out.1 2
      have r3 := blk_cell NS.out.1 3
      refine bodyPost_ret (v := .agg #[.slice ca b.len cc, .int .i64 k, .int .i64 i, .slice ua us.length uc]) (by simp [results, Tryd.results68, go_sem, r0, r1, r2, r3]) rfl ?_
      exact ⟨⟨_, _, rfl, F.out.1.1, F.out.1.2, CPW.out⟩, F.out.2⟩

theorem turned_cap (f : Tms) : TurnCC f := turned_stepC f.size (fun g _ => turned_any g) f (Nat.le_refl _)
/-- a term whose types have their capacity -/
def CapTm (v : Value) : Prop := ∃ u x y z, v = .agg #[u, x, y, z] ∧ CapOk u
theorem CapTm.fst {u x y z : Value} (h : CapTm (.agg #[u, x, y, z])) : CapOk u := by
  obtain ⟨_, _, _, _, e, h⟩ := h
  cases e
  exact h

set_option maxRecDepth 100000 in
set_option maxHeartbeats 4000000 in
theorem copy_cap (t : Tm) (ok : TmOk t) (v : Value) (X : Nat → Prop) (w : World) (hX : ∀ x, X x → x < w.heap.size) (hv : TV w X v t) :
    Calls Tryd.prog 43 #[v] w fun e w' => (∃ v', e = .returned v' ∧ TV w' (fun x => w.heap.size ≤ x ∧ x < w'.heap.size) v' t ∧ CapTm v') ∧ Chg (fun _ => False) w w' := by
  obtain ⟨b, k, i, f⟩ := t
  obtain ⟨ba, bc, a, cap, rfl, h1, h2⟩ := hv
  dsimp only [Tm.bs, Tm.kd, Tm.ix, Tm.ag] at *
  have G1 := al w (.cells #[.slice ba b.len bc, .int .i64 k, .int .i64 i, .slice a f.len cap] 35)
  have G2 := al (w.alloc (.cells #[.slice ba b.len bc, .int .i64 k, .int .i64 i, .slice a f.len cap] 35)) (.cells #[.slice none 0 0, .int .i64 0, .int .i64 0, .slice none 0 0] 35)
  have b1 := blk_new (w.alloc (.cells #[.slice ba b.len bc, .int .i64 k, .int .i64 i, .slice a f.len cap] 35)) (.cells #[.slice none 0 0, .int .i64 0, .int .i64 0, .slice none 0 0] 35)
  rw [al_sz] at b1
  have GG := hide (G1.trans G2)
  have BR := hide b1
  have TC := hide (turned_cap f b k i 0 _ _ X ((w.alloc (.cells #[.slice ba b.len bc, .int .i64 k, .int .i64 i, .slice a f.len cap] 35)).alloc (.cells #[.slice none 0 0, .int .i64 0, .int .i64 0, .slice none 0 0] 35)) ok.1 ok.2.1 ok.2.2.1 ok.2.2.2.1 (by have := ok.2.2.2.2; dsimp only [Tm.bs, Tm.ag] at this; omega) (fun x hx => Nat.lt_of_lt_of_le (hX x hx) GG.out.size) (h1.chg GG.out (fun _ _ h => h)) (h2.chg GG.out (fun _ _ h => h)))
  have e0 : ((0 : Nat) : Int) = 0 := rfl
  rw [e0] at TC
  clear e0 G1 G2 b1 h1 h2 hX
  go_enter Tryd.func43, Tryd.ntmps43
  go_wp2_with fail
  generalize ((w.alloc (.cells #[.slice ba b.len bc, .int .i64 k, .int .i64 i, .slice a f.len cap] 35)).alloc (.cells #[.slice none 0 0, .int .i64 0, .int .i64 0, .slice none 0 0] 35)) = w1 at *
  obtain ⟨R, hR⟩ : ∃ R, w.heap.size + 1 = R := ⟨_, rfl⟩
  rw [hR] at BR
  try rw [hR]
  have HR := hide hR
  clear hR
  refine TC.out.mono ?_
  rintro e w2 ⟨⟨vb', v', rfl, tb, tr, cp⟩, g⟩
  have HCP := hide cp
  clear cp
  obtain ⟨ca, cc, rfl, _⟩ := id tb
  obtain ⟨va, vc, rfl, _⟩ := id tr
  have B2 := hide (g.blk (fun h => h) BR.out)
  have b0 := blk_cell B2.out 0
  have b1 := blk_cell B2.out 1
  have b2 := blk_cell B2.out 2
  have b3 := blk_cell B2.out 3
  have ff0 := blk_free B2.out 0
  have ff1 := blk_free B2.out 1
  have ff2 := blk_free B2.out 2
  have ff3 := blk_free B2.out 3
  simp only [List.getElem?_toArray, List.getElem?_cons_zero, List.getElem?_cons_succ] at b0 b1 b2 b3
  have hz1 := blk_lt BR.out
  have NS : Hid (((((w2.setCell ⟨R, 0, none⟩ (.slice ca b.len cc)).setCell ⟨R, 1, none⟩ (.int .i64 k)).setCell ⟨R, 2, none⟩ (.int .i64 i)).setCell ⟨R, 3, none⟩ (.slice va f.len vc)).heap[R]? = some (.cells #[.slice ca b.len cc, .int .i64 k, .int .i64 i, .slice va f.len vc] 35) ∧ Chg (fun x => x = R) w2 ((((w2.setCell ⟨R, 0, none⟩ (.slice ca b.len cc)).setCell ⟨R, 1, none⟩ (.int .i64 k)).setCell ⟨R, 2, none⟩ (.int .i64 i)).setCell ⟨R, 3, none⟩ (.slice va f.len vc))) := hide ⟨blk_set (blk_set (blk_set (blk_set B2.out 0 (.slice ca b.len cc)) 1 (.int .i64 k)) 2 (.int .i64 i)) 3 (.slice va f.len vc), (((Chg.set w2 R 0 (.slice ca b.len cc)).trans (Chg.set _ R 1 (.int .i64 k))).trans (Chg.set _ R 2 (.int .i64 i))).trans (Chg.set _ R 3 (.slice va f.len vc))⟩
  have GF : Hid (Chg (fun _ => False) w ((((w2.setCell ⟨R, 0, none⟩ (.slice ca b.len cc)).setCell ⟨R, 1, none⟩ (.int .i64 k)).setCell ⟨R, 2, none⟩ (.int .i64 i)).setCell ⟨R, 3, none⟩ (.slice va f.len vc))) := hide ((((GG.out.trans g).mono (T := fun x => x = R) (fun x _ h => h.elim)).trans NS.out.2).mono (fun x hx e => by have := HR.out; omega))
  have LF : Hid (TV ((((w2.setCell ⟨R, 0, none⟩ (.slice ca b.len cc)).setCell ⟨R, 1, none⟩ (.int .i64 k)).setCell ⟨R, 2, none⟩ (.int .i64 i)).setCell ⟨R, 3, none⟩ (.slice va f.len vc)) (fun x => w.heap.size ≤ x ∧ x < ((((w2.setCell ⟨R, 0, none⟩ (.slice ca b.len cc)).setCell ⟨R, 1, none⟩ (.int .i64 k)).setCell ⟨R, 2, none⟩ (.int .i64 i)).setCell ⟨R, 3, none⟩ (.slice va f.len vc)).heap.size) (.agg #[.slice ca b.len cc, .int .i64 k, .int .i64 i, .slice va f.len vc]) (b, k, i, f)) := hide (((show TV w2 (fun x => w1.heap.size ≤ x ∧ x < w2.heap.size) _ (b, k, i, f) from ⟨ca, cc, va, vc, rfl, tb, tr⟩).chg NS.out.2 (fun x hx e => by have := hx.1; omega)).up (fun x hx => ⟨by have := hx.1; have := HR.out; omega, by have := hx.2; have := NS.out.2.size; omega⟩))
  clear g tb tr TC hz1 B2
  go_wp2_with fail
  generalize ((((w2.setCell ⟨R, 0, none⟩ (.slice ca b.len cc)).setCell ⟨R, 1, none⟩ (.int .i64 k)).setCell ⟨R, 2, none⟩ (.int .i64 i)).setCell ⟨R, 3, none⟩ (.slice va f.len vc)) = wF at *
  have r0 := blk_cell NS.out.1 0
  have r1 := blk_cell NS.out.1 1
  have r2 := blk_cell NS.out.1 2
  have r3 := blk_cell NS.out.1 3
  refine bodyPost_ret (v := .agg #[.slice ca b.len cc, .int .i64 k, .int .i64 i, .slice va f.len vc]) (by simp [results, Tryd.results43, go_sem, r0, r1, r2, r3]) rfl ?_
  exact ⟨⟨_, rfl, LF.out, ⟨_, _, _, _, rfl, HCP.out⟩⟩, GF.out⟩

set_option maxRecDepth 100000 in
set_option maxHeartbeats 8000000 in
theorem close_cap (t : Tm) (f : Fs) (ok : TmOk (f.app t.bs, t.kd, t.ix, t.ag)) (v u : Value) (X : Nat → Prop) (w : World) (hX : ∀ x, X x → x < w.heap.size) (hv : TV w X v t) (hu : Ts w X u f) :
    Calls Tryd.prog 30 #[v, u] w fun e w' => (∃ v', e = .returned v' ∧ TV w' (fun x => w.heap.size ≤ x ∧ x < w'.heap.size) v' (f.app t.bs, t.kd, t.ix, t.ag) ∧ CapTm v') ∧ Chg (fun _ => False) w w' := by
  obtain ⟨b, k, i, ag⟩ := t
  obtain ⟨ba, bc, a, cap, rfl, h1, h2⟩ := hv
  obtain ⟨ua, uc, rfl, _⟩ := id hu
  dsimp only [Tm.bs, Tm.kd, Tm.ix, Tm.ag] at *
  have hsz1 : (f.app b).size ≤ 40000 := ok.1
  have l0 := Fs.app_size f b
  have l1 := Fs.len_size f
  have l2 := Fs.len_size b
  have G1 := al w (.cells #[.slice ba b.len bc, .int .i64 k, .int .i64 i, .slice a ag.len cap] 35)
  have B0 := blk_new w (.cells #[.slice ba b.len bc, .int .i64 k, .int .i64 i, .slice a ag.len cap] 35)
  have G2 := al (w.alloc (.cells #[.slice ba b.len bc, .int .i64 k, .int .i64 i, .slice a ag.len cap] 35)) (.cells #[.slice none 0 0, .int .i64 0, .int .i64 0, .slice none 0 0] 35)
  have B1 := blk_new (w.alloc (.cells #[.slice ba b.len bc, .int .i64 k, .int .i64 i, .slice a ag.len cap] 35)) (.cells #[.slice none 0 0, .int .i64 0, .int .i64 0, .slice none 0 0] 35)
  have B0b := hide (G2.blk (fun h => h) B0)
  rw [al_sz] at B1
  have B1b := hide B1
  have GG := hide (G1.trans G2)
  have H1 := hide (h1.chg GG.out (fun _ _ h => h))
  have H2 := hide (h2.chg GG.out (fun _ _ h => h))
  have HU := hide (hu.chg GG.out (fun _ _ h => h))
  have HX := hide hX
  have OK := hide ok
  have SZ : Hid (((w.alloc (.cells #[.slice ba b.len bc, .int .i64 k, .int .i64 i, .slice a ag.len cap] 35)).alloc (.cells #[.slice none 0 0, .int .i64 0, .int .i64 0, .slice none 0 0] 35)).heap.size = w.heap.size + 1 + 1) := hide (by rw [al_sz, al_sz])
  clear h1 h2 hu hX ok G1 G2 B0 B1
  go_enter Tryd.func30, Tryd.ntmps30
  go_wp2_with fail
  generalize ((w.alloc (.cells #[.slice ba b.len bc, .int .i64 k, .int .i64 i, .slice a ag.len cap] 35)).alloc (.cells #[.slice none 0 0, .int .i64 0, .int .i64 0, .slice none 0 0] 35)) = w1 at *
  obtain ⟨W0, hW0⟩ : ∃ W0, w.heap.size = W0 := ⟨_, rfl⟩
  rw [hW0] at B0b B1b SZ ⊢
  have HW := hide hW0
  clear hW0
  have y0 := blk_cell B0b.out 0
  simp only [List.getElem?_toArray, List.getElem?_cons_zero] at y0
  have G3 := al w1 (.cells #[.slice ua f.len uc, .slice ba b.len bc] 31)
  have NB := blk_new w1 (.cells #[.slice ua f.len uc, .slice ba b.len bc] 31)
  have CT := hide (concat_ts w1.heap.size X _ _ f b (by omega) (by omega) _ (fun x h => Nat.lt_of_lt_of_le (HX.out x h) (Nat.le_trans GG.out.size G3.size)) (blk_cell NB 0) (blk_cell NB 1) (HU.out.chg G3 (fun _ _ h => h)) (H1.out.chg G3 (fun _ _ h => h)))
  have HG3 := hide G3
  rw [show w1.heap.size = W0 + 1 + 1 from SZ.out] at CT
  clear G3 NB
  go_wp2_with fail
  refine CT.out.mono ?_
  rintro e w2 ⟨⟨v1, rfl, t1⟩, g2⟩
  obtain ⟨a3, c3, rfl, _⟩ := id t1
  have G2 := hide (HG3.out.trans g2)
  have b0 := G2.out.blk (fun h => h) B0b.out
  have b1 := G2.out.blk (fun h => h) B1b.out
  have p0 := blk_cell b0 0
  have f0 := blk_free b0 0
  simp only [List.getElem?_toArray, List.getElem?_cons_zero] at p0
  have S0 := blk_set b0 0 (.slice a3 (f.app b).len c3)
  simp only [List.setIfInBounds_toArray, List.set_cons_zero] at S0
  have C0 := Chg.set w2 W0 0 (.slice a3 (f.app b).len c3)
  have S1 := hide (C0.blk (by omega) b1)
  have S0h := hide S0
  have CC := hide C0
  have hX0 : ∀ x, X x → x < W0 := fun x h => by have := HX.out x h; have := HW.out; omega
  have T1 := hide (t1.chg C0 (fun x hx e => by
    rcases hx with hx | hx
    · have := hX0 x hx; omega
    · rw [al_sz] at hx
      have := SZ.out
      omega))
  have T2 := hide ((H2.out.chg G2.out (fun _ _ h => h)).chg C0 (fun x hx e => by have := hX0 x hx; omega))
  have hs2 := g2.size
  rw [al_sz] at hs2
  clear t1 g2 CT b0 b1 S0 C0 H1 H2 HU hX0
  go_upto_region 2 with fail
  generalize w2.setCell ⟨W0, 0, none⟩ (.slice a3 (f.app b).len c3) = w3 at *
  clear p0 f0
  have q0 := blk_cell S0h.out 0
  have q1 := blk_cell S0h.out 1
  have q2 := blk_cell S0h.out 2
  have q3 := blk_cell S0h.out 3
  simp only [List.getElem?_toArray, List.getElem?_cons_zero, List.getElem?_cons_succ] at q0 q1 q2 q3
  have hs3 := CC.out.size
  have CP := hide (copy_cap (f.app b, k, i, ag) OK.out (.agg #[.slice a3 (f.app b).len c3, .int .i64 k, .int .i64 i, .slice a ag.len cap]) (fun x => x < w3.heap.size) w3 (fun _ h => h) ⟨_, _, _, _, rfl, T1.out.up (fun x hx => by
    rcases hx with hx | hx
    · have := HX.out x hx; have := HW.out; have := SZ.out; omega
    · omega), T2.out.up (fun x hx => by have := HX.out x hx; have := HW.out; have := SZ.out; omega)⟩)
  have hw3 : W0 + 1 + 1 + 1 ≤ w3.heap.size := by have := SZ.out; omega
  clear T1 T2 hs2 hs3
  go_wp2_with fail
  refine CP.out.mono ?_
  rintro e w4 ⟨⟨v4, rfl, t4, cp⟩, g4⟩
  obtain ⟨r1, r2, r3, r4, rfl, k1, k2⟩ := t4
  have HCP := hide cp.fst
  clear cp
  dsimp only [Tm.bs, Tm.kd, Tm.ix, Tm.ag] at *
  have b1 := g4.blk (fun h => h) S1.out
  have z0 := blk_cell b1 0
  have z1 := blk_cell b1 1
  have z2 := blk_cell b1 2
  have z3 := blk_cell b1 3
  have y0 := blk_free b1 0
  have y1 := blk_free b1 1
  have y2 := blk_free b1 2
  have y3 := blk_free b1 3
  simp only [List.getElem?_toArray, List.getElem?_cons_zero, List.getElem?_cons_succ] at z0 z1 z2 z3
  have E0 := blk_set b1 0 (.slice r1 (f.app b).len r2)
  have E1 := blk_set E0 1 (.int .i64 k)
  have E2 := blk_set E1 2 (.int .i64 i)
  have E3 := blk_set E2 3 (.slice r3 ag.len r4)
  simp only [List.setIfInBounds_toArray, List.set_cons_zero, List.set_cons_succ] at E3
  have EE := hide E3
  have D := ((((Chg.refl (fun x => x = W0 + 1) w4).setCell (p := ⟨W0 + 1, 0, none⟩) (Or.inl rfl) (.slice r1 (f.app b).len r2)).setCell (p := ⟨W0 + 1, 1, none⟩) (Or.inl rfl) (.int .i64 k)).setCell (p := ⟨W0 + 1, 2, none⟩) (Or.inl rfl) (.int .i64 i)).setCell (p := ⟨W0 + 1, 3, none⟩) (Or.inl rfl) (.slice r3 ag.len r4)
  have DD := hide D
  have GA := hide (((GG.out.trans G2.out).none.trans (CC.out.mono (T := fun x => W0 ≤ x) (fun x _ e => by omega))).trans (g4.none.trans (D.mono (T := fun x => W0 ≤ x) (fun x _ e => by omega))))
  have K1 := hide (k1.chg D (fun x hx e => by omega))
  have K2 := hide (k2.chg D (fun x hx e => by omega))
  have hs4 := D.size
  have hs5 := g4.size
  clear b1 E0 E1 E2 E3 k1 k2 g4 CP D
  go_wp2_with fail
  generalize ((((w4.setCell ⟨W0 + 1, 0, none⟩ (.slice r1 (f.app b).len r2)).setCell ⟨W0 + 1, 1, none⟩ (.int .i64 k)).setCell ⟨W0 + 1, 2, none⟩ (.int .i64 i)).setCell ⟨W0 + 1, 3, none⟩ (.slice r3 ag.len r4)) = wF at *
  have u0 := blk_cell EE.out 0
  have u1 := blk_cell EE.out 1
  have u2 := blk_cell EE.out 2
  have u3 := blk_cell EE.out 3
  refine bodyPost_ret (v := .agg #[.slice r1 (f.app b).len r2, .int .i64 k, .int .i64 i, .slice r3 ag.len r4]) (by simp [results, Tryd.results30, go_sem, u0, u1, u2, u3]) rfl ?_
  have hw := HW.out
  exact ⟨⟨_, rfl, ⟨_, _, _, _, rfl, K1.out.up (fun x hx => ⟨by omega, by omega⟩), K2.out.up (fun x hx => ⟨by omega, by omega⟩)⟩, ⟨_, _, _, _, rfl, HCP.out⟩⟩, GA.out.mono (fun x hx e => by omega)⟩
end Go.Proofs.YtnpcapdlgcaniaaDoor
