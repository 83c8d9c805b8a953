/- The document's Same of two types that are the same. -/
import Derived.Test.YtnpcapdlgcaniaaDoorFew
namespace Go.Proofs.YtnpcapdlgcaniaaDoor
open Go.RowKit
set_option linter.unusedVariables false
set_option linter.unusedSimpArgs false

set_option maxRecDepth 100000 in
set_option maxHeartbeats 8000000 in
theorem same_step (N : Nat) (hN : N ≤ 1000000) (ih : ∀ (f : Fs), f.size < N → ∀ (v v' : Value) (b : Int) (X : Nat → Prop) (w : World), (∀ x, X x → x < w.heap.size) → Ts w X v f → Ts w X v' f →
    Calls Tryd.prog 46 #[.agg #[v, .int .i64 b], .agg #[v', .int .i64 b]] w fun e w' => e = .returned (.bool true) ∧ Chg (fun _ => False) w w')
    (f : Fs) (hf : f.size ≤ N) (v v' : Value) (b : Int) (X : Nat → Prop) (w : World) (hB : ∀ x, X x → x < w.heap.size) (hv : Ts w X v f) (hv' : Ts w X v' f) :
    Calls Tryd.prog 46 #[.agg #[v, .int .i64 b], .agg #[v', .int .i64 b]] w fun e w' => e = .returned (.bool true) ∧ Chg (fun _ => False) w w' := by
  have IH := hide ih
  obtain ⟨a, cap, rfl, hx⟩ := id hv
  obtain ⟨a', cap', rfl, hx'⟩ := id hv'
  have HV := hide hv
  have HV' := hide hv'
  have HB := hide hB
  have HF := hide hf
  have htl := Fs.toL_len f
  have hls := Fs.len_size f
  have hln : f.len ≤ 1000000 := by omega
  have G1 := al w (.cells #[.slice a f.len cap, .int .i64 b] 92)
  have G2 := al (w.alloc (.cells #[.slice a f.len cap, .int .i64 b] 92)) (.cells #[.slice a' f.len cap', .int .i64 b] 92)
  have B1 := G2.blk (fun h => h) (blk_new w (.cells #[.slice a f.len cap, .int .i64 b] 92))
  have B2 := blk_new (w.alloc (.cells #[.slice a f.len cap, .int .i64 b] 92)) (.cells #[.slice a' f.len cap', .int .i64 b] 92)
  rw [al_sz] at B2
  have y0 := blk_cell B1 0
  have y1 := blk_cell B1 1
  have z0 := blk_cell B2 0
  have z1 := blk_cell B2 1
  simp only [List.getElem?_toArray, List.getElem?_cons_zero, List.getElem?_cons_succ] at y0 y1 z0 z1
  have GG := hide (G1.trans G2)
  have H1 := hide B1
  have H2 := hide B2
  clear hx hv hx' hv' ih hB hf B1 B2 G1 G2
  go_enter Tryd.func46, Tryd.ntmps46
  go_wp2_with fail
  obtain ⟨P, hP⟩ : ∃ P, w.heap.size = P := ⟨_, rfl⟩
  have HP := hide hP
  rw [hP] at H1 H2 ⊢
  obtain ⟨Q, hQ⟩ : ∃ Q, P + 1 = Q := ⟨_, rfl⟩
  rw [hQ] at H2 ⊢
  clear hP hQ y0 y1 z0 z1
  generalize (w.alloc (.cells #[.slice a f.len cap, .int .i64 b] 92)).alloc (.cells #[.slice a' f.len cap', .int .i64 b] 92) = w1 at *
  go_loopw [5] (fun iv wr => ∃ (i : Nat), i ≤ f.len ∧ iv = .int .i64 i ∧ Hid (wr.heap[P]? = some (.cells #[.slice a f.len cap, .int .i64 b] 92)) ∧ Hid (wr.heap[Q]? = some (.cells #[.slice a' f.len cap', .int .i64 b] 92)) ∧ Hid (Chg (fun _ => False) w wr)) (fun iv _ => f.len - (intOf iv).toNat)
  case atStart => exact ⟨0, Nat.zero_le _, rfl, H1, H2, GG⟩
  case round =>
    clear H1 H2
    obtain ⟨i, hi, rfl, hT, hU, hC⟩ := hrel
    have xP := blk_cell hT.out 0
    have xQ := blk_cell hU.out 0
    simp only [List.getElem?_toArray, List.getElem?_cons_zero, List.getElem?_cons_succ] at xP xQ
    by_cases hlt : i < f.len
    · have i2 : (i : Int) < (f.len : Int) := by omega
      have hit : i < f.toL.length := by omega
      obtain ⟨la, lc, hlv, hl⟩ := HV.out
      obtain ⟨la', lc', hlv', hl'⟩ := HV'.out
      rcases hl with h0 | ⟨g, off, rfl, hg, hl⟩
      · subst h0; exact absurd hlt (Nat.not_lt_zero _)
      rcases hl' with h0 | ⟨g', off', rfl, hg', hl'⟩
      · subst h0; exact absurd hlt (Nat.not_lt_zero _)
      injection hlv with e1 e2 e3
      subst e1
      subst e3
      injection hlv' with e1 e2 e3
      subst e1
      subst e3
      obtain ⟨⟨vi, c0, ti⟩, c1⟩ := lies_get hl i hit
      obtain ⟨ka, kc, rfl, _⟩ := id ti
      obtain ⟨⟨vi', c0', ti'⟩, c1'⟩ := lies_get hl' i hit
      obtain ⟨ka', kc', rfl, _⟩ := id ti'
      have hks := Fs.kid_size f i hit
      have d0 := hC.out.cell (fun h => h) c0
      have d1 := hC.out.cell (fun h => h) c1
      have f0 := hC.out.cell (fun h => h) c0'
      have f1 := hC.out.cell (fun h => h) c1'
      have ti5 := hide (ti.chg (hC.out.trans (Chg.refl (fun _ => False) wr).drew) (fun _ _ h => h))
      have ti5' := hide (ti'.chg (hC.out.trans (Chg.refl (fun _ => False) wr).drew) (fun _ _ h => h))
      have BW := hide (fun x (hx : X x) => Nat.lt_of_lt_of_le (HB.out x hx) (hC.out.trans (Chg.refl (fun _ => False) wr).drew).size)
      have KI := hide (IH.out (f.toL[i]).1 (by have := HF.out; omega) (.slice ka (f.toL[i]).1.len kc) (.slice ka' (f.toL[i]).1.len kc') (f.toL[i]).2 X wr.drew BW.out ti5.out ti5'.out)
      have i1 : (0 : Int) ≤ (i : Int) := by omega
      clear hl c0 c1 ti hks hl' c0' c1' ti' ti5 ti5' BW
      obtain ⟨kk, hkk⟩ : ∃ kk, kk = (f.toL[i]).1 := ⟨_, rfl⟩
      rw [← hkk] at d0 f0 KI
      generalize (f.toL[i]).2 = kb at *
      clear hkk
      go_wp2_with fail
      refine wp_region_held_drew (S := (fun w' => w'.cell? ⟨P, 0, none⟩ = some (.slice (some ⟨g, off, none⟩) f.len cap) ∧ w'.cell? ⟨Q, 0, none⟩ = some (.slice (some ⟨g', off', none⟩) f.len cap') ∧ w'.cell? ⟨g, off + i * 2, none⟩ = some (.slice ka kk.len kc) ∧ w'.cell? ⟨g, off + i * 2 + 1, none⟩ = some (.int .i64 kb) ∧ w'.cell? ⟨g', off' + i * 2, none⟩ = some (.slice ka' kk.len kc') ∧ w'.cell? ⟨g', off' + i * 2 + 1, none⟩ = some (.int .i64 kb))) (by kernel_rfl) (by go_keep) (fun hHeld => ?_)
      first
        | (refine wpAnyH_take (i := 0) (v := undef) rfl (by kernel_rfl) (by kernel_rfl) (by kernel_rfl) (fun _ _ _ h => h) (Or.inr ⟨by rfl, rfl⟩) (by assumption) ?_)
        | (refine wpAnyH_take (i := 0) (v := ?_) rfl (by kernel_rfl) (by kernel_rfl) (by kernel_rfl) (fun _ _ _ h => h) (Or.inl ⟨by rfl, ?_⟩) (by assumption) ?_
           rotate_left
           (intro w hSw
            (try dsimp only at hSw)
            (go_simp <;> with_reducible rfl)))
      try simp only [Act.put, List.getElem_toArray, List.getElem_cons_zero, List.getElem_cons_succ, List.setIfInBounds_toArray, List.set_cons_zero, List.set_cons_succ]
      first
        | (refine wpAnyH_take (i := 1) (v := undef) rfl (by kernel_rfl) (by kernel_rfl) (by kernel_rfl) (fun _ _ _ h => h) (Or.inr ⟨by rfl, rfl⟩) (by assumption) ?_)
        | (refine wpAnyH_take (i := 1) (v := ?_) rfl (by kernel_rfl) (by kernel_rfl) (by kernel_rfl) (fun _ _ _ h => h) (Or.inl ⟨by rfl, ?_⟩) (by assumption) ?_
           rotate_left
           (intro w hSw
            (try dsimp only at hSw)
            (go_simp <;> with_reducible rfl)))
      try simp only [Act.put, List.getElem_toArray, List.getElem_cons_zero, List.getElem_cons_succ, List.setIfInBounds_toArray, List.set_cons_zero, List.set_cons_succ]
      first
        | (refine wpAnyH_take (i := 2) (v := undef) rfl (by kernel_rfl) (by kernel_rfl) (by kernel_rfl) (fun _ _ _ h => h) (Or.inr ⟨by rfl, rfl⟩) (by assumption) ?_)
        | (refine wpAnyH_take (i := 2) (v := ?_) rfl (by kernel_rfl) (by kernel_rfl) (by kernel_rfl) (fun _ _ _ h => h) (Or.inl ⟨by rfl, ?_⟩) (by assumption) ?_
           rotate_left
           (intro w hSw
            (try dsimp only at hSw)
            (go_simp <;> with_reducible rfl)))
      try simp only [Act.put, List.getElem_toArray, List.getElem_cons_zero, List.getElem_cons_succ, List.setIfInBounds_toArray, List.set_cons_zero, List.set_cons_succ]
      first
        | (refine wpAnyH_take (i := 3) (v := undef) rfl (by kernel_rfl) (by kernel_rfl) (by kernel_rfl) (fun _ _ _ h => h) (Or.inr ⟨by rfl, rfl⟩) (by assumption) ?_)
        | (refine wpAnyH_take (i := 3) (v := ?_) rfl (by kernel_rfl) (by kernel_rfl) (by kernel_rfl) (fun _ _ _ h => h) (Or.inl ⟨by rfl, ?_⟩) (by assumption) ?_
           rotate_left
           (intro w hSw
            (try dsimp only at hSw)
            (go_simp <;> with_reducible rfl)))
      try simp only [Act.put, List.getElem_toArray, List.getElem_cons_zero, List.getElem_cons_succ, List.setIfInBounds_toArray, List.set_cons_zero, List.set_cons_succ]
      first
        | (refine wpAnyH_take (i := 4) (v := undef) rfl (by kernel_rfl) (by kernel_rfl) (by kernel_rfl) (fun _ _ _ h => h) (Or.inr ⟨by rfl, rfl⟩) (by assumption) ?_)
        | (refine wpAnyH_take (i := 4) (v := ?_) rfl (by kernel_rfl) (by kernel_rfl) (by kernel_rfl) (fun _ _ _ h => h) (Or.inl ⟨by rfl, ?_⟩) (by assumption) ?_
           rotate_left
           (intro w hSw
            (try dsimp only at hSw)
            (go_simp <;> with_reducible rfl)))
      try simp only [Act.put, List.getElem_toArray, List.getElem_cons_zero, List.getElem_cons_succ, List.setIfInBounds_toArray, List.set_cons_zero, List.set_cons_succ]
      first
        | (refine wpAnyH_take (i := 5) (v := undef) rfl (by kernel_rfl) (by kernel_rfl) (by kernel_rfl) (fun _ _ _ h => h) (Or.inr ⟨by rfl, rfl⟩) (by assumption) ?_)
        | (refine wpAnyH_take (i := 5) (v := ?_) rfl (by kernel_rfl) (by kernel_rfl) (by kernel_rfl) (fun _ _ _ h => h) (Or.inl ⟨by rfl, ?_⟩) (by assumption) ?_
           rotate_left
           (intro w hSw
            (try dsimp only at hSw)
            (go_simp <;> with_reducible rfl)))
      try simp only [Act.put, List.getElem_toArray, List.getElem_cons_zero, List.getElem_cons_succ, List.setIfInBounds_toArray, List.set_cons_zero, List.set_cons_succ]
      first
        | (refine wpAnyH_take (i := 6) (v := undef) rfl (by kernel_rfl) (by kernel_rfl) (by kernel_rfl) (fun _ _ _ h => h) (Or.inr ⟨by rfl, rfl⟩) (by assumption) ?_)
        | (refine wpAnyH_take (i := 6) (v := ?_) rfl (by kernel_rfl) (by kernel_rfl) (by kernel_rfl) (fun _ _ _ h => h) (Or.inl ⟨by rfl, ?_⟩) (by assumption) ?_
           rotate_left
           (intro w hSw
            (try dsimp only at hSw)
            (go_simp <;> with_reducible rfl)))
      try simp only [Act.put, List.getElem_toArray, List.getElem_cons_zero, List.getElem_cons_succ, List.setIfInBounds_toArray, List.set_cons_zero, List.set_cons_succ]
      first
        | (refine wpAnyH_take (i := 7) (v := undef) rfl (by kernel_rfl) (by kernel_rfl) (by kernel_rfl) (fun _ _ _ h => h) (Or.inr ⟨by rfl, rfl⟩) (by assumption) ?_)
        | (refine wpAnyH_take (i := 7) (v := ?_) rfl (by kernel_rfl) (by kernel_rfl) (by kernel_rfl) (fun _ _ _ h => h) (Or.inl ⟨by rfl, ?_⟩) (by assumption) ?_
           rotate_left
           (intro w hSw
            (try dsimp only at hSw)
            (go_simp <;> with_reducible rfl)))
      try simp only [Act.put, List.getElem_toArray, List.getElem_cons_zero, List.getElem_cons_succ, List.setIfInBounds_toArray, List.set_cons_zero, List.set_cons_succ]
      first
        | (refine wpAnyH_take (i := 8) (v := undef) rfl (by kernel_rfl) (by kernel_rfl) (by kernel_rfl) (fun _ _ _ h => h) (Or.inr ⟨by rfl, rfl⟩) (by assumption) ?_)
        | (refine wpAnyH_take (i := 8) (v := ?_) rfl (by kernel_rfl) (by kernel_rfl) (by kernel_rfl) (fun _ _ _ h => h) (Or.inl ⟨by rfl, ?_⟩) (by assumption) ?_
           rotate_left
           (intro w hSw
            (try dsimp only at hSw)
            (go_simp <;> with_reducible rfl)))
      try simp only [Act.put, List.getElem_toArray, List.getElem_cons_zero, List.getElem_cons_succ, List.setIfInBounds_toArray, List.set_cons_zero, List.set_cons_succ]
      first
        | (refine wpAnyH_take (i := 9) (v := undef) rfl (by kernel_rfl) (by kernel_rfl) (by kernel_rfl) (fun _ _ _ h => h) (Or.inr ⟨by rfl, rfl⟩) (by assumption) ?_)
        | (refine wpAnyH_take (i := 9) (v := ?_) rfl (by kernel_rfl) (by kernel_rfl) (by kernel_rfl) (fun _ _ _ h => h) (Or.inl ⟨by rfl, ?_⟩) (by assumption) ?_
           rotate_left
           (intro w hSw
            (try dsimp only at hSw)
            (go_simp <;> with_reducible rfl)))
      try simp only [Act.put, List.getElem_toArray, List.getElem_cons_zero, List.getElem_cons_succ, List.setIfInBounds_toArray, List.set_cons_zero, List.set_cons_succ]
      refine wpAnyH_ready (rs := [10]) (by kernel_rfl) (by simp) ?_
      refine AllReadyH.cons (i := 10) (o := _) rfl (fun K hK => ?_) ?_
      rotate_left
      · exact AllReadyH.nil
      go_simp
      refine KI.out.mono ?_
      rintro e w6 ⟨rfl, g6'⟩
      have g6 := (Chg.refl (fun _ => False) wr).drew.trans g6'
      have GT := hide (g6.blk (fun h => h) hT.out)
      have GU := hide (g6.blk (fun h => h) hU.out)
      have GC := hide (hC.out.trans g6)
      have xP6 := g6.cell (fun h => h) xP
      have xQ6 := g6.cell (fun h => h) xQ
      have d06 := g6.cell (fun h => h) d0
      have d16 := g6.cell (fun h => h) d1
      have f06 := g6.cell (fun h => h) f0
      have f16 := g6.cell (fun h => h) f1
      clear g6 g6' hT hU hC
      go_simp
      refine hK.out _ _ ⟨xP6, xQ6, d06, d16, f06, f16⟩ (fun hHeld => ?_)
      clear hK K
      try simp only [Act.put, List.getElem_toArray, List.getElem_cons_zero, List.getElem_cons_succ, List.setIfInBounds_toArray, List.set_cons_zero, List.set_cons_succ]
      first
        | (refine wpAnyH_take (i := 11) (v := undef) rfl (by kernel_rfl) (by kernel_rfl) (by kernel_rfl) (fun _ _ _ h => h) (Or.inr ⟨by rfl, rfl⟩) (by assumption) ?_)
        | (refine wpAnyH_take (i := 11) (v := ?_) rfl (by kernel_rfl) (by kernel_rfl) (by kernel_rfl) (fun _ _ _ h => h) (Or.inl ⟨by rfl, ?_⟩) (by assumption) ?_
           rotate_left
           (intro w hSw
            (try dsimp only at hSw)
            (go_simp <;> with_reducible rfl)))
      try simp only [Act.put, List.getElem_toArray, List.getElem_cons_zero, List.getElem_cons_succ, List.setIfInBounds_toArray, List.set_cons_zero, List.set_cons_succ]
      refine wpAnyH_done (by kernel_rfl) ?_ _
      go_wp2_with fail
      go_roundw
      case rel => exact ⟨i + 1, by omega, by go_num, GT, GU, GC⟩
      case measure => simp [intOf]; omega
    · have i2 : ¬ (i : Int) < (f.len : Int) := by omega
      go_wp2_with fail
      go_ret
      exact ⟨rfl, hC.out⟩
theorem same_all (N : Nat) (hN : N ≤ 1000000) : ∀ (f : Fs), f.size ≤ N → ∀ (v v' : Value) (b : Int) (X : Nat → Prop) (w : World), (∀ x, X x → x < w.heap.size) → Ts w X v f → Ts w X v' f →
    Calls Tryd.prog 46 #[.agg #[v, .int .i64 b], .agg #[v', .int .i64 b]] w fun e w' => e = .returned (.bool true) ∧ Chg (fun _ => False) w w' := by
  induction N with
  | zero => exact fun f hf => same_step 0 hN (fun g hg => absurd hg (Nat.not_lt_zero _)) f hf
  | succ n ih => exact fun f hf => same_step (n + 1) hN (fun g hg => ih (by omega) g (by omega)) f hf
theorem same_any (f : Fs) (hf : f.size ≤ 1000000) (v v' : Value) (b : Int) (X : Nat → Prop) (w : World) (hX : ∀ x, X x → x < w.heap.size) (hv : Ts w X v f) (hv' : Ts w X v' f) :
    Calls Tryd.prog 46 #[.agg #[v, .int .i64 b], .agg #[v', .int .i64 b]] w fun e w' => e = .returned (.bool true) ∧ Chg (fun _ => False) w w' :=
  same_all 1000000 (Nat.le_refl _) f hf v v' b X w hX hv hv'
end Go.Proofs.YtnpcapdlgcaniaaDoor
