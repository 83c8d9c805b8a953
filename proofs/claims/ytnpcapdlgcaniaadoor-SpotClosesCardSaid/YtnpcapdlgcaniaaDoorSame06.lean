/- The document's Same of two terms that are the same, and of two rows of types. -/
import Derived.Test.YtnpcapdlgcaniaaDoorSame04
import Derived.Test.YtnpcapdlgcaniaaDoorTypes
import Derived.Test.YtnpcapdlgcaniaaDoorClones
namespace Go.Proofs.YtnpcapdlgcaniaaDoor
open Go.RowKit
set_option linter.unusedVariables false
set_option linter.unusedSimpArgs false

set_option maxRecDepth 100000 in
set_option maxHeartbeats 8000000 in
theorem types_same (f : Fs) (hf : f.size ≤ 1000000) (v v' : Value) (X : Nat → Prop) (w : World) (hB : ∀ x, X x → x < w.heap.size) (hv : Ts w X v f) (hv' : Ts w X v' f) :
    Calls Tryd.prog 44 #[v, v'] w fun e w' => e = .returned (.bool true) ∧ Chg (fun _ => False) w w' := by
  obtain ⟨a, cap, rfl, hx⟩ := id hv
  obtain ⟨a', cap', rfl, hx'⟩ := id hv'
  have HV := hide hv
  have HV' := hide hv'
  have HB := hide hB
  have htl := Fs.toL_len f
  have hls := Fs.len_size f
  have hln : f.len ≤ 1000000 := by omega
  clear hx hv hx' hv' hB
  go_enter Tryd.func44, Tryd.ntmps44
  go_wp2_with fail
  go_loopw [5] (fun iv wr => ∃ (i : Nat), i ≤ f.len ∧ iv = .int .i64 i ∧ Hid (Chg (fun _ => False) w wr)) (fun iv _ => f.len - (intOf iv).toNat)
  case atStart => exact ⟨0, Nat.zero_le _, rfl, hide (Chg.refl _ _)⟩
  case round =>
    obtain ⟨i, hi, rfl, hC⟩ := hrel
    by_cases hlt : i < f.len
    · have i2 : (i : Int) < (f.len : Int) := by omega
      have hit : i < f.toL.length := by omega
      obtain ⟨la, lc, hlv, hl⟩ := HV.out
      obtain ⟨la', lc', hlv', hl'⟩ := HV'.out
      rcases hl with h0 | ⟨g, off, rfl, hg, hl⟩
      · subst h0; exact absurd hlt (Nat.not_lt_zero _)
      rcases hl' with h0 | ⟨g', off', rfl, hg', hl'⟩
      · subst h0; exact absurd hlt (Nat.not_lt_zero _)
      injection hlv with e1 e2 e3
      subst e1
      subst e3
      injection hlv' with e1 e2 e3
      subst e1
      subst e3
      obtain ⟨⟨vi, c0, ti⟩, c1⟩ := lies_get hl i hit
      obtain ⟨ka, kc, rfl, _⟩ := id ti
      obtain ⟨⟨vi', c0', ti'⟩, c1'⟩ := lies_get hl' i hit
      obtain ⟨ka', kc', rfl, _⟩ := id ti'
      have hks := Fs.kid_size f i hit
      have d0 := hC.out.cell (fun h => h) c0
      have d1 := hC.out.cell (fun h => h) c1
      have f0 := hC.out.cell (fun h => h) c0'
      have f1 := hC.out.cell (fun h => h) c1'
      have GD := hC.out.trans (Chg.refl (fun _ => False) wr).drew
      have KI := hide (same_any (f.toL[i]).1 (by omega) (.slice ka (f.toL[i]).1.len kc) (.slice ka' (f.toL[i]).1.len kc') (f.toL[i]).2 X wr.drew (fun x hx => Nat.lt_of_lt_of_le (HB.out x hx) GD.size) (ti.chg GD (fun _ _ h => h)) (ti'.chg GD (fun _ _ h => h)))
      have i1 : (0 : Int) ≤ (i : Int) := by omega
      clear hl c0 c1 ti hks hl' c0' c1' ti' GD
      obtain ⟨kk, hkk⟩ : ∃ kk, kk = (f.toL[i]).1 := ⟨_, rfl⟩
      rw [← hkk] at d0 f0 KI
      generalize (f.toL[i]).2 = kb at *
      clear hkk
      go_wp2_with fail
      refine wp_region_held_drew (S := (fun w' => w'.cell? ⟨g, off + i * 2, none⟩ = some (.slice ka kk.len kc) ∧ w'.cell? ⟨g, off + i * 2 + 1, none⟩ = some (.int .i64 kb) ∧ w'.cell? ⟨g', off' + i * 2, none⟩ = some (.slice ka' kk.len kc') ∧ w'.cell? ⟨g', off' + i * 2 + 1, none⟩ = some (.int .i64 kb))) (by kernel_rfl) (by go_keep) (fun hHeld => ?_)
      first
        | (refine wpAnyH_take (i := 0) (v := undef) rfl (by kernel_rfl) (by kernel_rfl) (by kernel_rfl) (fun _ _ _ h => h) (Or.inr ⟨by rfl, rfl⟩) (by assumption) ?_)
        | (refine wpAnyH_take (i := 0) (v := ?_) rfl (by kernel_rfl) (by kernel_rfl) (by kernel_rfl) (fun _ _ _ h => h) (Or.inl ⟨by rfl, ?_⟩) (by assumption) ?_
           rotate_left
           (intro w hSw
            (try dsimp only at hSw)
            (go_simp <;> with_reducible rfl)))
      try simp only [Act.put, List.getElem_toArray, List.getElem_cons_zero, List.getElem_cons_succ, List.setIfInBounds_toArray, List.set_cons_zero, List.set_cons_succ]
      first
        | (refine wpAnyH_take (i := 1) (v := undef) rfl (by kernel_rfl) (by kernel_rfl) (by kernel_rfl) (fun _ _ _ h => h) (Or.inr ⟨by rfl, rfl⟩) (by assumption) ?_)
        | (refine wpAnyH_take (i := 1) (v := ?_) rfl (by kernel_rfl) (by kernel_rfl) (by kernel_rfl) (fun _ _ _ h => h) (Or.inl ⟨by rfl, ?_⟩) (by assumption) ?_
           rotate_left
           (intro w hSw
            (try dsimp only at hSw)
            (go_simp <;> with_reducible rfl)))
      try simp only [Act.put, List.getElem_toArray, List.getElem_cons_zero, List.getElem_cons_succ, List.setIfInBounds_toArray, List.set_cons_zero, List.set_cons_succ]
      first
        | (refine wpAnyH_take (i := 2) (v := undef) rfl (by kernel_rfl) (by kernel_rfl) (by kernel_rfl) (fun _ _ _ h => h) (Or.inr ⟨by rfl, rfl⟩) (by assumption) ?_)
        | (refine wpAnyH_take (i := 2) (v := ?_) rfl (by kernel_rfl) (by kernel_rfl) (by kernel_rfl) (fun _ _ _ h => h) (Or.inl ⟨by rfl, ?_⟩) (by assumption) ?_
           rotate_left
           (intro w hSw
            (try dsimp only at hSw)
            (go_simp <;> with_reducible rfl)))
      try simp only [Act.put, List.getElem_toArray, List.getElem_cons_zero, List.getElem_cons_succ, List.setIfInBounds_toArray, List.set_cons_zero, List.set_cons_succ]
      first
        | (refine wpAnyH_take (i := 3) (v := undef) rfl (by kernel_rfl) (by kernel_rfl) (by kernel_rfl) (fun _ _ _ h => h) (Or.inr ⟨by rfl, rfl⟩) (by assumption) ?_)
        | (refine wpAnyH_take (i := 3) (v := ?_) rfl (by kernel_rfl) (by kernel_rfl) (by kernel_rfl) (fun _ _ _ h => h) (Or.inl ⟨by rfl, ?_⟩) (by assumption) ?_
           rotate_left
           (intro w hSw
            (try dsimp only at hSw)
            (go_simp <;> with_reducible rfl)))
      try simp only [Act.put, List.getElem_toArray, List.getElem_cons_zero, List.getElem_cons_succ, List.setIfInBounds_toArray, List.set_cons_zero, List.set_cons_succ]
      first
        | (refine wpAnyH_take (i := 4) (v := undef) rfl (by kernel_rfl) (by kernel_rfl) (by kernel_rfl) (fun _ _ _ h => h) (Or.inr ⟨by rfl, rfl⟩) (by assumption) ?_)
        | (refine wpAnyH_take (i := 4) (v := ?_) rfl (by kernel_rfl) (by kernel_rfl) (by kernel_rfl) (fun _ _ _ h => h) (Or.inl ⟨by rfl, ?_⟩) (by assumption) ?_
           rotate_left
           (intro w hSw
            (try dsimp only at hSw)
            (go_simp <;> with_reducible rfl)))
      try simp only [Act.put, List.getElem_toArray, List.getElem_cons_zero, List.getElem_cons_succ, List.setIfInBounds_toArray, List.set_cons_zero, List.set_cons_succ]
      first
        | (refine wpAnyH_take (i := 5) (v := undef) rfl (by kernel_rfl) (by kernel_rfl) (by kernel_rfl) (fun _ _ _ h => h) (Or.inr ⟨by rfl, rfl⟩) (by assumption) ?_)
        | (refine wpAnyH_take (i := 5) (v := ?_) rfl (by kernel_rfl) (by kernel_rfl) (by kernel_rfl) (fun _ _ _ h => h) (Or.inl ⟨by rfl, ?_⟩) (by assumption) ?_
           rotate_left
           (intro w hSw
            (try dsimp only at hSw)
            (go_simp <;> with_reducible rfl)))
      try simp only [Act.put, List.getElem_toArray, List.getElem_cons_zero, List.getElem_cons_succ, List.setIfInBounds_toArray, List.set_cons_zero, List.set_cons_succ]
      first
        | (refine wpAnyH_take (i := 6) (v := undef) rfl (by kernel_rfl) (by kernel_rfl) (by kernel_rfl) (fun _ _ _ h => h) (Or.inr ⟨by rfl, rfl⟩) (by assumption) ?_)
        | (refine wpAnyH_take (i := 6) (v := ?_) rfl (by kernel_rfl) (by kernel_rfl) (by kernel_rfl) (fun _ _ _ h => h) (Or.inl ⟨by rfl, ?_⟩) (by assumption) ?_
           rotate_left
           (intro w hSw
            (try dsimp only at hSw)
            (go_simp <;> with_reducible rfl)))
      try simp only [Act.put, List.getElem_toArray, List.getElem_cons_zero, List.getElem_cons_succ, List.setIfInBounds_toArray, List.set_cons_zero, List.set_cons_succ]
      first
        | (refine wpAnyH_take (i := 7) (v := undef) rfl (by kernel_rfl) (by kernel_rfl) (by kernel_rfl) (fun _ _ _ h => h) (Or.inr ⟨by rfl, rfl⟩) (by assumption) ?_)
        | (refine wpAnyH_take (i := 7) (v := ?_) rfl (by kernel_rfl) (by kernel_rfl) (by kernel_rfl) (fun _ _ _ h => h) (Or.inl ⟨by rfl, ?_⟩) (by assumption) ?_
           rotate_left
           (intro w hSw
            (try dsimp only at hSw)
            (go_simp <;> with_reducible rfl)))
      try simp only [Act.put, List.getElem_toArray, List.getElem_cons_zero, List.getElem_cons_succ, List.setIfInBounds_toArray, List.set_cons_zero, List.set_cons_succ]
      refine wpAnyH_ready (rs := [8]) (by kernel_rfl) (by simp) ?_
      refine AllReadyH.cons (i := 8) (o := _) rfl (fun K hK => ?_) ?_
      rotate_left
      · exact AllReadyH.nil
      go_simp
      refine KI.out.mono ?_
      rintro e w6 ⟨rfl, g6'⟩
      have g6 := (Chg.refl (fun _ => False) wr).drew.trans g6'
      have GC := hide (hC.out.trans g6)
      have d06 := g6.cell (fun h => h) d0
      have d16 := g6.cell (fun h => h) d1
      have f06 := g6.cell (fun h => h) f0
      have f16 := g6.cell (fun h => h) f1
      clear g6 g6' hC
      go_simp
      refine hK.out _ _ ⟨d06, d16, f06, f16⟩ (fun hHeld => ?_)
      clear hK K
      try simp only [Act.put, List.getElem_toArray, List.getElem_cons_zero, List.getElem_cons_succ, List.setIfInBounds_toArray, List.set_cons_zero, List.set_cons_succ]
      first
        | (refine wpAnyH_take (i := 9) (v := undef) rfl (by kernel_rfl) (by kernel_rfl) (by kernel_rfl) (fun _ _ _ h => h) (Or.inr ⟨by rfl, rfl⟩) (by assumption) ?_)
        | (refine wpAnyH_take (i := 9) (v := ?_) rfl (by kernel_rfl) (by kernel_rfl) (by kernel_rfl) (fun _ _ _ h => h) (Or.inl ⟨by rfl, ?_⟩) (by assumption) ?_
           rotate_left
           (intro w hSw
            (try dsimp only at hSw)
            (go_simp <;> with_reducible rfl)))
      try simp only [Act.put, List.getElem_toArray, List.getElem_cons_zero, List.getElem_cons_succ, List.setIfInBounds_toArray, List.set_cons_zero, List.set_cons_succ]
      refine wpAnyH_done (by kernel_rfl) ?_ _
      go_wp2_with fail
      go_roundw
      case rel => exact ⟨i + 1, by omega, by go_num, GC⟩
      case measure => simp [intOf]; omega
    · have i2 : ¬ (i : Int) < (f.len : Int) := by omega
      go_wp2_with fail
      go_ret
      exact ⟨rfl, hC.out⟩

set_option maxRecDepth 100000 in
set_option maxHeartbeats 8000000 in
theorem types10_same (f : Fs) (hf : f.size ≤ 1000000) (v v' : Value) (X : Nat → Prop) (w : World) (hB : ∀ x, X x → x < w.heap.size) (hv : Ts w X v f) (hv' : Ts w X v' f) :
    Calls Tryd.prog 16 #[v, v'] w fun e w' => e = .returned (.bool true) ∧ Chg (fun _ => False) w w' := by
  have OT := hide (oftypes_any f hf v X w hB hv)
  obtain ⟨av, avc, rfl, _⟩ := id hv
  obtain ⟨a', cap', rfl, hx'⟩ := id hv'
  have HV1 := hide hv'
  have HB1 := hide hB
  have htl := Fs.toL_len f
  have hls := Fs.len_size f
  have hln : f.len ≤ 1000000 := by omega
  clear hx' hv hv' hB
  go_enter Tryd.func16, Tryd.ntmps16
  go_wp2_with fail
  refine OT.out.mono ?_
  rintro e w0 ⟨⟨v', rfl, t0⟩, g0⟩
  obtain ⟨a, cap, rfl, _⟩ := id t0
  have HV : Hid (Ts w0 (fun x => x < w0.heap.size) (.slice a f.len cap) f) := hide (t0.up (fun x hx => hx.2))
  have HV' : Hid (Ts w0 (fun x => x < w0.heap.size) (.slice a' f.len cap') f) := hide ((HV1.out.chg g0 (fun _ _ h => h)).up (fun x hx => Nat.lt_of_lt_of_le (HB1.out x hx) g0.size))
  have HB : Hid (∀ x, x < w0.heap.size → x < w0.heap.size) := hide (fun x h => h)
  have G0 := hide g0
  clear t0 g0 OT HV1 HB1
  go_wp2_with fail
  go_loopw [6] (fun iv wr => ∃ (i : Nat), i ≤ f.len ∧ iv = .int .i64 i ∧ Hid (Chg (fun _ => False) w0 wr)) (fun iv _ => f.len - (intOf iv).toNat)
  case atStart => exact ⟨0, Nat.zero_le _, rfl, hide (Chg.refl _ _)⟩
  case round =>
    obtain ⟨i, hi, rfl, hC⟩ := hrel
    by_cases hlt : i < f.len
    · have i2 : (i : Int) < (f.len : Int) := by omega
      have hit : i < f.toL.length := by omega
      obtain ⟨la, lc, hlv, hl⟩ := HV.out
      obtain ⟨la', lc', hlv', hl'⟩ := HV'.out
      rcases hl with h0 | ⟨g, off, rfl, hg, hl⟩
      · subst h0; exact absurd hlt (Nat.not_lt_zero _)
      rcases hl' with h0 | ⟨g', off', rfl, hg', hl'⟩
      · subst h0; exact absurd hlt (Nat.not_lt_zero _)
      injection hlv with e1 e2 e3
      subst e1
      subst e3
      injection hlv' with e1 e2 e3
      subst e1
      subst e3
      obtain ⟨⟨vi, c0, ti⟩, c1⟩ := lies_get hl i hit
      obtain ⟨ka, kc, rfl, _⟩ := id ti
      obtain ⟨⟨vi', c0', ti'⟩, c1'⟩ := lies_get hl' i hit
      obtain ⟨ka', kc', rfl, _⟩ := id ti'
      have hks := Fs.kid_size f i hit
      have d0 := hC.out.cell (fun h => h) c0
      have d1 := hC.out.cell (fun h => h) c1
      have f0 := hC.out.cell (fun h => h) c0'
      have f1 := hC.out.cell (fun h => h) c1'
      have GD := hC.out.trans (Chg.refl (fun _ => False) wr).drew
      have KI := hide (same_any (f.toL[i]).1 (by omega) (.slice ka (f.toL[i]).1.len kc) (.slice ka' (f.toL[i]).1.len kc') (f.toL[i]).2 (fun x => x < w0.heap.size) wr.drew (fun x hx => Nat.lt_of_lt_of_le (HB.out x hx) GD.size) (ti.chg GD (fun _ _ h => h)) (ti'.chg GD (fun _ _ h => h)))
      have i1 : (0 : Int) ≤ (i : Int) := by omega
      clear hl c0 c1 ti hks hl' c0' c1' ti' GD
      obtain ⟨kk, hkk⟩ : ∃ kk, kk = (f.toL[i]).1 := ⟨_, rfl⟩
      rw [← hkk] at d0 f0 KI
      generalize (f.toL[i]).2 = kb at *
      clear hkk
      go_wp2_with fail
      refine wp_region_held_drew (S := (fun w' => w'.cell? ⟨g, off + i * 2, none⟩ = some (.slice ka kk.len kc) ∧ w'.cell? ⟨g, off + i * 2 + 1, none⟩ = some (.int .i64 kb) ∧ w'.cell? ⟨g', off' + i * 2, none⟩ = some (.slice ka' kk.len kc') ∧ w'.cell? ⟨g', off' + i * 2 + 1, none⟩ = some (.int .i64 kb))) (by kernel_rfl) (by go_keep) (fun hHeld => ?_)
      first
        | (refine wpAnyH_take (i := 0) (v := undef) rfl (by kernel_rfl) (by kernel_rfl) (by kernel_rfl) (fun _ _ _ h => h) (Or.inr ⟨by rfl, rfl⟩) (by assumption) ?_)
        | (refine wpAnyH_take (i := 0) (v := ?_) rfl (by kernel_rfl) (by kernel_rfl) (by kernel_rfl) (fun _ _ _ h => h) (Or.inl ⟨by rfl, ?_⟩) (by assumption) ?_
           rotate_left
           (intro w hSw
            (try dsimp only at hSw)
            (go_simp <;> with_reducible rfl)))
      try simp only [Act.put, List.getElem_toArray, List.getElem_cons_zero, List.getElem_cons_succ, List.setIfInBounds_toArray, List.set_cons_zero, List.set_cons_succ]
      first
        | (refine wpAnyH_take (i := 1) (v := undef) rfl (by kernel_rfl) (by kernel_rfl) (by kernel_rfl) (fun _ _ _ h => h) (Or.inr ⟨by rfl, rfl⟩) (by assumption) ?_)
        | (refine wpAnyH_take (i := 1) (v := ?_) rfl (by kernel_rfl) (by kernel_rfl) (by kernel_rfl) (fun _ _ _ h => h) (Or.inl ⟨by rfl, ?_⟩) (by assumption) ?_
           rotate_left
           (intro w hSw
            (try dsimp only at hSw)
            (go_simp <;> with_reducible rfl)))
      try simp only [Act.put, List.getElem_toArray, List.getElem_cons_zero, List.getElem_cons_succ, List.setIfInBounds_toArray, List.set_cons_zero, List.set_cons_succ]
      first
        | (refine wpAnyH_take (i := 2) (v := undef) rfl (by kernel_rfl) (by kernel_rfl) (by kernel_rfl) (fun _ _ _ h => h) (Or.inr ⟨by rfl, rfl⟩) (by assumption) ?_)
        | (refine wpAnyH_take (i := 2) (v := ?_) rfl (by kernel_rfl) (by kernel_rfl) (by kernel_rfl) (fun _ _ _ h => h) (Or.inl ⟨by rfl, ?_⟩) (by assumption) ?_
           rotate_left
           (intro w hSw
            (try dsimp only at hSw)
            (go_simp <;> with_reducible rfl)))
      try simp only [Act.put, List.getElem_toArray, List.getElem_cons_zero, List.getElem_cons_succ, List.setIfInBounds_toArray, List.set_cons_zero, List.set_cons_succ]
      first
        | (refine wpAnyH_take (i := 3) (v := undef) rfl (by kernel_rfl) (by kernel_rfl) (by kernel_rfl) (fun _ _ _ h => h) (Or.inr ⟨by rfl, rfl⟩) (by assumption) ?_)
        | (refine wpAnyH_take (i := 3) (v := ?_) rfl (by kernel_rfl) (by kernel_rfl) (by kernel_rfl) (fun _ _ _ h => h) (Or.inl ⟨by rfl, ?_⟩) (by assumption) ?_
           rotate_left
           (intro w hSw
            (try dsimp only at hSw)
            (go_simp <;> with_reducible rfl)))
      try simp only [Act.put, List.getElem_toArray, List.getElem_cons_zero, List.getElem_cons_succ, List.setIfInBounds_toArray, List.set_cons_zero, List.set_cons_succ]
      first
        | (refine wpAnyH_take (i := 4) (v := undef) rfl (by kernel_rfl) (by kernel_rfl) (by kernel_rfl) (fun _ _ _ h => h) (Or.inr ⟨by rfl, rfl⟩) (by assumption) ?_)
        | (refine wpAnyH_take (i := 4) (v := ?_) rfl (by kernel_rfl) (by kernel_rfl) (by kernel_rfl) (fun _ _ _ h => h) (Or.inl ⟨by rfl, ?_⟩) (by assumption) ?_
           rotate_left
           (intro w hSw
            (try dsimp only at hSw)
            (go_simp <;> with_reducible rfl)))
      try simp only [Act.put, List.getElem_toArray, List.getElem_cons_zero, List.getElem_cons_succ, List.setIfInBounds_toArray, List.set_cons_zero, List.set_cons_succ]
      first
        | (refine wpAnyH_take (i := 5) (v := undef) rfl (by kernel_rfl) (by kernel_rfl) (by kernel_rfl) (fun _ _ _ h => h) (Or.inr ⟨by rfl, rfl⟩) (by assumption) ?_)
        | (refine wpAnyH_take (i := 5) (v := ?_) rfl (by kernel_rfl) (by kernel_rfl) (by kernel_rfl) (fun _ _ _ h => h) (Or.inl ⟨by rfl, ?_⟩) (by assumption) ?_
           rotate_left
           (intro w hSw
            (try dsimp only at hSw)
            (go_simp <;> with_reducible rfl)))
      try simp only [Act.put, List.getElem_toArray, List.getElem_cons_zero, List.getElem_cons_succ, List.setIfInBounds_toArray, List.set_cons_zero, List.set_cons_succ]
      first
        | (refine wpAnyH_take (i := 6) (v := undef) rfl (by kernel_rfl) (by kernel_rfl) (by kernel_rfl) (fun _ _ _ h => h) (Or.inr ⟨by rfl, rfl⟩) (by assumption) ?_)
        | (refine wpAnyH_take (i := 6) (v := ?_) rfl (by kernel_rfl) (by kernel_rfl) (by kernel_rfl) (fun _ _ _ h => h) (Or.inl ⟨by rfl, ?_⟩) (by assumption) ?_
           rotate_left
           (intro w hSw
            (try dsimp only at hSw)
            (go_simp <;> with_reducible rfl)))
      try simp only [Act.put, List.getElem_toArray, List.getElem_cons_zero, List.getElem_cons_succ, List.setIfInBounds_toArray, List.set_cons_zero, List.set_cons_succ]
      first
        | (refine wpAnyH_take (i := 7) (v := undef) rfl (by kernel_rfl) (by kernel_rfl) (by kernel_rfl) (fun _ _ _ h => h) (Or.inr ⟨by rfl, rfl⟩) (by assumption) ?_)
        | (refine wpAnyH_take (i := 7) (v := ?_) rfl (by kernel_rfl) (by kernel_rfl) (by kernel_rfl) (fun _ _ _ h => h) (Or.inl ⟨by rfl, ?_⟩) (by assumption) ?_
           rotate_left
           (intro w hSw
            (try dsimp only at hSw)
            (go_simp <;> with_reducible rfl)))
      try simp only [Act.put, List.getElem_toArray, List.getElem_cons_zero, List.getElem_cons_succ, List.setIfInBounds_toArray, List.set_cons_zero, List.set_cons_succ]
      refine wpAnyH_ready (rs := [8]) (by kernel_rfl) (by simp) ?_
      refine AllReadyH.cons (i := 8) (o := _) rfl (fun K hK => ?_) ?_
      rotate_left
      · exact AllReadyH.nil
      go_simp
      refine KI.out.mono ?_
      rintro e w6 ⟨rfl, g6'⟩
      have g6 := (Chg.refl (fun _ => False) wr).drew.trans g6'
      have GC := hide (hC.out.trans g6)
      have d06 := g6.cell (fun h => h) d0
      have d16 := g6.cell (fun h => h) d1
      have f06 := g6.cell (fun h => h) f0
      have f16 := g6.cell (fun h => h) f1
      clear g6 g6' hC
      go_simp
      refine hK.out _ _ ⟨d06, d16, f06, f16⟩ (fun hHeld => ?_)
      clear hK K
      try simp only [Act.put, List.getElem_toArray, List.getElem_cons_zero, List.getElem_cons_succ, List.setIfInBounds_toArray, List.set_cons_zero, List.set_cons_succ]
      first
        | (refine wpAnyH_take (i := 9) (v := undef) rfl (by kernel_rfl) (by kernel_rfl) (by kernel_rfl) (fun _ _ _ h => h) (Or.inr ⟨by rfl, rfl⟩) (by assumption) ?_)
        | (refine wpAnyH_take (i := 9) (v := ?_) rfl (by kernel_rfl) (by kernel_rfl) (by kernel_rfl) (fun _ _ _ h => h) (Or.inl ⟨by rfl, ?_⟩) (by assumption) ?_
           rotate_left
           (intro w hSw
            (try dsimp only at hSw)
            (go_simp <;> with_reducible rfl)))
      try simp only [Act.put, List.getElem_toArray, List.getElem_cons_zero, List.getElem_cons_succ, List.setIfInBounds_toArray, List.set_cons_zero, List.set_cons_succ]
      refine wpAnyH_done (by kernel_rfl) ?_ _
      go_wp2_with fail
      go_roundw
      case rel => exact ⟨i + 1, by omega, by go_num, GC⟩
      case measure => simp [intOf]; omega
    · have i2 : ¬ (i : Int) < (f.len : Int) := by omega
      go_wp2_with fail
      go_ret
      exact ⟨rfl, G0.out.trans hC.out⟩

def SameC (f : Tms) : Prop := ∀ (b : Fs) (k i : Int) (vb v vb' v' : Value) (X : Nat → Prop) (w : World), b.size ≤ 40000 → f.len ≤ 1000000 → TOk f → (∀ x, X x → x < w.heap.size) → Ts w X vb b → Tr w X v f → Ts w X vb' b → Tr w X v' f →
  Calls Tryd.prog 14 #[.agg #[vb, .int .i64 k, .int .i64 i, v], .agg #[vb', .int .i64 k, .int .i64 i, v']] w fun e w' => e = .returned (.bool true) ∧ Chg (fun _ => False) w w'

set_option maxRecDepth 100000 in
set_option maxHeartbeats 16000000 in
theorem same06_step (n : Nat) (ih : ∀ (f : Tms), f.size < n → SameC f) (f : Tms) (hf : f.size ≤ n) : SameC f := by
  intro b k j vb v vb' v' X w hbs hfl hok hB hvb hv hvb' hv'
  have IH := hide ih
  have OK := hide hok
  have HBS := hide hbs
  have HFL := hide hfl
  obtain ⟨ba, bc, rfl, _⟩ := id hvb
  obtain ⟨a, cap, rfl, _⟩ := id hv
  obtain ⟨ba', bc', rfl, _⟩ := id hvb'
  obtain ⟨a', cap', rfl, _⟩ := id hv'
  have HV := hide hv
  have HV' := hide hv'
  have HB := hide hB
  have htl := Tms.toL_len f
  have HF := hide hf
  have G1 := al w (.cells #[.slice ba b.len bc, .int .i64 k, .int .i64 j, .slice a f.len cap] 27)
  have G2 := al (w.alloc (.cells #[.slice ba b.len bc, .int .i64 k, .int .i64 j, .slice a f.len cap] 27)) (.cells #[.slice ba' b.len bc', .int .i64 k, .int .i64 j, .slice a' f.len cap'] 27)
  have B1 := G2.blk (fun h => h) (blk_new w (.cells #[.slice ba b.len bc, .int .i64 k, .int .i64 j, .slice a f.len cap] 27))
  have B2 := blk_new (w.alloc (.cells #[.slice ba b.len bc, .int .i64 k, .int .i64 j, .slice a f.len cap] 27)) (.cells #[.slice ba' b.len bc', .int .i64 k, .int .i64 j, .slice a' f.len cap'] 27)
  rw [al_sz] at B2
  have TS := hide (types_same b (by omega) (.slice ba b.len bc) (.slice ba' b.len bc') X _ (fun x hx => Nat.lt_of_lt_of_le (hB x hx) (G1.trans G2).size) (hvb.chg (G1.trans G2) (fun _ _ h => h)) (hvb'.chg (G1.trans G2) (fun _ _ h => h)))
  have y0 := blk_cell B1 0
  have y1 := blk_cell B1 1
  have y2 := blk_cell B1 2
  have y3 := blk_cell B1 3
  have z0 := blk_cell B2 0
  have z1 := blk_cell B2 1
  have z2 := blk_cell B2 2
  have z3 := blk_cell B2 3
  simp only [List.getElem?_toArray, List.getElem?_cons_zero, List.getElem?_cons_succ] at y0 y1 y2 y3 z0 z1 z2 z3
  have GG := hide (G1.trans G2)
  have H1 := hide B1
  have H2 := hide B2
  clear hvb hv hvb' hv' ih hB hf B1 B2 G1 G2 hok hbs hfl
  go_enter Tryd.func14, Tryd.ntmps14
  go_wp2_with fail
  refine TS.out.mono ?_
  rintro e w1 ⟨rfl, g1⟩
  have GG := hide (GG.out.trans g1)
  have H1 := hide (g1.blk (fun h => h) H1.out)
  have H2 := hide (g1.blk (fun h => h) H2.out)
  clear g1 TS
  obtain ⟨P, hP⟩ : ∃ P, w.heap.size = P := ⟨_, rfl⟩
  have HP := hide hP
  rw [hP] at H1 H2 y0 y1 y2 y3 z0 z1 z2 z3 ⊢
  obtain ⟨Q, hQ⟩ : ∃ Q, P + 1 = Q := ⟨_, rfl⟩
  rw [hQ] at H2 z0 z1 z2 z3 ⊢
  clear hP hQ y0 y1 y2 y3 z0 z1 z2 z3
  go_wp2_with fail
  go_loopw [5] (fun iv wr => ∃ (i : Nat), i ≤ f.len ∧ iv = .int .i64 i ∧ Hid (wr.heap[P]? = some (.cells #[.slice ba b.len bc, .int .i64 k, .int .i64 j, .slice a f.len cap] 27)) ∧ Hid (wr.heap[Q]? = some (.cells #[.slice ba' b.len bc', .int .i64 k, .int .i64 j, .slice a' f.len cap'] 27)) ∧ Hid (Chg (fun _ => False) w wr)) (fun iv _ => f.len - (intOf iv).toNat)
  case atStart => exact ⟨0, Nat.zero_le _, rfl, H1, H2, GG⟩
  case round =>
    clear H1 H2
    obtain ⟨i, hi, rfl, hT, hU, hC⟩ := hrel
    have xP : wr.cell? ⟨P, 3, none⟩ = some (.slice a f.len cap) := blk_cell hT.out 3
    have xQ : wr.cell? ⟨Q, 3, none⟩ = some (.slice a' f.len cap') := blk_cell hU.out 3
    by_cases hlt : i < f.len
    · have i2 : (i : Int) < (f.len : Int) := by omega
      have i3 : f.len ≤ 1000000 := HFL.out
      have hit : i < f.toL.length := by omega
      obtain ⟨la, lc, hlv, hl⟩ := HV.out
      obtain ⟨la', lc', hlv', hl'⟩ := HV'.out
      rcases hl with h0 | ⟨g, off, rfl, hg, hl⟩
      · subst h0; exact absurd hlt (Nat.not_lt_zero _)
      rcases hl' with h0 | ⟨g', off', rfl, hg', hl'⟩
      · subst h0; exact absurd hlt (Nat.not_lt_zero _)
      injection hlv with e1 e2 e3
      subst e1
      subst e3
      injection hlv' with e1 e2 e3
      subst e1
      subst e3
      obtain ⟨⟨vkb, c0, tb⟩, c1, c2, vi, c3, ti⟩ := tlies_get hl i hit
      obtain ⟨kba, kbc, rfl, _⟩ := id tb
      obtain ⟨ka, kc, rfl, _⟩ := id ti
      obtain ⟨⟨vkb', c0', tb'⟩, c1', c2', vi', c3', ti'⟩ := tlies_get hl' i hit
      obtain ⟨kba', kbc', rfl, _⟩ := id tb'
      obtain ⟨ka', kc', rfl, _⟩ := id ti'
      have hks := Tms.kid_size f i hit
      have hok := tok_get OK.out i hit
      have GD := hC.out.trans (Chg.refl (fun _ => False) wr).drew
      have KI := hide (IH.out (f.toL[i]).ag (by have := HF.out; omega) (f.toL[i]).bs (f.toL[i]).kd (f.toL[i]).ix _ _ _ _ X wr.drew hok.1 hok.2.2.1 hok.2.2.2 (fun x hx => Nat.lt_of_lt_of_le (HB.out x hx) GD.size) (tb.chg GD (fun _ _ h => h)) (ti.chg GD (fun _ _ h => h)) (tb'.chg GD (fun _ _ h => h)) (ti'.chg GD (fun _ _ h => h)))
      have d0 := hC.out.cell (fun h => h) c0
      have d1 := hC.out.cell (fun h => h) c1
      have d2 := hC.out.cell (fun h => h) c2
      have d3 := hC.out.cell (fun h => h) c3
      have f0 := hC.out.cell (fun h => h) c0'
      have f1 := hC.out.cell (fun h => h) c1'
      have f2 := hC.out.cell (fun h => h) c2'
      have f3 := hC.out.cell (fun h => h) c3'
      have i1 : (0 : Int) ≤ (i : Int) := by omega
      clear hl hl' c0 c1 c2 c3 c0' c1' c2' c3' tb ti tb' ti' hks hok GD
      dsimp only [Tm.bs, Tm.kd, Tm.ix, Tm.ag] at d0 d1 d2 d3 f0 f1 f2 f3 KI
      generalize (f.toL[i]).1 = k0 at *
      generalize (f.toL[i]).2.1 = k1 at *
      generalize (f.toL[i]).2.2.1 = k2 at *
      generalize (f.toL[i]).2.2.2 = k3 at *
      have HT := hide (fun w' (gg : Chg (fun _ => False) w w') => gg)
      have GT : Hid (∀ w', Chg (fun _ => False) wr w' → w'.heap[P]? = some (.cells #[.slice ba b.len bc, .int .i64 k, .int .i64 j, .slice (some ⟨g, off, none⟩) f.len cap] 27)) := hide (fun w' gg => gg.blk (fun h => h) hT.out)
      have GU : Hid (∀ w', Chg (fun _ => False) wr w' → w'.heap[Q]? = some (.cells #[.slice ba' b.len bc', .int .i64 k, .int .i64 j, .slice (some ⟨g', off', none⟩) f.len cap'] 27)) := hide (fun w' gg => gg.blk (fun h => h) hU.out)
      go_wp2_with fail
      refine wp_region_held_drew (S := (fun w' => w'.cell? ⟨P, 3, none⟩ = some (.slice (some ⟨g, off, none⟩) f.len cap) ∧ w'.cell? ⟨Q, 3, none⟩ = some (.slice (some ⟨g', off', none⟩) f.len cap') ∧ w'.cell? ⟨g, off + i * 4, none⟩ = some (.slice kba k0.len kbc) ∧ w'.cell? ⟨g, off + i * 4 + 1, none⟩ = some (.int .i64 k1) ∧ w'.cell? ⟨g, off + i * 4 + 2, none⟩ = some (.int .i64 k2) ∧ w'.cell? ⟨g, off + i * 4 + 3, none⟩ = some (.slice ka k3.len kc) ∧ w'.cell? ⟨g', off' + i * 4, none⟩ = some (.slice kba' k0.len kbc') ∧ w'.cell? ⟨g', off' + i * 4 + 1, none⟩ = some (.int .i64 k1) ∧ w'.cell? ⟨g', off' + i * 4 + 2, none⟩ = some (.int .i64 k2) ∧ w'.cell? ⟨g', off' + i * 4 + 3, none⟩ = some (.slice ka' k3.len kc'))) (by kernel_rfl) (by go_keep) (fun hHeld => ?_)
      first
        | (refine wpAnyH_take (i := 0) (v := undef) rfl (by kernel_rfl) (by kernel_rfl) (by kernel_rfl) (fun _ _ _ h => h) (Or.inr ⟨by rfl, rfl⟩) (by assumption) ?_)
        | (refine wpAnyH_take (i := 0) (v := ?_) rfl (by kernel_rfl) (by kernel_rfl) (by kernel_rfl) (fun _ _ _ h => h) (Or.inl ⟨by rfl, ?_⟩) (by assumption) ?_
           rotate_left
           (intro w hSw
            (try dsimp only at hSw)
            (go_simp <;> with_reducible rfl)))
      try simp only [Act.put, List.getElem_toArray, List.getElem_cons_zero, List.getElem_cons_succ, List.setIfInBounds_toArray, List.set_cons_zero, List.set_cons_succ]
      first
        | (refine wpAnyH_take (i := 1) (v := undef) rfl (by kernel_rfl) (by kernel_rfl) (by kernel_rfl) (fun _ _ _ h => h) (Or.inr ⟨by rfl, rfl⟩) (by assumption) ?_)
        | (refine wpAnyH_take (i := 1) (v := ?_) rfl (by kernel_rfl) (by kernel_rfl) (by kernel_rfl) (fun _ _ _ h => h) (Or.inl ⟨by rfl, ?_⟩) (by assumption) ?_
           rotate_left
           (intro w hSw
            (try dsimp only at hSw)
            (go_simp <;> with_reducible rfl)))
      try simp only [Act.put, List.getElem_toArray, List.getElem_cons_zero, List.getElem_cons_succ, List.setIfInBounds_toArray, List.set_cons_zero, List.set_cons_succ]
      first
        | (refine wpAnyH_take (i := 2) (v := undef) rfl (by kernel_rfl) (by kernel_rfl) (by kernel_rfl) (fun _ _ _ h => h) (Or.inr ⟨by rfl, rfl⟩) (by assumption) ?_)
        | (refine wpAnyH_take (i := 2) (v := ?_) rfl (by kernel_rfl) (by kernel_rfl) (by kernel_rfl) (fun _ _ _ h => h) (Or.inl ⟨by rfl, ?_⟩) (by assumption) ?_
           rotate_left
           (intro w hSw
            (try dsimp only at hSw)
            (go_simp <;> with_reducible rfl)))
      try simp only [Act.put, List.getElem_toArray, List.getElem_cons_zero, List.getElem_cons_succ, List.setIfInBounds_toArray, List.set_cons_zero, List.set_cons_succ]
      first
        | (refine wpAnyH_take (i := 3) (v := undef) rfl (by kernel_rfl) (by kernel_rfl) (by kernel_rfl) (fun _ _ _ h => h) (Or.inr ⟨by rfl, rfl⟩) (by assumption) ?_)
        | (refine wpAnyH_take (i := 3) (v := ?_) rfl (by kernel_rfl) (by kernel_rfl) (by kernel_rfl) (fun _ _ _ h => h) (Or.inl ⟨by rfl, ?_⟩) (by assumption) ?_
           rotate_left
           (intro w hSw
            (try dsimp only at hSw)
            (go_simp <;> with_reducible rfl)))
      try simp only [Act.put, List.getElem_toArray, List.getElem_cons_zero, List.getElem_cons_succ, List.setIfInBounds_toArray, List.set_cons_zero, List.set_cons_succ]
      first
        | (refine wpAnyH_take (i := 4) (v := undef) rfl (by kernel_rfl) (by kernel_rfl) (by kernel_rfl) (fun _ _ _ h => h) (Or.inr ⟨by rfl, rfl⟩) (by assumption) ?_)
        | (refine wpAnyH_take (i := 4) (v := ?_) rfl (by kernel_rfl) (by kernel_rfl) (by kernel_rfl) (fun _ _ _ h => h) (Or.inl ⟨by rfl, ?_⟩) (by assumption) ?_
           rotate_left
           (intro w hSw
            (try dsimp only at hSw)
            (go_simp <;> with_reducible rfl)))
      try simp only [Act.put, List.getElem_toArray, List.getElem_cons_zero, List.getElem_cons_succ, List.setIfInBounds_toArray, List.set_cons_zero, List.set_cons_succ]
      first
        | (refine wpAnyH_take (i := 5) (v := undef) rfl (by kernel_rfl) (by kernel_rfl) (by kernel_rfl) (fun _ _ _ h => h) (Or.inr ⟨by rfl, rfl⟩) (by assumption) ?_)
        | (refine wpAnyH_take (i := 5) (v := ?_) rfl (by kernel_rfl) (by kernel_rfl) (by kernel_rfl) (fun _ _ _ h => h) (Or.inl ⟨by rfl, ?_⟩) (by assumption) ?_
           rotate_left
           (intro w hSw
            (try dsimp only at hSw)
            (go_simp <;> with_reducible rfl)))
      try simp only [Act.put, List.getElem_toArray, List.getElem_cons_zero, List.getElem_cons_succ, List.setIfInBounds_toArray, List.set_cons_zero, List.set_cons_succ]
      first
        | (refine wpAnyH_take (i := 6) (v := undef) rfl (by kernel_rfl) (by kernel_rfl) (by kernel_rfl) (fun _ _ _ h => h) (Or.inr ⟨by rfl, rfl⟩) (by assumption) ?_)
        | (refine wpAnyH_take (i := 6) (v := ?_) rfl (by kernel_rfl) (by kernel_rfl) (by kernel_rfl) (fun _ _ _ h => h) (Or.inl ⟨by rfl, ?_⟩) (by assumption) ?_
           rotate_left
           (intro w hSw
            (try dsimp only at hSw)
            (go_simp <;> with_reducible rfl)))
      try simp only [Act.put, List.getElem_toArray, List.getElem_cons_zero, List.getElem_cons_succ, List.setIfInBounds_toArray, List.set_cons_zero, List.set_cons_succ]
      first
        | (refine wpAnyH_take (i := 7) (v := undef) rfl (by kernel_rfl) (by kernel_rfl) (by kernel_rfl) (fun _ _ _ h => h) (Or.inr ⟨by rfl, rfl⟩) (by assumption) ?_)
        | (refine wpAnyH_take (i := 7) (v := ?_) rfl (by kernel_rfl) (by kernel_rfl) (by kernel_rfl) (fun _ _ _ h => h) (Or.inl ⟨by rfl, ?_⟩) (by assumption) ?_
           rotate_left
           (intro w hSw
            (try dsimp only at hSw)
            (go_simp <;> with_reducible rfl)))
      try simp only [Act.put, List.getElem_toArray, List.getElem_cons_zero, List.getElem_cons_succ, List.setIfInBounds_toArray, List.set_cons_zero, List.set_cons_succ]
      first
        | (refine wpAnyH_take (i := 8) (v := undef) rfl (by kernel_rfl) (by kernel_rfl) (by kernel_rfl) (fun _ _ _ h => h) (Or.inr ⟨by rfl, rfl⟩) (by assumption) ?_)
        | (refine wpAnyH_take (i := 8) (v := ?_) rfl (by kernel_rfl) (by kernel_rfl) (by kernel_rfl) (fun _ _ _ h => h) (Or.inl ⟨by rfl, ?_⟩) (by assumption) ?_
           rotate_left
           (intro w hSw
            (try dsimp only at hSw)
            (go_simp <;> with_reducible rfl)))
      try simp only [Act.put, List.getElem_toArray, List.getElem_cons_zero, List.getElem_cons_succ, List.setIfInBounds_toArray, List.set_cons_zero, List.set_cons_succ]
      first
        | (refine wpAnyH_take (i := 9) (v := undef) rfl (by kernel_rfl) (by kernel_rfl) (by kernel_rfl) (fun _ _ _ h => h) (Or.inr ⟨by rfl, rfl⟩) (by assumption) ?_)
        | (refine wpAnyH_take (i := 9) (v := ?_) rfl (by kernel_rfl) (by kernel_rfl) (by kernel_rfl) (fun _ _ _ h => h) (Or.inl ⟨by rfl, ?_⟩) (by assumption) ?_
           rotate_left
           (intro w hSw
            (try dsimp only at hSw)
            (go_simp <;> with_reducible rfl)))
      try simp only [Act.put, List.getElem_toArray, List.getElem_cons_zero, List.getElem_cons_succ, List.setIfInBounds_toArray, List.set_cons_zero, List.set_cons_succ]
      refine wpAnyH_ready (rs := [10]) (by kernel_rfl) (by simp) ?_
      refine AllReadyH.cons (i := 10) (o := _) rfl (fun K hK => ?_) ?_
      rotate_left
      · exact AllReadyH.nil
      go_simp
      refine KI.out.mono ?_
      rintro e w6 ⟨rfl, g6'⟩
      have g6 := (Chg.refl (fun _ => False) wr).drew.trans g6'
      have GC := hide (hC.out.trans g6)
      have xP6 := g6.cell (fun h => h) xP
      have xQ6 := g6.cell (fun h => h) xQ
      have d06 := g6.cell (fun h => h) d0
      have d16 := g6.cell (fun h => h) d1
      have d26 := g6.cell (fun h => h) d2
      have d36 := g6.cell (fun h => h) d3
      have f06 := g6.cell (fun h => h) f0
      have f16 := g6.cell (fun h => h) f1
      have f26 := g6.cell (fun h => h) f2
      have f36 := g6.cell (fun h => h) f3
      have BT6 := hide (GT.out _ g6)
      have BU6 := hide (GU.out _ g6)
      clear g6 g6' hC
      go_simp
      refine hK.out _ _ ⟨xP6, xQ6, d06, d16, d26, d36, f06, f16, f26, f36⟩ (fun hHeld => ?_)
      clear hK K
      try simp only [Act.put, List.getElem_toArray, List.getElem_cons_zero, List.getElem_cons_succ, List.setIfInBounds_toArray, List.set_cons_zero, List.set_cons_succ]
      first
        | (refine wpAnyH_take (i := 11) (v := undef) rfl (by kernel_rfl) (by kernel_rfl) (by kernel_rfl) (fun _ _ _ h => h) (Or.inr ⟨by rfl, rfl⟩) (by assumption) ?_)
        | (refine wpAnyH_take (i := 11) (v := ?_) rfl (by kernel_rfl) (by kernel_rfl) (by kernel_rfl) (fun _ _ _ h => h) (Or.inl ⟨by rfl, ?_⟩) (by assumption) ?_
           rotate_left
           (intro w hSw
            (try dsimp only at hSw)
            (go_simp <;> with_reducible rfl)))
      try simp only [Act.put, List.getElem_toArray, List.getElem_cons_zero, List.getElem_cons_succ, List.setIfInBounds_toArray, List.set_cons_zero, List.set_cons_succ]
      refine wpAnyH_done (by kernel_rfl) ?_ _
      go_wp2_with fail
      go_roundw
      case rel => exact ⟨i + 1, by omega, by go_num, BT6, BU6, GC⟩
      case measure => simp [intOf]; omega
    · have i2 : ¬ (i : Int) < (f.len : Int) := by omega
      go_wp2_with fail
      go_ret
      exact ⟨rfl, hC.out⟩
theorem same06_all (n : Nat) : ∀ f : Tms, f.size ≤ n → SameC f := by
  induction n with
  | zero => exact fun f hf => same06_step 0 (fun g hg => absurd hg (Nat.not_lt_zero _)) f hf
  | succ n ih => exact fun f hf => same06_step (n + 1) (fun g hg => ih g (by omega)) f hf
theorem same06_any (t : Tm) (ok : TmOk t) (v v' : Value) (X : Nat → Prop) (w : World) (hX : ∀ x, X x → x < w.heap.size) (hv : TV w X v t) (hv' : TV w X v' t) :
    Calls Tryd.prog 14 #[v, v'] w fun e w' => e = .returned (.bool true) ∧ Chg (fun _ => False) w w' := by
  obtain ⟨b, k, i, f⟩ := t
  obtain ⟨ba, bc, a, cap, rfl, h1, h2⟩ := hv
  obtain ⟨ba', bc', a', cap', rfl, h1', h2'⟩ := hv'
  exact same06_all f.size f (Nat.le_refl _) b k i _ _ _ _ X w ok.1 ok.2.2.1 ok.2.2.2.1 hX h1 h2 h1' h2'
end Go.Proofs.YtnpcapdlgcaniaaDoor
