/- The document's Same of two tables that are the same; an index's Table; the document's Base and ConstOf. -/
import Derived.Test.YtdoohocdaacnaaaDoorSame04
import Derived.Test.YtdoohocdaacnaaaDoorAt
import Derived.Test.YtdoohocdaacnaaaDoorLexR1
namespace Go.Proofs.YtdoohocdaacnaaaDoor
open Go.RowKit Go.Maps
set_option linter.unusedVariables false
set_option linter.unusedSimpArgs false

theorem toL_beq (a b : ByteArray) (h : a = b) : (a.toList == b.toList) = true := by rw [h]; simp
theorem toL_bne (a b : ByteArray) (h : a ≠ b) : (a.toList == b.toList) = false := by
  rw [beq_eq_false_iff_ne]
  intro e
  exact h (R.bytes_eq e)

set_option maxRecDepth 100000 in
set_option maxHeartbeats 16000000 in
theorem refSameT_any (bs : List ByteArray) (cs : List Cn) (hbl : bs.length ≤ 100) (hcl : cs.length ≤ 100) (ba ba' : Option Addr) (bc bc' : Nat) (ca ca' : Option Addr) (cc cc' : Nat) (X : Nat → Prop) (w : World) (hX : ∀ x, X x → x < w.heap.size)
    (hb : Strs w X (.slice ba bs.length bc) bs) (hc : Cns w X (.slice ca cs.length cc) cs) (hb' : Strs w X (.slice ba' bs.length bc') bs) (hc' : Cns w X (.slice ca' cs.length cc') cs) :
    Calls Tryd.prog 18 #[.agg #[.slice ba bs.length bc, .slice ca cs.length cc], .agg #[.slice ba' bs.length bc', .slice ca' cs.length cc']] w fun e w' => e = .returned (.bool true) ∧ Chg (fun _ => False) w w' := by
  have G1 := al w (.cells #[.slice ba bs.length bc, .slice ca cs.length cc] 39)
  have G2 := al (w.alloc (.cells #[.slice ba bs.length bc, .slice ca cs.length cc] 39)) (.cells #[.slice ba' bs.length bc', .slice ca' cs.length cc'] 39)
  have B1 := G2.blk (fun h => h) (blk_new w (.cells #[.slice ba bs.length bc, .slice ca cs.length cc] 39))
  have B2 := blk_new (w.alloc (.cells #[.slice ba bs.length bc, .slice ca cs.length cc] 39)) (.cells #[.slice ba' bs.length bc', .slice ca' cs.length cc'] 39)
  rw [al_sz] at B2
  have GG := hide (G1.trans G2)
  have y0 := blk_cell B1 0
  have y1 := blk_cell B1 1
  have z0 := blk_cell B2 0
  have z1 := blk_cell B2 1
  simp only [List.getElem?_toArray, List.getElem?_cons_zero, List.getElem?_cons_succ] at y0 y1 z0 z1
  have HB := hide (hb.chg GG.out (fun _ _ h => h))
  have HC := hide (hc.chg GG.out (fun _ _ h => h))
  have HB' := hide (hb'.chg GG.out (fun _ _ h => h))
  have HC' := hide (hc'.chg GG.out (fun _ _ h => h))
  have HX : Hid (∀ x, X x → x < ((w.alloc (.cells #[.slice ba bs.length bc, .slice ca cs.length cc] 39)).alloc (.cells #[.slice ba' bs.length bc', .slice ca' cs.length cc'] 39)).heap.size) := hide (fun x hx => Nat.lt_of_lt_of_le (hX x hx) GG.out.size)
  clear hb hc hb' hc' hX B1 B2 G1 G2
  go_enter Tryd.func18, Tryd.ntmps18
  go_wp2_with fail
  generalize (w.alloc (.cells #[.slice ba bs.length bc, .slice ca cs.length cc] 39)).alloc (.cells #[.slice ba' bs.length bc', .slice ca' cs.length cc'] 39) = w1 at *
  obtain ⟨P, hP⟩ : ∃ P, w.heap.size = P := ⟨_, rfl⟩
  rw [hP] at y0 y1 z0 z1 ⊢
  obtain ⟨Q, hQ⟩ : ∃ Q, P + 1 = Q := ⟨_, rfl⟩
  rw [hQ] at z0 z1 ⊢
  clear hP hQ
  have YY : Hid (w1.cell? ⟨P, 0, none⟩ = some (.slice ba bs.length bc) ∧ w1.cell? ⟨P, 1, none⟩ = some (.slice ca cs.length cc) ∧ w1.cell? ⟨Q, 0, none⟩ = some (.slice ba' bs.length bc') ∧ w1.cell? ⟨Q, 1, none⟩ = some (.slice ca' cs.length cc')) := hide ⟨y0, y1, z0, z1⟩
  clear y0 y1 z0 z1
  go_loopw [5] (fun iv wr => ∃ i : Nat, i ≤ bs.length ∧ iv = .int .i64 i ∧ Hid (Chg (fun _ => False) w1 wr)) (fun iv _ => bs.length - (intOf iv).toNat)
  case atStart => exact ⟨0, Nat.zero_le _, rfl, Chg.refl _ _⟩
  case round =>
    obtain ⟨i, hi, rfl, hC⟩ := hrel
    have y0 := hC.out.cell (fun h => h) YY.out.1
    have z0 := hC.out.cell (fun h => h) YY.out.2.2.1
    by_cases hlt : i < bs.length
    · have i1 : (0 : Int) ≤ (i : Int) := by omega
      have i2 : (i : Int) < (bs.length : Int) := by omega
      obtain ⟨g, off, rfl, _, d0⟩ := (HB.out.chg hC.out (fun _ _ h => h)).cell hlt
      obtain ⟨g', off', rfl, _, d0'⟩ := (HB'.out.chg hC.out (fun _ _ h => h)).cell hlt
      generalize bs[i] = s at *
      have eb := toL_beq s s rfl
      go_wp2_with fail
      refine wp_region_held_drew (S := (fun w' => w'.cell? ⟨P, 0, none⟩ = some (.slice (some ⟨g, off, none⟩) bs.length bc) ∧ w'.cell? ⟨Q, 0, none⟩ = some (.slice (some ⟨g', off', none⟩) bs.length bc') ∧ w'.cell? ⟨g, off + i, none⟩ = some (.string s) ∧ w'.cell? ⟨g', off' + i, none⟩ = some (.string s))) (by kernel_rfl) (by go_keep) (fun hHeld => ?_)
      first
        | (refine wpAnyH_take (i := 0) (v := undef) rfl (by kernel_rfl) (by kernel_rfl) (by kernel_rfl) (fun _ _ _ h => h) (Or.inr ⟨by rfl, rfl⟩) (by assumption) ?_)
        | (refine wpAnyH_take (i := 0) (v := ?_) rfl (by kernel_rfl) (by kernel_rfl) (by kernel_rfl) (fun _ _ _ h => h) (Or.inl ⟨by rfl, ?_⟩) (by assumption) ?_
           rotate_left
           (intro w hSw
            (try dsimp only at hSw)
            (go_simp <;> with_reducible rfl)))
      try simp only [Act.put, List.getElem_toArray, List.getElem_cons_zero, List.getElem_cons_succ, List.setIfInBounds_toArray, List.set_cons_zero, List.set_cons_succ]
      first
        | (refine wpAnyH_take (i := 1) (v := undef) rfl (by kernel_rfl) (by kernel_rfl) (by kernel_rfl) (fun _ _ _ h => h) (Or.inr ⟨by rfl, rfl⟩) (by assumption) ?_)
        | (refine wpAnyH_take (i := 1) (v := ?_) rfl (by kernel_rfl) (by kernel_rfl) (by kernel_rfl) (fun _ _ _ h => h) (Or.inl ⟨by rfl, ?_⟩) (by assumption) ?_
           rotate_left
           (intro w hSw
            (try dsimp only at hSw)
            (go_simp <;> with_reducible rfl)))
      try simp only [Act.put, List.getElem_toArray, List.getElem_cons_zero, List.getElem_cons_succ, List.setIfInBounds_toArray, List.set_cons_zero, List.set_cons_succ]
      first
        | (refine wpAnyH_take (i := 2) (v := undef) rfl (by kernel_rfl) (by kernel_rfl) (by kernel_rfl) (fun _ _ _ h => h) (Or.inr ⟨by rfl, rfl⟩) (by assumption) ?_)
        | (refine wpAnyH_take (i := 2) (v := ?_) rfl (by kernel_rfl) (by kernel_rfl) (by kernel_rfl) (fun _ _ _ h => h) (Or.inl ⟨by rfl, ?_⟩) (by assumption) ?_
           rotate_left
           (intro w hSw
            (try dsimp only at hSw)
            (go_simp <;> with_reducible rfl)))
      try simp only [Act.put, List.getElem_toArray, List.getElem_cons_zero, List.getElem_cons_succ, List.setIfInBounds_toArray, List.set_cons_zero, List.set_cons_succ]
      first
        | (refine wpAnyH_take (i := 3) (v := undef) rfl (by kernel_rfl) (by kernel_rfl) (by kernel_rfl) (fun _ _ _ h => h) (Or.inr ⟨by rfl, rfl⟩) (by assumption) ?_)
        | (refine wpAnyH_take (i := 3) (v := ?_) rfl (by kernel_rfl) (by kernel_rfl) (by kernel_rfl) (fun _ _ _ h => h) (Or.inl ⟨by rfl, ?_⟩) (by assumption) ?_
           rotate_left
           (intro w hSw
            (try dsimp only at hSw)
            (go_simp <;> with_reducible rfl)))
      try simp only [Act.put, List.getElem_toArray, List.getElem_cons_zero, List.getElem_cons_succ, List.setIfInBounds_toArray, List.set_cons_zero, List.set_cons_succ]
      first
        | (refine wpAnyH_take (i := 4) (v := undef) rfl (by kernel_rfl) (by kernel_rfl) (by kernel_rfl) (fun _ _ _ h => h) (Or.inr ⟨by rfl, rfl⟩) (by assumption) ?_)
        | (refine wpAnyH_take (i := 4) (v := ?_) rfl (by kernel_rfl) (by kernel_rfl) (by kernel_rfl) (fun _ _ _ h => h) (Or.inl ⟨by rfl, ?_⟩) (by assumption) ?_
           rotate_left
           (intro w hSw
            (try dsimp only at hSw)
            (go_simp <;> with_reducible rfl)))
      try simp only [Act.put, List.getElem_toArray, List.getElem_cons_zero, List.getElem_cons_succ, List.setIfInBounds_toArray, List.set_cons_zero, List.set_cons_succ]
      first
        | (refine wpAnyH_take (i := 5) (v := undef) rfl (by kernel_rfl) (by kernel_rfl) (by kernel_rfl) (fun _ _ _ h => h) (Or.inr ⟨by rfl, rfl⟩) (by assumption) ?_)
        | (refine wpAnyH_take (i := 5) (v := ?_) rfl (by kernel_rfl) (by kernel_rfl) (by kernel_rfl) (fun _ _ _ h => h) (Or.inl ⟨by rfl, ?_⟩) (by assumption) ?_
           rotate_left
           (intro w hSw
            (try dsimp only at hSw)
            (go_simp <;> with_reducible rfl)))
      try simp only [Act.put, List.getElem_toArray, List.getElem_cons_zero, List.getElem_cons_succ, List.setIfInBounds_toArray, List.set_cons_zero, List.set_cons_succ]
      first
        | (refine wpAnyH_take (i := 6) (v := undef) rfl (by kernel_rfl) (by kernel_rfl) (by kernel_rfl) (fun _ _ _ h => h) (Or.inr ⟨by rfl, rfl⟩) (by assumption) ?_)
        | (refine wpAnyH_take (i := 6) (v := ?_) rfl (by kernel_rfl) (by kernel_rfl) (by kernel_rfl) (fun _ _ _ h => h) (Or.inl ⟨by rfl, ?_⟩) (by assumption) ?_
           rotate_left
           (intro w hSw
            (try dsimp only at hSw)
            (go_simp <;> with_reducible rfl)))
      try simp only [Act.put, List.getElem_toArray, List.getElem_cons_zero, List.getElem_cons_succ, List.setIfInBounds_toArray, List.set_cons_zero, List.set_cons_succ]
      first
        | (refine wpAnyH_take (i := 7) (v := undef) rfl (by kernel_rfl) (by kernel_rfl) (by kernel_rfl) (fun _ _ _ h => h) (Or.inr ⟨by rfl, rfl⟩) (by assumption) ?_)
        | (refine wpAnyH_take (i := 7) (v := ?_) rfl (by kernel_rfl) (by kernel_rfl) (by kernel_rfl) (fun _ _ _ h => h) (Or.inl ⟨by rfl, ?_⟩) (by assumption) ?_
           rotate_left
           (intro w hSw
            (try dsimp only at hSw)
            (go_simp <;> with_reducible rfl)))
      try simp only [Act.put, List.getElem_toArray, List.getElem_cons_zero, List.getElem_cons_succ, List.setIfInBounds_toArray, List.set_cons_zero, List.set_cons_succ]
      first
        | (refine wpAnyH_take (i := 8) (v := undef) rfl (by kernel_rfl) (by kernel_rfl) (by kernel_rfl) (fun _ _ _ h => h) (Or.inr ⟨by rfl, rfl⟩) (by assumption) ?_)
        | (refine wpAnyH_take (i := 8) (v := ?_) rfl (by kernel_rfl) (by kernel_rfl) (by kernel_rfl) (fun _ _ _ h => h) (Or.inl ⟨by rfl, ?_⟩) (by assumption) ?_
           rotate_left
           (intro w hSw
            (try dsimp only at hSw)
            (go_simp <;> with_reducible rfl)))
      try simp only [Act.put, List.getElem_toArray, List.getElem_cons_zero, List.getElem_cons_succ, List.setIfInBounds_toArray, List.set_cons_zero, List.set_cons_succ]
      first
        | (refine wpAnyH_take (i := 9) (v := undef) rfl (by kernel_rfl) (by kernel_rfl) (by kernel_rfl) (fun _ _ _ h => h) (Or.inr ⟨by rfl, rfl⟩) (by assumption) ?_)
        | (refine wpAnyH_take (i := 9) (v := ?_) rfl (by kernel_rfl) (by kernel_rfl) (by kernel_rfl) (fun _ _ _ h => h) (Or.inl ⟨by rfl, ?_⟩) (by assumption) ?_
           rotate_left
           (intro w hSw
            (try dsimp only at hSw)
            (go_simp <;> with_reducible rfl)))
      try simp only [Act.put, List.getElem_toArray, List.getElem_cons_zero, List.getElem_cons_succ, List.setIfInBounds_toArray, List.set_cons_zero, List.set_cons_succ]
      first
        | (refine wpAnyH_take (i := 10) (v := undef) rfl (by kernel_rfl) (by kernel_rfl) (by kernel_rfl) (fun _ _ _ h => h) (Or.inr ⟨by rfl, rfl⟩) (by assumption) ?_)
        | (refine wpAnyH_take (i := 10) (v := ?_) rfl (by kernel_rfl) (by kernel_rfl) (by kernel_rfl) (fun _ _ _ h => h) (Or.inl ⟨by rfl, ?_⟩) (by assumption) ?_
           rotate_left
           (intro w hSw
            (try dsimp only at hSw)
            (go_simp <;> with_reducible rfl)))
      try simp only [Act.put, List.getElem_toArray, List.getElem_cons_zero, List.getElem_cons_succ, List.setIfInBounds_toArray, List.set_cons_zero, List.set_cons_succ]
      refine wpAnyH_done (by kernel_rfl) ?_ _
      have D := hide hC.out.drew
      clear hC
      go_wp2_with fail
      go_roundw
      case rel => exact ⟨i + 1, by omega, by go_num, D⟩
      case measure => simp [intOf]; omega
    · have i2 : ¬ (i : Int) < (bs.length : Int) := by omega
      go_wp2_with fail
      clear y0 z0
      generalize wr = w2 at *
      go_loopw [6] (fun iv wr => ∃ i : Nat, i ≤ cs.length ∧ iv = .int .i64 i ∧ Hid (Chg (fun _ => False) w1 wr)) (fun iv _ => cs.length - (intOf iv).toNat)
      case atStart => exact ⟨0, Nat.zero_le _, rfl, hC⟩
      case round =>
        clear hC
        obtain ⟨k, hk, rfl, hC⟩ := hrel
        have y1 := hC.out.cell (fun h => h) YY.out.2.1
        have z1 := hC.out.cell (fun h => h) YY.out.2.2.2
        by_cases hlt : k < cs.length
        · have k1 : (0 : Int) ≤ (k : Int) := by omega
          have k2 : (k : Int) < (cs.length : Int) := by omega
          have hz := HC.out.1 _ (List.getElem_mem hlt)
          obtain ⟨g, off, u, rfl, _, d0, d1, ti, d2⟩ := (HC.out.chg hC.out (fun _ _ h => h)).cell hlt
          obtain ⟨g', off', u', rfl, _, e0, e1, ti', e2⟩ := (HC'.out.chg hC.out (fun _ _ h => h)).cell hlt
          obtain ⟨ka, kc, rfl, _⟩ := id ti
          obtain ⟨ka', kc', rfl, _⟩ := id ti'
          have sm := hide (same_any cs[k].2.1 (by omega) (.slice ka cs[k].2.1.len kc) (.slice ka' cs[k].2.1.len kc') cs[k].2.2 X wr.drew (fun x hx => Nat.lt_of_lt_of_le (HX.out x hx) hC.out.drew.size) (ti.chg ((Chg.refl (fun _ => False) wr).drew) (fun _ _ h => h)) (ti'.chg ((Chg.refl (fun _ => False) wr).drew) (fun _ _ h => h)))
          clear ti ti' hz
          generalize cs[k] = c at *
          obtain ⟨s, kk, kb⟩ := c
          dsimp only at d0 d1 d2 e0 e1 e2 sm
          have eb := toL_beq s s rfl
          go_wp2_with fail
          refine wp_region_held_drew (S := (fun w' => w'.cell? ⟨P, 1, none⟩ = some (.slice (some ⟨g, off, none⟩) cs.length cc) ∧ w'.cell? ⟨Q, 1, none⟩ = some (.slice (some ⟨g', off', none⟩) cs.length cc') ∧ w'.cell? ⟨g, off + k * 3, none⟩ = some (.string s) ∧ w'.cell? ⟨g', off' + k * 3, none⟩ = some (.string s) ∧ w'.cell? ⟨g, off + k * 3 + 1, none⟩ = some (.slice ka kk.len kc) ∧ w'.cell? ⟨g, off + k * 3 + 2, none⟩ = some (.int .i64 kb) ∧ w'.cell? ⟨g', off' + k * 3 + 1, none⟩ = some (.slice ka' kk.len kc') ∧ w'.cell? ⟨g', off' + k * 3 + 2, none⟩ = some (.int .i64 kb))) (by kernel_rfl) (by go_keep) (fun hHeld => ?_)
          first
            | (refine wpAnyH_take (i := 0) (v := undef) rfl (by kernel_rfl) (by kernel_rfl) (by kernel_rfl) (fun _ _ _ h => h) (Or.inr ⟨by rfl, rfl⟩) (by assumption) ?_)
            | (refine wpAnyH_take (i := 0) (v := ?_) rfl (by kernel_rfl) (by kernel_rfl) (by kernel_rfl) (fun _ _ _ h => h) (Or.inl ⟨by rfl, ?_⟩) (by assumption) ?_
               rotate_left
               (intro w hSw
                (try dsimp only at hSw)
                (go_simp <;> with_reducible rfl)))
          try simp only [Act.put, List.getElem_toArray, List.getElem_cons_zero, List.getElem_cons_succ, List.setIfInBounds_toArray, List.set_cons_zero, List.set_cons_succ]
          first
            | (refine wpAnyH_take (i := 1) (v := undef) rfl (by kernel_rfl) (by kernel_rfl) (by kernel_rfl) (fun _ _ _ h => h) (Or.inr ⟨by rfl, rfl⟩) (by assumption) ?_)
            | (refine wpAnyH_take (i := 1) (v := ?_) rfl (by kernel_rfl) (by kernel_rfl) (by kernel_rfl) (fun _ _ _ h => h) (Or.inl ⟨by rfl, ?_⟩) (by assumption) ?_
               rotate_left
               (intro w hSw
                (try dsimp only at hSw)
                (go_simp <;> with_reducible rfl)))
          try simp only [Act.put, List.getElem_toArray, List.getElem_cons_zero, List.getElem_cons_succ, List.setIfInBounds_toArray, List.set_cons_zero, List.set_cons_succ]
          first
            | (refine wpAnyH_take (i := 2) (v := undef) rfl (by kernel_rfl) (by kernel_rfl) (by kernel_rfl) (fun _ _ _ h => h) (Or.inr ⟨by rfl, rfl⟩) (by assumption) ?_)
            | (refine wpAnyH_take (i := 2) (v := ?_) rfl (by kernel_rfl) (by kernel_rfl) (by kernel_rfl) (fun _ _ _ h => h) (Or.inl ⟨by rfl, ?_⟩) (by assumption) ?_
               rotate_left
               (intro w hSw
                (try dsimp only at hSw)
                (go_simp <;> with_reducible rfl)))
          try simp only [Act.put, List.getElem_toArray, List.getElem_cons_zero, List.getElem_cons_succ, List.setIfInBounds_toArray, List.set_cons_zero, List.set_cons_succ]
          first
            | (refine wpAnyH_take (i := 3) (v := undef) rfl (by kernel_rfl) (by kernel_rfl) (by kernel_rfl) (fun _ _ _ h => h) (Or.inr ⟨by rfl, rfl⟩) (by assumption) ?_)
            | (refine wpAnyH_take (i := 3) (v := ?_) rfl (by kernel_rfl) (by kernel_rfl) (by kernel_rfl) (fun _ _ _ h => h) (Or.inl ⟨by rfl, ?_⟩) (by assumption) ?_
               rotate_left
               (intro w hSw
                (try dsimp only at hSw)
                (go_simp <;> with_reducible rfl)))
          try simp only [Act.put, List.getElem_toArray, List.getElem_cons_zero, List.getElem_cons_succ, List.setIfInBounds_toArray, List.set_cons_zero, List.set_cons_succ]
          first
            | (refine wpAnyH_take (i := 4) (v := undef) rfl (by kernel_rfl) (by kernel_rfl) (by kernel_rfl) (fun _ _ _ h => h) (Or.inr ⟨by rfl, rfl⟩) (by assumption) ?_)
            | (refine wpAnyH_take (i := 4) (v := ?_) rfl (by kernel_rfl) (by kernel_rfl) (by kernel_rfl) (fun _ _ _ h => h) (Or.inl ⟨by rfl, ?_⟩) (by assumption) ?_
               rotate_left
               (intro w hSw
                (try dsimp only at hSw)
                (go_simp <;> with_reducible rfl)))
          try simp only [Act.put, List.getElem_toArray, List.getElem_cons_zero, List.getElem_cons_succ, List.setIfInBounds_toArray, List.set_cons_zero, List.set_cons_succ]
          first
            | (refine wpAnyH_take (i := 5) (v := undef) rfl (by kernel_rfl) (by kernel_rfl) (by kernel_rfl) (fun _ _ _ h => h) (Or.inr ⟨by rfl, rfl⟩) (by assumption) ?_)
            | (refine wpAnyH_take (i := 5) (v := ?_) rfl (by kernel_rfl) (by kernel_rfl) (by kernel_rfl) (fun _ _ _ h => h) (Or.inl ⟨by rfl, ?_⟩) (by assumption) ?_
               rotate_left
               (intro w hSw
                (try dsimp only at hSw)
                (go_simp <;> with_reducible rfl)))
          try simp only [Act.put, List.getElem_toArray, List.getElem_cons_zero, List.getElem_cons_succ, List.setIfInBounds_toArray, List.set_cons_zero, List.set_cons_succ]
          first
            | (refine wpAnyH_take (i := 6) (v := undef) rfl (by kernel_rfl) (by kernel_rfl) (by kernel_rfl) (fun _ _ _ h => h) (Or.inr ⟨by rfl, rfl⟩) (by assumption) ?_)
            | (refine wpAnyH_take (i := 6) (v := ?_) rfl (by kernel_rfl) (by kernel_rfl) (by kernel_rfl) (fun _ _ _ h => h) (Or.inl ⟨by rfl, ?_⟩) (by assumption) ?_
               rotate_left
               (intro w hSw
                (try dsimp only at hSw)
                (go_simp <;> with_reducible rfl)))
          try simp only [Act.put, List.getElem_toArray, List.getElem_cons_zero, List.getElem_cons_succ, List.setIfInBounds_toArray, List.set_cons_zero, List.set_cons_succ]
          first
            | (refine wpAnyH_take (i := 7) (v := undef) rfl (by kernel_rfl) (by kernel_rfl) (by kernel_rfl) (fun _ _ _ h => h) (Or.inr ⟨by rfl, rfl⟩) (by assumption) ?_)
            | (refine wpAnyH_take (i := 7) (v := ?_) rfl (by kernel_rfl) (by kernel_rfl) (by kernel_rfl) (fun _ _ _ h => h) (Or.inl ⟨by rfl, ?_⟩) (by assumption) ?_
               rotate_left
               (intro w hSw
                (try dsimp only at hSw)
                (go_simp <;> with_reducible rfl)))
          try simp only [Act.put, List.getElem_toArray, List.getElem_cons_zero, List.getElem_cons_succ, List.setIfInBounds_toArray, List.set_cons_zero, List.set_cons_succ]
          first
            | (refine wpAnyH_take (i := 8) (v := undef) rfl (by kernel_rfl) (by kernel_rfl) (by kernel_rfl) (fun _ _ _ h => h) (Or.inr ⟨by rfl, rfl⟩) (by assumption) ?_)
            | (refine wpAnyH_take (i := 8) (v := ?_) rfl (by kernel_rfl) (by kernel_rfl) (by kernel_rfl) (fun _ _ _ h => h) (Or.inl ⟨by rfl, ?_⟩) (by assumption) ?_
               rotate_left
               (intro w hSw
                (try dsimp only at hSw)
                (go_simp <;> with_reducible rfl)))
          try simp only [Act.put, List.getElem_toArray, List.getElem_cons_zero, List.getElem_cons_succ, List.setIfInBounds_toArray, List.set_cons_zero, List.set_cons_succ]
          first
            | (refine wpAnyH_take (i := 9) (v := undef) rfl (by kernel_rfl) (by kernel_rfl) (by kernel_rfl) (fun _ _ _ h => h) (Or.inr ⟨by rfl, rfl⟩) (by assumption) ?_)
            | (refine wpAnyH_take (i := 9) (v := ?_) rfl (by kernel_rfl) (by kernel_rfl) (by kernel_rfl) (fun _ _ _ h => h) (Or.inl ⟨by rfl, ?_⟩) (by assumption) ?_
               rotate_left
               (intro w hSw
                (try dsimp only at hSw)
                (go_simp <;> with_reducible rfl)))
          try simp only [Act.put, List.getElem_toArray, List.getElem_cons_zero, List.getElem_cons_succ, List.setIfInBounds_toArray, List.set_cons_zero, List.set_cons_succ]
          first
            | (refine wpAnyH_take (i := 10) (v := undef) rfl (by kernel_rfl) (by kernel_rfl) (by kernel_rfl) (fun _ _ _ h => h) (Or.inr ⟨by rfl, rfl⟩) (by assumption) ?_)
            | (refine wpAnyH_take (i := 10) (v := ?_) rfl (by kernel_rfl) (by kernel_rfl) (by kernel_rfl) (fun _ _ _ h => h) (Or.inl ⟨by rfl, ?_⟩) (by assumption) ?_
               rotate_left
               (intro w hSw
                (try dsimp only at hSw)
                (go_simp <;> with_reducible rfl)))
          try simp only [Act.put, List.getElem_toArray, List.getElem_cons_zero, List.getElem_cons_succ, List.setIfInBounds_toArray, List.set_cons_zero, List.set_cons_succ]
          first
            | (refine wpAnyH_take (i := 11) (v := undef) rfl (by kernel_rfl) (by kernel_rfl) (by kernel_rfl) (fun _ _ _ h => h) (Or.inr ⟨by rfl, rfl⟩) (by assumption) ?_)
            | (refine wpAnyH_take (i := 11) (v := ?_) rfl (by kernel_rfl) (by kernel_rfl) (by kernel_rfl) (fun _ _ _ h => h) (Or.inl ⟨by rfl, ?_⟩) (by assumption) ?_
               rotate_left
               (intro w hSw
                (try dsimp only at hSw)
                (go_simp <;> with_reducible rfl)))
          try simp only [Act.put, List.getElem_toArray, List.getElem_cons_zero, List.getElem_cons_succ, List.setIfInBounds_toArray, List.set_cons_zero, List.set_cons_succ]
          first
            | (refine wpAnyH_take (i := 12) (v := undef) rfl (by kernel_rfl) (by kernel_rfl) (by kernel_rfl) (fun _ _ _ h => h) (Or.inr ⟨by rfl, rfl⟩) (by assumption) ?_)
            | (refine wpAnyH_take (i := 12) (v := ?_) rfl (by kernel_rfl) (by kernel_rfl) (by kernel_rfl) (fun _ _ _ h => h) (Or.inl ⟨by rfl, ?_⟩) (by assumption) ?_
               rotate_left
               (intro w hSw
                (try dsimp only at hSw)
                (go_simp <;> with_reducible rfl)))
          try simp only [Act.put, List.getElem_toArray, List.getElem_cons_zero, List.getElem_cons_succ, List.setIfInBounds_toArray, List.set_cons_zero, List.set_cons_succ]
          first
            | (refine wpAnyH_take (i := 13) (v := undef) rfl (by kernel_rfl) (by kernel_rfl) (by kernel_rfl) (fun _ _ _ h => h) (Or.inr ⟨by rfl, rfl⟩) (by assumption) ?_)
            | (refine wpAnyH_take (i := 13) (v := ?_) rfl (by kernel_rfl) (by kernel_rfl) (by kernel_rfl) (fun _ _ _ h => h) (Or.inl ⟨by rfl, ?_⟩) (by assumption) ?_
               rotate_left
               (intro w hSw
                (try dsimp only at hSw)
                (go_simp <;> with_reducible rfl)))
          try simp only [Act.put, List.getElem_toArray, List.getElem_cons_zero, List.getElem_cons_succ, List.setIfInBounds_toArray, List.set_cons_zero, List.set_cons_succ]
          first
            | (refine wpAnyH_take (i := 14) (v := undef) rfl (by kernel_rfl) (by kernel_rfl) (by kernel_rfl) (fun _ _ _ h => h) (Or.inr ⟨by rfl, rfl⟩) (by assumption) ?_)
            | (refine wpAnyH_take (i := 14) (v := ?_) rfl (by kernel_rfl) (by kernel_rfl) (by kernel_rfl) (fun _ _ _ h => h) (Or.inl ⟨by rfl, ?_⟩) (by assumption) ?_
               rotate_left
               (intro w hSw
                (try dsimp only at hSw)
                (go_simp <;> with_reducible rfl)))
          try simp only [Act.put, List.getElem_toArray, List.getElem_cons_zero, List.getElem_cons_succ, List.setIfInBounds_toArray, List.set_cons_zero, List.set_cons_succ]
          first
            | (refine wpAnyH_take (i := 15) (v := undef) rfl (by kernel_rfl) (by kernel_rfl) (by kernel_rfl) (fun _ _ _ h => h) (Or.inr ⟨by rfl, rfl⟩) (by assumption) ?_)
            | (refine wpAnyH_take (i := 15) (v := ?_) rfl (by kernel_rfl) (by kernel_rfl) (by kernel_rfl) (fun _ _ _ h => h) (Or.inl ⟨by rfl, ?_⟩) (by assumption) ?_
               rotate_left
               (intro w hSw
                (try dsimp only at hSw)
                (go_simp <;> with_reducible rfl)))
          try simp only [Act.put, List.getElem_toArray, List.getElem_cons_zero, List.getElem_cons_succ, List.setIfInBounds_toArray, List.set_cons_zero, List.set_cons_succ]
          first
            | (refine wpAnyH_take (i := 16) (v := undef) rfl (by kernel_rfl) (by kernel_rfl) (by kernel_rfl) (fun _ _ _ h => h) (Or.inr ⟨by rfl, rfl⟩) (by assumption) ?_)
            | (refine wpAnyH_take (i := 16) (v := ?_) rfl (by kernel_rfl) (by kernel_rfl) (by kernel_rfl) (fun _ _ _ h => h) (Or.inl ⟨by rfl, ?_⟩) (by assumption) ?_
               rotate_left
               (intro w hSw
                (try dsimp only at hSw)
                (go_simp <;> with_reducible rfl)))
          try simp only [Act.put, List.getElem_toArray, List.getElem_cons_zero, List.getElem_cons_succ, List.setIfInBounds_toArray, List.set_cons_zero, List.set_cons_succ]
          first
            | (refine wpAnyH_take (i := 17) (v := undef) rfl (by kernel_rfl) (by kernel_rfl) (by kernel_rfl) (fun _ _ _ h => h) (Or.inr ⟨by rfl, rfl⟩) (by assumption) ?_)
            | (refine wpAnyH_take (i := 17) (v := ?_) rfl (by kernel_rfl) (by kernel_rfl) (by kernel_rfl) (fun _ _ _ h => h) (Or.inl ⟨by rfl, ?_⟩) (by assumption) ?_
               rotate_left
               (intro w hSw
                (try dsimp only at hSw)
                (go_simp <;> with_reducible rfl)))
          try simp only [Act.put, List.getElem_toArray, List.getElem_cons_zero, List.getElem_cons_succ, List.setIfInBounds_toArray, List.set_cons_zero, List.set_cons_succ]
          first
            | (refine wpAnyH_take (i := 18) (v := undef) rfl (by kernel_rfl) (by kernel_rfl) (by kernel_rfl) (fun _ _ _ h => h) (Or.inr ⟨by rfl, rfl⟩) (by assumption) ?_)
            | (refine wpAnyH_take (i := 18) (v := ?_) rfl (by kernel_rfl) (by kernel_rfl) (by kernel_rfl) (fun _ _ _ h => h) (Or.inl ⟨by rfl, ?_⟩) (by assumption) ?_
               rotate_left
               (intro w hSw
                (try dsimp only at hSw)
                (go_simp <;> with_reducible rfl)))
          try simp only [Act.put, List.getElem_toArray, List.getElem_cons_zero, List.getElem_cons_succ, List.setIfInBounds_toArray, List.set_cons_zero, List.set_cons_succ]
          first
            | (refine wpAnyH_take (i := 19) (v := undef) rfl (by kernel_rfl) (by kernel_rfl) (by kernel_rfl) (fun _ _ _ h => h) (Or.inr ⟨by rfl, rfl⟩) (by assumption) ?_)
            | (refine wpAnyH_take (i := 19) (v := ?_) rfl (by kernel_rfl) (by kernel_rfl) (by kernel_rfl) (fun _ _ _ h => h) (Or.inl ⟨by rfl, ?_⟩) (by assumption) ?_
               rotate_left
               (intro w hSw
                (try dsimp only at hSw)
                (go_simp <;> with_reducible rfl)))
          try simp only [Act.put, List.getElem_toArray, List.getElem_cons_zero, List.getElem_cons_succ, List.setIfInBounds_toArray, List.set_cons_zero, List.set_cons_succ]
          first
            | (refine wpAnyH_take (i := 20) (v := undef) rfl (by kernel_rfl) (by kernel_rfl) (by kernel_rfl) (fun _ _ _ h => h) (Or.inr ⟨by rfl, rfl⟩) (by assumption) ?_)
            | (refine wpAnyH_take (i := 20) (v := ?_) rfl (by kernel_rfl) (by kernel_rfl) (by kernel_rfl) (fun _ _ _ h => h) (Or.inl ⟨by rfl, ?_⟩) (by assumption) ?_
               rotate_left
               (intro w hSw
                (try dsimp only at hSw)
                (go_simp <;> with_reducible rfl)))
          try simp only [Act.put, List.getElem_toArray, List.getElem_cons_zero, List.getElem_cons_succ, List.setIfInBounds_toArray, List.set_cons_zero, List.set_cons_succ]
          first
            | (refine wpAnyH_take (i := 21) (v := undef) rfl (by kernel_rfl) (by kernel_rfl) (by kernel_rfl) (fun _ _ _ h => h) (Or.inr ⟨by rfl, rfl⟩) (by assumption) ?_)
            | (refine wpAnyH_take (i := 21) (v := ?_) rfl (by kernel_rfl) (by kernel_rfl) (by kernel_rfl) (fun _ _ _ h => h) (Or.inl ⟨by rfl, ?_⟩) (by assumption) ?_
               rotate_left
               (intro w hSw
                (try dsimp only at hSw)
                (go_simp <;> with_reducible rfl)))
          try simp only [Act.put, List.getElem_toArray, List.getElem_cons_zero, List.getElem_cons_succ, List.setIfInBounds_toArray, List.set_cons_zero, List.set_cons_succ]
          first
            | (refine wpAnyH_take (i := 22) (v := undef) rfl (by kernel_rfl) (by kernel_rfl) (by kernel_rfl) (fun _ _ _ h => h) (Or.inr ⟨by rfl, rfl⟩) (by assumption) ?_)
            | (refine wpAnyH_take (i := 22) (v := ?_) rfl (by kernel_rfl) (by kernel_rfl) (by kernel_rfl) (fun _ _ _ h => h) (Or.inl ⟨by rfl, ?_⟩) (by assumption) ?_
               rotate_left
               (intro w hSw
                (try dsimp only at hSw)
                (go_simp <;> with_reducible rfl)))
          try simp only [Act.put, List.getElem_toArray, List.getElem_cons_zero, List.getElem_cons_succ, List.setIfInBounds_toArray, List.set_cons_zero, List.set_cons_succ]
          first
            | (refine wpAnyH_take (i := 23) (v := undef) rfl (by kernel_rfl) (by kernel_rfl) (by kernel_rfl) (fun _ _ _ h => h) (Or.inr ⟨by rfl, rfl⟩) (by assumption) ?_)
            | (refine wpAnyH_take (i := 23) (v := ?_) rfl (by kernel_rfl) (by kernel_rfl) (by kernel_rfl) (fun _ _ _ h => h) (Or.inl ⟨by rfl, ?_⟩) (by assumption) ?_
               rotate_left
               (intro w hSw
                (try dsimp only at hSw)
                (go_simp <;> with_reducible rfl)))
          try simp only [Act.put, List.getElem_toArray, List.getElem_cons_zero, List.getElem_cons_succ, List.setIfInBounds_toArray, List.set_cons_zero, List.set_cons_succ]
          first
            | (refine wpAnyH_take (i := 24) (v := undef) rfl (by kernel_rfl) (by kernel_rfl) (by kernel_rfl) (fun _ _ _ h => h) (Or.inr ⟨by rfl, rfl⟩) (by assumption) ?_)
            | (refine wpAnyH_take (i := 24) (v := ?_) rfl (by kernel_rfl) (by kernel_rfl) (by kernel_rfl) (fun _ _ _ h => h) (Or.inl ⟨by rfl, ?_⟩) (by assumption) ?_
               rotate_left
               (intro w hSw
                (try dsimp only at hSw)
                (go_simp <;> with_reducible rfl)))
          try simp only [Act.put, List.getElem_toArray, List.getElem_cons_zero, List.getElem_cons_succ, List.setIfInBounds_toArray, List.set_cons_zero, List.set_cons_succ]
          first
            | (refine wpAnyH_take (i := 25) (v := undef) rfl (by kernel_rfl) (by kernel_rfl) (by kernel_rfl) (fun _ _ _ h => h) (Or.inr ⟨by rfl, rfl⟩) (by assumption) ?_)
            | (refine wpAnyH_take (i := 25) (v := ?_) rfl (by kernel_rfl) (by kernel_rfl) (by kernel_rfl) (fun _ _ _ h => h) (Or.inl ⟨by rfl, ?_⟩) (by assumption) ?_
               rotate_left
               (intro w hSw
                (try dsimp only at hSw)
                (go_simp <;> with_reducible rfl)))
          try simp only [Act.put, List.getElem_toArray, List.getElem_cons_zero, List.getElem_cons_succ, List.setIfInBounds_toArray, List.set_cons_zero, List.set_cons_succ]
          refine wpAnyH_ready (rs := [26]) (by kernel_rfl) (by simp) ?_
          refine AllReadyH.cons (i := 26) (o := _) rfl (fun K hK => ?_) ?_
          rotate_left
          · exact AllReadyH.nil
          go_simp
          refine sm.out.mono ?_
          rintro e w6 ⟨rfl, g6'⟩
          have g6 := (Chg.refl (fun _ => False) wr).drew.trans g6'
          have GC := hide (hC.out.trans g6)
          have S6 := hide (And.intro (g6.cell (fun h => h) y1) (And.intro (g6.cell (fun h => h) z1) (And.intro (g6.cell (fun h => h) d0) (And.intro (g6.cell (fun h => h) e0) (And.intro (g6.cell (fun h => h) d1) (And.intro (g6.cell (fun h => h) d2) (And.intro (g6.cell (fun h => h) e1) (g6.cell (fun h => h) e2))))))))
          clear g6 g6' hC
          go_simp
          refine hK.out _ _ S6.out (fun hHeld => ?_)
          clear hK K
          try simp only [Act.put, List.getElem_toArray, List.getElem_cons_zero, List.getElem_cons_succ, List.setIfInBounds_toArray, List.set_cons_zero, List.set_cons_succ]
          first
            | (refine wpAnyH_take (i := 27) (v := undef) rfl (by kernel_rfl) (by kernel_rfl) (by kernel_rfl) (fun _ _ _ h => h) (Or.inr ⟨by rfl, rfl⟩) (by assumption) ?_)
            | (refine wpAnyH_take (i := 27) (v := ?_) rfl (by kernel_rfl) (by kernel_rfl) (by kernel_rfl) (fun _ _ _ h => h) (Or.inl ⟨by rfl, ?_⟩) (by assumption) ?_
               rotate_left
               (intro w hSw
                (try dsimp only at hSw)
                (go_simp <;> with_reducible rfl)))
          try simp only [Act.put, List.getElem_toArray, List.getElem_cons_zero, List.getElem_cons_succ, List.setIfInBounds_toArray, List.set_cons_zero, List.set_cons_succ]
          first
            | (refine wpAnyH_take (i := 28) (v := undef) rfl (by kernel_rfl) (by kernel_rfl) (by kernel_rfl) (fun _ _ _ h => h) (Or.inr ⟨by rfl, rfl⟩) (by assumption) ?_)
            | (refine wpAnyH_take (i := 28) (v := ?_) rfl (by kernel_rfl) (by kernel_rfl) (by kernel_rfl) (fun _ _ _ h => h) (Or.inl ⟨by rfl, ?_⟩) (by assumption) ?_
               rotate_left
               (intro w hSw
                (try dsimp only at hSw)
                (go_simp <;> with_reducible rfl)))
          try simp only [Act.put, List.getElem_toArray, List.getElem_cons_zero, List.getElem_cons_succ, List.setIfInBounds_toArray, List.set_cons_zero, List.set_cons_succ]
          refine wpAnyH_done (by kernel_rfl) ?_ _
          go_wp2_with fail
          go_roundw
          case rel => exact ⟨k + 1, by omega, by go_num, GC⟩
          case measure => simp [intOf]; omega
        · have k2 : ¬ (k : Int) < (cs.length : Int) := by omega
          have F := hide (GG.out.trans hC.out)
          go_wp2_with fail
          go_ret
          exact ⟨rfl, F.out⟩

set_option maxRecDepth 100000 in
set_option maxHeartbeats 4000000 in
theorem table_any (b L : Nat) (bs : List ByteArray) (cs : List Cn) (hbl : bs.length ≤ 1000) (hcl : cs.length ≤ 1000) (w : World) (h : Xs w L b bs cs) :
    Calls Tryd.prog 19 #[.pointer (some ⟨b, 0, none⟩)] w fun e w' => (∃ bv cv, e = .returned (.agg #[bv, cv]) ∧ Strs w' (fun x => w.heap.size ≤ x ∧ x < w'.heap.size) bv bs ∧ Cns w' (fun x => w.heap.size ≤ x ∧ x < w'.heap.size) cv cs) ∧ Chg (fun _ => False) w w' := by
  obtain ⟨h0, bv, cv, d, nm, h1, h2, h3, h4⟩ := h
  have G1 := hide (al w (.cells #[.slice none 0 0, .slice none 0 0] 26))
  have BR := hide (blk_new w (.cells #[.slice none 0 0, .slice none 0 0] 26))
  have SZ := hide (al_sz w (.cells #[.slice none 0 0, .slice none 0 0] 26))
  have IX : Ix (w.alloc (.cells #[.slice none 0 0, .slice none 0 0] 26)) b bv cv d 0 nm := h1.chg G1.out (fun h => h)
  have x0 := blk_cell IX 0
  have x1 := blk_cell IX 1
  simp only [List.getElem?_toArray, List.getElem?_cons_zero, List.getElem?_cons_succ] at x0 x1
  obtain ⟨_, ba, bc, rfl, _⟩ := id h2
  obtain ⟨_, ca, cc, rfl, _⟩ := id h3
  have lb := h1.lt
  have vc := hide (vcopied_any bs cs hbl hcl (.slice ba bs.length bc) (.slice ca cs.length cc) (fun x => L ≤ x ∧ x < b) (w.alloc (.cells #[.slice none 0 0, .slice none 0 0] 26)) (fun x hx => by have := SZ.out; omega) (h2.chg G1.out (fun _ _ h => h)) (h3.chg G1.out (fun _ _ h => h)))
  clear h1 h2 h3 h4 IX
  go_enter Tryd.func19, Tryd.ntmps19
  go_wp2_with fail
  generalize w.alloc (.cells #[.slice none 0 0, .slice none 0 0] 26) = w1 at *
  obtain ⟨R, hR⟩ : ∃ R, w.heap.size = R := ⟨_, rfl⟩
  have HR := hide hR
  rw [hR] at BR SZ ⊢
  clear hR
  refine vc.out.mono ?_
  rintro e w2 ⟨⟨bv', cv', rfl, sb, sc⟩, g2⟩
  obtain ⟨_, ba', bc', rfl, _⟩ := id sb
  obtain ⟨_, ca', cc', rfl, _⟩ := id sc
  have B2 := g2.blk (fun h => h) BR.out
  have cR0 := blk_cell B2 0
  have cR1 := blk_cell B2 1
  have fR0 := blk_free B2 0
  have fR1 := blk_free B2 1
  simp only [List.getElem?_toArray, List.getElem?_cons_zero, List.getElem?_cons_succ] at cR0 cR1
  have T1 := blk_set B2 0 (.slice ba' bs.length bc')
  have T2 := blk_set T1 1 (.slice ca' cs.length cc')
  have S1 := Chg.set w2 R 0 (.slice ba' bs.length bc')
  have S2 := Chg.set (w2.setCell ⟨R, 0, none⟩ (.slice ba' bs.length bc')) R 1 (.slice ca' cs.length cc')
  have SS := S1.trans S2
  have F : Hid (Strs ((w2.setCell ⟨R, 0, none⟩ (.slice ba' bs.length bc')).setCell ⟨R, 1, none⟩ (.slice ca' cs.length cc')) (fun x => w.heap.size ≤ x ∧ x < ((w2.setCell ⟨R, 0, none⟩ (.slice ba' bs.length bc')).setCell ⟨R, 1, none⟩ (.slice ca' cs.length cc')).heap.size) (.slice ba' bs.length bc') bs ∧ Cns ((w2.setCell ⟨R, 0, none⟩ (.slice ba' bs.length bc')).setCell ⟨R, 1, none⟩ (.slice ca' cs.length cc')) (fun x => w.heap.size ≤ x ∧ x < ((w2.setCell ⟨R, 0, none⟩ (.slice ba' bs.length bc')).setCell ⟨R, 1, none⟩ (.slice ca' cs.length cc')).heap.size) (.slice ca' cs.length cc') cs ∧ Chg (fun _ => False) w ((w2.setCell ⟨R, 0, none⟩ (.slice ba' bs.length bc')).setCell ⟨R, 1, none⟩ (.slice ca' cs.length cc'))) := hide ⟨(sb.chg SS (fun x hx e => by have := SZ.out; omega)).up (fun x hx => ⟨by have := SZ.out; have := HR.out; omega, by have := SS.size; omega⟩), (sc.chg SS (fun x hx e => by have := SZ.out; omega)).up (fun x hx => ⟨by have := SZ.out; have := HR.out; omega, by have := SS.size; omega⟩), by
    have h1 : Chg (fun x => x = R) w _ := (G1.out.trans g2).none.trans SS
    exact h1.mono (fun x hx e => by have := HR.out; omega)⟩
  have z0 : ((w2.setCell ⟨R, 0, none⟩ (.slice ba' bs.length bc')).setCell ⟨R, 1, none⟩ (.slice ca' cs.length cc')).cell? ⟨R, 0, none⟩ = some (.slice ba' bs.length bc') := blk_cell T2 0
  have z1 : ((w2.setCell ⟨R, 0, none⟩ (.slice ba' bs.length bc')).setCell ⟨R, 1, none⟩ (.slice ca' cs.length cc')).cell? ⟨R, 1, none⟩ = some (.slice ca' cs.length cc') := blk_cell T2 1
  clear T1 T2 S1 S2 SS sb sc g2 B2 vc x0 x1
  go_wp2_with fail
  generalize ((w2.setCell ⟨R, 0, none⟩ (.slice ba' bs.length bc')).setCell ⟨R, 1, none⟩ (.slice ca' cs.length cc')) = wF at *
  refine bodyPost_ret (fn := Tryd.f19) (v := .agg #[.slice ba' bs.length bc', .slice ca' cs.length cc']) (by simp [results, Tryd.results19, go_sem, z0, z1]) rfl ?_
  exact ⟨⟨_, _, rfl, F.out.1, F.out.2.1⟩, F.out.2.2⟩

/-- the place of a name in a row, or -1 -/
def posL (s : ByteArray) : List ByteArray → Nat → Int
  | [], _ => -1
  | x :: r, i => if x = s then (i : Int) else posL s r (i + 1)
theorem posL_at (s : ByteArray) (l : List ByteArray) (i : Nat) (h : i < l.length) : posL s (l.drop i) i = if l[i] = s then (i : Int) else posL s (l.drop (i + 1)) (i + 1) := by
  rw [List.drop_eq_getElem_cons h]; rfl

set_option maxRecDepth 100000 in
set_option maxHeartbeats 4000000 in
theorem refBase_any (bs : List ByteArray) (cs : List Cn) (hbl : bs.length ≤ 100) (hcl : cs.length ≤ 100) (s : ByteArray) (ba : Option Addr) (bc : Nat) (ca : Option Addr) (cc : Nat) (X : Nat → Prop) (w : World)
    (hb : Strs w X (.slice ba bs.length bc) bs) (hc : Cns w X (.slice ca cs.length cc) cs) :
    Calls Tryd.prog 22 #[.agg #[.slice ba bs.length bc, .slice ca cs.length cc], .string s] w fun e w' => e = .returned (.int .i64 (posL s (bs) 0)) ∧ Chg (fun _ => False) w w' := by
  have G1 := hide (al w (.cells #[.slice ba bs.length bc, .slice ca cs.length cc] 39))
  have BX := blk_new w (.cells #[.slice ba bs.length bc, .slice ca cs.length cc] 39)
  have y0 := blk_cell BX 0
  simp only [List.getElem?_toArray, List.getElem?_cons_zero, List.getElem?_cons_succ] at y0
  have HB := hide (hb.chg G1.out (fun _ _ h => h))
  have HC := hide (hc.chg G1.out (fun _ _ h => h))
  clear hb hc BX
  obtain ⟨N, hN⟩ : ∃ N, N = bs := ⟨_, rfl⟩
  have NL : N.length = bs.length := by simp [hN]
  rw [← hN]
  have HN := hide hN
  clear hN
  go_enter Tryd.func22, Tryd.ntmps22
  go_wp2_with fail
  generalize w.alloc (.cells #[.slice ba bs.length bc, .slice ca cs.length cc] 39) = w1 at *
  obtain ⟨P, hP⟩ : ∃ P, w.heap.size = P := ⟨_, rfl⟩
  rw [hP] at y0 ⊢
  clear hP
  go_loopw [5] (fun iv wr => ∃ i : Nat, i ≤ bs.length ∧ iv = .int .i64 i ∧ Hid (posL s (N.drop i) i = posL s N 0) ∧ wr = w1) (fun iv _ => bs.length - (intOf iv).toNat)
  case atStart => exact ⟨0, Nat.zero_le _, rfl, hide (by simp), rfl⟩
  case round =>
    obtain ⟨i, hi, rfl, HE, rfl⟩ := hrel
    by_cases hlt : i < bs.length
    · have i1 : (0 : Int) ≤ (i : Int) := by omega
      have i2 : (i : Int) < (bs.length : Int) := by omega
      obtain ⟨g, off, rfl, _, d0⟩ := HB.out.cell hlt
      have HA : Hid (posL s (N.drop i) i = if bs[i] = s then (i : Int) else posL s (N.drop (i + 1)) (i + 1)) := hide (by
        rw [posL_at s N i (by omega)]
        simp only [HN.out, List.getElem_map])
      generalize bs[i] = t at *
      by_cases hst : t = s
      · have eb := toL_beq t s hst
        have NX : posL s N 0 = (i : Int) := by rw [← HE.out, HA.out, if_pos hst]
        clear hst
        go_wp2_with fail
        go_ret
        exact ⟨by first | rfl | (rw [NX]; rfl), G1.out⟩
      · have eb := toL_bne t s hst
        have NX : Hid (posL s (N.drop (i + 1)) (i + 1) = posL s N 0) := hide (by rw [← HE.out, HA.out, if_neg hst])
        clear hst
        go_wp2_with fail
        go_roundw
        case rel => exact ⟨i + 1, by omega, by go_num, NX, trivial⟩
        case measure => simp [intOf]; omega
    · have i2 : ¬ (i : Int) < (bs.length : Int) := by omega
      have hif : i = N.length := by omega
      have NX : posL s N 0 = -1 := by rw [← HE.out, hif, List.drop_length]; rfl
      clear hif
      go_wp2_with fail
      go_ret
      exact ⟨by first | rfl | (rw [NX]; rfl), G1.out⟩

set_option maxRecDepth 100000 in
set_option maxHeartbeats 4000000 in
theorem refConst_any (bs : List ByteArray) (cs : List Cn) (hbl : bs.length ≤ 100) (hcl : cs.length ≤ 100) (s : ByteArray) (ba : Option Addr) (bc : Nat) (ca : Option Addr) (cc : Nat) (X : Nat → Prop) (w : World)
    (hb : Strs w X (.slice ba bs.length bc) bs) (hc : Cns w X (.slice ca cs.length cc) cs) :
    Calls Tryd.prog 23 #[.agg #[.slice ba bs.length bc, .slice ca cs.length cc], .string s] w fun e w' => e = .returned (.int .i64 (posL s (cs.map (·.1)) 0)) ∧ Chg (fun _ => False) w w' := by
  have G1 := hide (al w (.cells #[.slice ba bs.length bc, .slice ca cs.length cc] 39))
  have BX := blk_new w (.cells #[.slice ba bs.length bc, .slice ca cs.length cc] 39)
  have y0 := blk_cell BX 1
  simp only [List.getElem?_toArray, List.getElem?_cons_zero, List.getElem?_cons_succ] at y0
  have HB := hide (hb.chg G1.out (fun _ _ h => h))
  have HC := hide (hc.chg G1.out (fun _ _ h => h))
  clear hb hc BX
  obtain ⟨N, hN⟩ : ∃ N, N = cs.map (·.1) := ⟨_, rfl⟩
  have NL : N.length = cs.length := by simp [hN]
  rw [← hN]
  have HN := hide hN
  clear hN
  go_enter Tryd.func23, Tryd.ntmps23
  go_wp2_with fail
  generalize w.alloc (.cells #[.slice ba bs.length bc, .slice ca cs.length cc] 39) = w1 at *
  obtain ⟨P, hP⟩ : ∃ P, w.heap.size = P := ⟨_, rfl⟩
  rw [hP] at y0 ⊢
  clear hP
  go_loopw [5] (fun iv wr => ∃ i : Nat, i ≤ cs.length ∧ iv = .int .i64 i ∧ Hid (posL s (N.drop i) i = posL s N 0) ∧ wr = w1) (fun iv _ => cs.length - (intOf iv).toNat)
  case atStart => exact ⟨0, Nat.zero_le _, rfl, hide (by simp), rfl⟩
  case round =>
    obtain ⟨i, hi, rfl, HE, rfl⟩ := hrel
    by_cases hlt : i < cs.length
    · have i1 : (0 : Int) ≤ (i : Int) := by omega
      have i2 : (i : Int) < (cs.length : Int) := by omega
      obtain ⟨g, off, u, rfl, _, d0, _, _, _⟩ := HC.out.cell hlt
      have HA : Hid (posL s (N.drop i) i = if cs[i].1 = s then (i : Int) else posL s (N.drop (i + 1)) (i + 1)) := hide (by
        rw [posL_at s N i (by omega)]
        simp only [HN.out, List.getElem_map])
      generalize cs[i].1 = t at *
      by_cases hst : t = s
      · have eb := toL_beq t s hst
        have NX : posL s N 0 = (i : Int) := by rw [← HE.out, HA.out, if_pos hst]
        clear hst
        go_wp2_with fail
        go_ret
        exact ⟨by first | rfl | (rw [NX]; rfl), G1.out⟩
      · have eb := toL_bne t s hst
        have NX : Hid (posL s (N.drop (i + 1)) (i + 1) = posL s N 0) := hide (by rw [← HE.out, HA.out, if_neg hst])
        clear hst
        go_wp2_with fail
        go_roundw
        case rel => exact ⟨i + 1, by omega, by go_num, NX, trivial⟩
        case measure => simp [intOf]; omega
    · have i2 : ¬ (i : Int) < (cs.length : Int) := by omega
      have hif : i = N.length := by omega
      have NX : posL s N 0 = -1 := by rw [← HE.out, hif, List.drop_length]; rfl
      clear hif
      go_wp2_with fail
      go_ret
      exact ⟨by first | rfl | (rw [NX]; rfl), G1.out⟩
end Go.Proofs.YtdoohocdaacnaaaDoor
