/- spot.Close: the context's types ahead of a term's own; within: the same of rows. -/
import Derived.Test.YtnpcapdlgcaniaaDoorArrow
import Derived.Test.YtnpcapdlgcaniaaDoorClones
import Derived.Test.YtnpcapdlgcaniaaDoorBehind
namespace Go.Proofs.YtnpcapdlgcaniaaDoor
open Go.RowKit
set_option linter.unusedVariables false
set_option linter.unusedSimpArgs false

set_option maxRecDepth 100000 in
set_option maxHeartbeats 8000000 in
theorem within_any (f g : Fs) (hf : f.len ≤ 50000) (hg : g.len ≤ 50000) (v u : Value) (X : Nat → Prop) (w : World) (hX : ∀ x, X x → x < w.heap.size) (hv : Ts w X v f) (hu : Ts w X u g) :
    Calls Tryd.prog 56 #[v, u] w fun e w' => (∃ v', e = .returned v' ∧ Ts w' (New X w w') v' (f.app g)) ∧ Chg (fun _ => False) w w' := by
  obtain ⟨a, c, rfl, _⟩ := id hv
  obtain ⟨b, d, rfl, _⟩ := id hu
  have G := al w (.cells #[.slice a f.len c, .slice b g.len d] 31)
  have NB := blk_new w (.cells #[.slice a f.len c, .slice b g.len d] 31)
  have CT := hide (concat_ts w.heap.size X _ _ f g hf hg _ (fun x h => Nat.lt_of_lt_of_le (hX x h) G.size) (blk_cell NB 0) (blk_cell NB 1) (hv.chg G (fun _ _ h => h)) (hu.chg G (fun _ _ h => h)))
  have HG := hide G
  clear G NB hv hu hX
  go_enter Tryd.func56, Tryd.ntmps56
  go_wp2_with fail
  refine CT.out.mono ?_
  rintro e w2 ⟨⟨v', rfl, t⟩, g2⟩
  have HT := hide t
  have GG := hide (HG.out.trans g2)
  have hsz := HG.out.size
  clear t g2 CT
  go_wp2_with fail
  go_ret
  exact ⟨⟨_, rfl, HT.out.up (fun x hx => by rcases hx with hx | hx; exact Or.inl hx; exact Or.inr ⟨by omega, hx.2⟩)⟩, GG.out⟩

set_option maxRecDepth 100000 in
set_option maxHeartbeats 8000000 in
theorem close_any (t : Tm) (f : Fs) (ok : TmOk (f.app t.bs, t.kd, t.ix, t.ag)) (v u : Value) (X : Nat → Prop) (w : World) (hX : ∀ x, X x → x < w.heap.size) (hv : TV w X v t) (hu : Ts w X u f) :
    Calls Tryd.prog 30 #[v, u] w fun e w' => (∃ v', e = .returned v' ∧ TV w' (fun x => w.heap.size ≤ x ∧ x < w'.heap.size) v' (f.app t.bs, t.kd, t.ix, t.ag)) ∧ Chg (fun _ => False) w w' := by
  obtain ⟨b, k, i, ag⟩ := t
  obtain ⟨ba, bc, a, cap, rfl, h1, h2⟩ := hv
  obtain ⟨ua, uc, rfl, _⟩ := id hu
  dsimp only [Tm.bs, Tm.kd, Tm.ix, Tm.ag] at *
  have hsz1 : (f.app b).size ≤ 40000 := ok.1
  have l0 := Fs.app_size f b
  have l1 := Fs.len_size f
  have l2 := Fs.len_size b
  have G1 := al w (.cells #[.slice ba b.len bc, .int .i64 k, .int .i64 i, .slice a ag.len cap] 35)
  have B0 := blk_new w (.cells #[.slice ba b.len bc, .int .i64 k, .int .i64 i, .slice a ag.len cap] 35)
  have G2 := al (w.alloc (.cells #[.slice ba b.len bc, .int .i64 k, .int .i64 i, .slice a ag.len cap] 35)) (.cells #[.slice none 0 0, .int .i64 0, .int .i64 0, .slice none 0 0] 35)
  have B1 := blk_new (w.alloc (.cells #[.slice ba b.len bc, .int .i64 k, .int .i64 i, .slice a ag.len cap] 35)) (.cells #[.slice none 0 0, .int .i64 0, .int .i64 0, .slice none 0 0] 35)
  have B0b := hide (G2.blk (fun h => h) B0)
  rw [al_sz] at B1
  have B1b := hide B1
  have GG := hide (G1.trans G2)
  have H1 := hide (h1.chg GG.out (fun _ _ h => h))
  have H2 := hide (h2.chg GG.out (fun _ _ h => h))
  have HU := hide (hu.chg GG.out (fun _ _ h => h))
  have HX := hide hX
  have OK := hide ok
  have SZ : Hid (((w.alloc (.cells #[.slice ba b.len bc, .int .i64 k, .int .i64 i, .slice a ag.len cap] 35)).alloc (.cells #[.slice none 0 0, .int .i64 0, .int .i64 0, .slice none 0 0] 35)).heap.size = w.heap.size + 1 + 1) := hide (by rw [al_sz, al_sz])
  clear h1 h2 hu hX ok G1 G2 B0 B1
  go_enter Tryd.func30, Tryd.ntmps30
  go_wp2_with fail
  generalize ((w.alloc (.cells #[.slice ba b.len bc, .int .i64 k, .int .i64 i, .slice a ag.len cap] 35)).alloc (.cells #[.slice none 0 0, .int .i64 0, .int .i64 0, .slice none 0 0] 35)) = w1 at *
  obtain ⟨W0, hW0⟩ : ∃ W0, w.heap.size = W0 := ⟨_, rfl⟩
  rw [hW0] at B0b B1b SZ ⊢
  have HW := hide hW0
  clear hW0
  have y0 := blk_cell B0b.out 0
  simp only [List.getElem?_toArray, List.getElem?_cons_zero] at y0
  have G3 := al w1 (.cells #[.slice ua f.len uc, .slice ba b.len bc] 31)
  have NB := blk_new w1 (.cells #[.slice ua f.len uc, .slice ba b.len bc] 31)
  have CT := hide (concat_ts w1.heap.size X _ _ f b (by omega) (by omega) _ (fun x h => Nat.lt_of_lt_of_le (HX.out x h) (Nat.le_trans GG.out.size G3.size)) (blk_cell NB 0) (blk_cell NB 1) (HU.out.chg G3 (fun _ _ h => h)) (H1.out.chg G3 (fun _ _ h => h)))
  have HG3 := hide G3
  rw [show w1.heap.size = W0 + 1 + 1 from SZ.out] at CT
  clear G3 NB
  go_wp2_with fail
  refine CT.out.mono ?_
  rintro e w2 ⟨⟨v1, rfl, t1⟩, g2⟩
  obtain ⟨a3, c3, rfl, _⟩ := id t1
  have G2 := hide (HG3.out.trans g2)
  have b0 := G2.out.blk (fun h => h) B0b.out
  have b1 := G2.out.blk (fun h => h) B1b.out
  have p0 := blk_cell b0 0
  have f0 := blk_free b0 0
  simp only [List.getElem?_toArray, List.getElem?_cons_zero] at p0
  have S0 := blk_set b0 0 (.slice a3 (f.app b).len c3)
  simp only [List.setIfInBounds_toArray, List.set_cons_zero] at S0
  have C0 := Chg.set w2 W0 0 (.slice a3 (f.app b).len c3)
  have S1 := hide (C0.blk (by omega) b1)
  have S0h := hide S0
  have CC := hide C0
  have hX0 : ∀ x, X x → x < W0 := fun x h => by have := HX.out x h; have := HW.out; omega
  have T1 := hide (t1.chg C0 (fun x hx e => by
    rcases hx with hx | hx
    · have := hX0 x hx; omega
    · rw [al_sz] at hx
      have := SZ.out
      omega))
  have T2 := hide ((H2.out.chg G2.out (fun _ _ h => h)).chg C0 (fun x hx e => by have := hX0 x hx; omega))
  have hs2 := g2.size
  rw [al_sz] at hs2
  clear t1 g2 CT b0 b1 S0 C0 H1 H2 HU hX0
  go_upto_region 2 with fail
  generalize w2.setCell ⟨W0, 0, none⟩ (.slice a3 (f.app b).len c3) = w3 at *
  clear p0 f0
  have q0 := blk_cell S0h.out 0
  have q1 := blk_cell S0h.out 1
  have q2 := blk_cell S0h.out 2
  have q3 := blk_cell S0h.out 3
  simp only [List.getElem?_toArray, List.getElem?_cons_zero, List.getElem?_cons_succ] at q0 q1 q2 q3
  have hs3 := CC.out.size
  have CP := hide (copy_any (f.app b, k, i, ag) OK.out (.agg #[.slice a3 (f.app b).len c3, .int .i64 k, .int .i64 i, .slice a ag.len cap]) (fun x => x < w3.heap.size) w3 (fun _ h => h) ⟨_, _, _, _, rfl, T1.out.up (fun x hx => by
    rcases hx with hx | hx
    · have := HX.out x hx; have := HW.out; have := SZ.out; omega
    · omega), T2.out.up (fun x hx => by have := HX.out x hx; have := HW.out; have := SZ.out; omega)⟩)
  have hw3 : W0 + 1 + 1 + 1 ≤ w3.heap.size := by have := SZ.out; omega
  clear T1 T2 hs2 hs3
  go_wp2_with fail
  refine CP.out.mono ?_
  rintro e w4 ⟨⟨v4, rfl, t4⟩, g4⟩
  obtain ⟨r1, r2, r3, r4, rfl, k1, k2⟩ := t4
  dsimp only [Tm.bs, Tm.kd, Tm.ix, Tm.ag] at *
  have b1 := g4.blk (fun h => h) S1.out
  have z0 := blk_cell b1 0
  have z1 := blk_cell b1 1
  have z2 := blk_cell b1 2
  have z3 := blk_cell b1 3
  have y0 := blk_free b1 0
  have y1 := blk_free b1 1
  have y2 := blk_free b1 2
  have y3 := blk_free b1 3
  simp only [List.getElem?_toArray, List.getElem?_cons_zero, List.getElem?_cons_succ] at z0 z1 z2 z3
  have E0 := blk_set b1 0 (.slice r1 (f.app b).len r2)
  have E1 := blk_set E0 1 (.int .i64 k)
  have E2 := blk_set E1 2 (.int .i64 i)
  have E3 := blk_set E2 3 (.slice r3 ag.len r4)
  simp only [List.setIfInBounds_toArray, List.set_cons_zero, List.set_cons_succ] at E3
  have EE := hide E3
  have D := ((((Chg.refl (fun x => x = W0 + 1) w4).setCell (p := ⟨W0 + 1, 0, none⟩) (Or.inl rfl) (.slice r1 (f.app b).len r2)).setCell (p := ⟨W0 + 1, 1, none⟩) (Or.inl rfl) (.int .i64 k)).setCell (p := ⟨W0 + 1, 2, none⟩) (Or.inl rfl) (.int .i64 i)).setCell (p := ⟨W0 + 1, 3, none⟩) (Or.inl rfl) (.slice r3 ag.len r4)
  have DD := hide D
  have GA := hide (((GG.out.trans G2.out).none.trans (CC.out.mono (T := fun x => W0 ≤ x) (fun x _ e => by omega))).trans (g4.none.trans (D.mono (T := fun x => W0 ≤ x) (fun x _ e => by omega))))
  have K1 := hide (k1.chg D (fun x hx e => by omega))
  have K2 := hide (k2.chg D (fun x hx e => by omega))
  have hs4 := D.size
  have hs5 := g4.size
  clear b1 E0 E1 E2 E3 k1 k2 g4 CP D
  go_wp2_with fail
  generalize ((((w4.setCell ⟨W0 + 1, 0, none⟩ (.slice r1 (f.app b).len r2)).setCell ⟨W0 + 1, 1, none⟩ (.int .i64 k)).setCell ⟨W0 + 1, 2, none⟩ (.int .i64 i)).setCell ⟨W0 + 1, 3, none⟩ (.slice r3 ag.len r4)) = wF at *
  have u0 := blk_cell EE.out 0
  have u1 := blk_cell EE.out 1
  have u2 := blk_cell EE.out 2
  have u3 := blk_cell EE.out 3
  refine bodyPost_ret (v := .agg #[.slice r1 (f.app b).len r2, .int .i64 k, .int .i64 i, .slice r3 ag.len r4]) (by simp [results, Tryd.results30, go_sem, u0, u1, u2, u3]) rfl ?_
  have hw := HW.out
  exact ⟨⟨_, rfl, ⟨_, _, _, _, rfl, K1.out.up (fun x hx => ⟨by omega, by omega⟩), K2.out.up (fun x hx => ⟨by omega, by omega⟩)⟩⟩, GA.out.mono (fun x hx e => by omega)⟩
end Go.Proofs.YtnpcapdlgcaniaaDoor
