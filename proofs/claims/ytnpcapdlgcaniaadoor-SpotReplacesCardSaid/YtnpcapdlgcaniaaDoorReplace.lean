/- Another body at a path, as new memory: spot.Replace. -/
import Derived.Test.YtnpcapdlgcaniaaDoorReplaced
namespace Go.Proofs.YtnpcapdlgcaniaaDoor
open Go.RowKit
set_option linter.unusedVariables false
set_option linter.unusedSimpArgs false

/-- what Replace answers, and its error -/
def rpT (t y : Tm) (p : List Int) : Option Tm := if 0 < y.bs.len then none else replG t y p
def rpE (t y : Tm) (p : List Int) : Int := if 0 < y.bs.len then 1 else rE (replG t y p)

set_option maxRecDepth 100000 in
set_option maxHeartbeats 16000000 in
theorem replace_any (t y : Tm) (p : List Int) (v bv u : Value) (X : Nat → Prop) (w : World) (ok : TmOk t) (hok : ∀ z, replG t y p = some z → TmOk z) (hX : ∀ x, X x → x < w.heap.size) (hv : TV w X v t) (hb : TV w X bv y) (hu : Ip w u p) :
    Calls Tryd.prog 17 #[v, bv, u] w fun e w' => (∃ v', e = .returned (.tuple #[v', .int .i64 (rpE t y p)]) ∧ TV w' (New X w w') v' ((rpT t y p).getD (.nil, 0, 0, .nil))) ∧ Chg (fun _ => False) w w' := by
  have HOK := hide hok
  clear hok
  by_cases hyb : 0 < y.bs.len
  · have e1 : rpT t y p = none := by unfold rpT; rw [if_pos hyb]
    have e2 : rpE t y p = 1 := by unfold rpE; rw [if_pos hyb]
    rw [e1, e2]
    clear e1 e2 HOK
    obtain ⟨b, k, i, f⟩ := t
    obtain ⟨yb, yk, yi, yf⟩ := y
    obtain ⟨ba, bc, a, cap, rfl, h1, h2⟩ := hv
    obtain ⟨ya, yc, za, zc, rfl, j1, j2⟩ := hb
    have OK := hide ok
    have HU := hide hu
    have HX := hide hX
    obtain ⟨ua, uc, rfl, _⟩ := id hu
    dsimp only [Tm.bs, Tm.kd, Tm.ix, Tm.ag] at h1 h2 j1 j2 ⊢
    have G1 := al w (.cells #[.slice ba b.len bc, .int .i64 k, .int .i64 i, .slice a f.len cap] 35)
    have b0 := blk_new w (.cells #[.slice ba b.len bc, .int .i64 k, .int .i64 i, .slice a f.len cap] 35)
    have G2 := al (w.alloc (.cells #[.slice ba b.len bc, .int .i64 k, .int .i64 i, .slice a f.len cap] 35)) (.cells #[.slice ya yb.len yc, .int .i64 yk, .int .i64 yi, .slice za yf.len zc] 35)
    have b1 := blk_new (w.alloc (.cells #[.slice ba b.len bc, .int .i64 k, .int .i64 i, .slice a f.len cap] 35)) (.cells #[.slice ya yb.len yc, .int .i64 yk, .int .i64 yi, .slice za yf.len zc] 35)
    have G3 := al ((w.alloc (.cells #[.slice ba b.len bc, .int .i64 k, .int .i64 i, .slice a f.len cap] 35)).alloc (.cells #[.slice ya yb.len yc, .int .i64 yk, .int .i64 yi, .slice za yf.len zc] 35)) (.cells #[.slice none 0 0, .int .i64 0, .int .i64 0, .slice none 0 0] 35)
    have b2 := blk_new ((w.alloc (.cells #[.slice ba b.len bc, .int .i64 k, .int .i64 i, .slice a f.len cap] 35)).alloc (.cells #[.slice ya yb.len yc, .int .i64 yk, .int .i64 yi, .slice za yf.len zc] 35)) (.cells #[.slice none 0 0, .int .i64 0, .int .i64 0, .slice none 0 0] 35)
    have b0' := G3.blk (fun h => h) (G2.blk (fun h => h) b0)
    have b1' := G3.blk (fun h => h) b1
    rw [al_sz] at b1'
    rw [al_sz, al_sz] at b2
    have GG := hide ((G1.trans G2).trans G3)
    have BP := hide b0'
    have BQ := hide b1'
    have BR := hide b2
    have sz3 : (((w.alloc (.cells #[.slice ba b.len bc, .int .i64 k, .int .i64 i, .slice a f.len cap] 35)).alloc (.cells #[.slice ya yb.len yc, .int .i64 yk, .int .i64 yi, .slice za yf.len zc] 35)).alloc (.cells #[.slice none 0 0, .int .i64 0, .int .i64 0, .slice none 0 0] 35)).heap.size = w.heap.size + 3 := by rw [al_sz, al_sz, al_sz]
    have SZ := hide sz3
    have TB0 := hide h1
    have TR0 := hide h2
    have YB0 := hide j1
    have YR0 := hide j2
    clear G1 G2 G3 b0 b1 b2 b0' b1' sz3 h1 h2 j1 j2 hu ok hX
    go_enter Tryd.func17, Tryd.ntmps17
    have hy1 : (0 : Int) < (yb.len : Int) := by dsimp only [Tm.bs] at hyb; omega
    go_upto_region 1 with fail
    generalize (((w.alloc (.cells #[.slice ba b.len bc, .int .i64 k, .int .i64 i, .slice a f.len cap] 35)).alloc (.cells #[.slice ya yb.len yc, .int .i64 yk, .int .i64 yi, .slice za yf.len zc] 35)).alloc (.cells #[.slice none 0 0, .int .i64 0, .int .i64 0, .slice none 0 0] 35)) = w1 at *
    obtain ⟨P, hP⟩ : ∃ P, w.heap.size = P := ⟨_, rfl⟩
    obtain ⟨Q, hQ⟩ : ∃ Q, P + 1 = Q := ⟨_, rfl⟩
    obtain ⟨R, hR⟩ : ∃ R, Q + 1 = R := ⟨_, rfl⟩
    have hZ := SZ.out
    rw [hP] at BP BQ BR hZ ⊢
    rw [hQ] at BQ BR ⊢
    rw [hR] at BR ⊢
    have HO : Hid (w1.heap.size = R + 1 ∧ P < Q ∧ Q < R ∧ w.heap.size = P) := hide (by refine ⟨by omega, by omega, by omega, hP⟩)
    clear hP hQ hR SZ hZ
    have x0 : w1.cell? ⟨Q, 0, none⟩ = some (.slice ya yb.len yc) := blk_cell BQ.out 0
    have b0 := blk_cell BR.out 0
    have ff0 := blk_free BR.out 0
    have b1 := blk_cell BR.out 1
    have ff1 := blk_free BR.out 1
    have b2 := blk_cell BR.out 2
    have ff2 := blk_free BR.out 2
    have b3 := blk_cell BR.out 3
    have ff3 := blk_free BR.out 3
    simp only [List.getElem?_toArray, List.getElem?_cons_zero, List.getElem?_cons_succ] at b0 b1 b2 b3
    have NZ : Hid (((((w1.setCell ⟨R, 0, none⟩ (.slice none 0 0)).setCell ⟨R, 1, none⟩ (.int .i64 0)).setCell ⟨R, 2, none⟩ (.int .i64 0)).setCell ⟨R, 3, none⟩ (.slice none 0 0)).heap[R]? = some (.cells #[.slice none 0 0, .int .i64 0, .int .i64 0, .slice none 0 0] 35) ∧ Chg (fun x => x = R) w1 ((((w1.setCell ⟨R, 0, none⟩ (.slice none 0 0)).setCell ⟨R, 1, none⟩ (.int .i64 0)).setCell ⟨R, 2, none⟩ (.int .i64 0)).setCell ⟨R, 3, none⟩ (.slice none 0 0))) := hide ⟨(blk_set (blk_set (blk_set (blk_set BR.out 0 (.slice none 0 0)) 1 (.int .i64 0)) 2 (.int .i64 0)) 3 (.slice none 0 0)), ((((Chg.set w1 R 0 (.slice none 0 0)).trans (Chg.set (w1.setCell ⟨R, 0, none⟩ (.slice none 0 0)) R 1 (.int .i64 0))).trans (Chg.set ((w1.setCell ⟨R, 0, none⟩ (.slice none 0 0)).setCell ⟨R, 1, none⟩ (.int .i64 0)) R 2 (.int .i64 0))).trans (Chg.set (((w1.setCell ⟨R, 0, none⟩ (.slice none 0 0)).setCell ⟨R, 1, none⟩ (.int .i64 0)).setCell ⟨R, 2, none⟩ (.int .i64 0)) R 3 (.slice none 0 0)))⟩
    have GZ : Hid (Chg (fun _ => False) w ((((w1.setCell ⟨R, 0, none⟩ (.slice none 0 0)).setCell ⟨R, 1, none⟩ (.int .i64 0)).setCell ⟨R, 2, none⟩ (.int .i64 0)).setCell ⟨R, 3, none⟩ (.slice none 0 0))) := hide ((((GG.out).none (S := fun x => x = R)).trans NZ.out.2).mono (fun x hx e => by have := HO.out; omega))
    go_wp2_with fail
    generalize ((((w1.setCell ⟨R, 0, none⟩ (.slice none 0 0)).setCell ⟨R, 1, none⟩ (.int .i64 0)).setCell ⟨R, 2, none⟩ (.int .i64 0)).setCell ⟨R, 3, none⟩ (.slice none 0 0)) = wF at *
    have r0 := blk_cell NZ.out.1 0
    have r1 := blk_cell NZ.out.1 1
    have r2 := blk_cell NZ.out.1 2
    have r3 := blk_cell NZ.out.1 3
    refine bodyPost_ret (v := .tuple #[.agg #[.slice none 0 0, .int .i64 0, .int .i64 0, .slice none 0 0], .int .i64 1]) (by simp [results, Tryd.results17, go_sem, r0, r1, r2, r3]) rfl ?_
    exact ⟨⟨_, rfl, TV.zero _ _⟩, GZ.out⟩
  · have e1 : rpT t y p = replG t y p := by unfold rpT; rw [if_neg hyb]
    have e2 : rpE t y p = rE (replG t y p) := by unfold rpE; rw [if_neg hyb]
    rw [e1, e2]
    clear e1 e2
    obtain ⟨b, k, i, f⟩ := t
    obtain ⟨yb, yk, yi, yf⟩ := y
    obtain ⟨ba, bc, a, cap, rfl, h1, h2⟩ := hv
    obtain ⟨ya, yc, za, zc, rfl, j1, j2⟩ := hb
    have OK := hide ok
    have HU := hide hu
    have HX := hide hX
    obtain ⟨ua, uc, rfl, _⟩ := id hu
    dsimp only [Tm.bs, Tm.kd, Tm.ix, Tm.ag] at h1 h2 j1 j2 ⊢
    have G1 := al w (.cells #[.slice ba b.len bc, .int .i64 k, .int .i64 i, .slice a f.len cap] 35)
    have b0 := blk_new w (.cells #[.slice ba b.len bc, .int .i64 k, .int .i64 i, .slice a f.len cap] 35)
    have G2 := al (w.alloc (.cells #[.slice ba b.len bc, .int .i64 k, .int .i64 i, .slice a f.len cap] 35)) (.cells #[.slice ya yb.len yc, .int .i64 yk, .int .i64 yi, .slice za yf.len zc] 35)
    have b1 := blk_new (w.alloc (.cells #[.slice ba b.len bc, .int .i64 k, .int .i64 i, .slice a f.len cap] 35)) (.cells #[.slice ya yb.len yc, .int .i64 yk, .int .i64 yi, .slice za yf.len zc] 35)
    have G3 := al ((w.alloc (.cells #[.slice ba b.len bc, .int .i64 k, .int .i64 i, .slice a f.len cap] 35)).alloc (.cells #[.slice ya yb.len yc, .int .i64 yk, .int .i64 yi, .slice za yf.len zc] 35)) (.cells #[.slice none 0 0, .int .i64 0, .int .i64 0, .slice none 0 0] 35)
    have b2 := blk_new ((w.alloc (.cells #[.slice ba b.len bc, .int .i64 k, .int .i64 i, .slice a f.len cap] 35)).alloc (.cells #[.slice ya yb.len yc, .int .i64 yk, .int .i64 yi, .slice za yf.len zc] 35)) (.cells #[.slice none 0 0, .int .i64 0, .int .i64 0, .slice none 0 0] 35)
    have b0' := G3.blk (fun h => h) (G2.blk (fun h => h) b0)
    have b1' := G3.blk (fun h => h) b1
    rw [al_sz] at b1'
    rw [al_sz, al_sz] at b2
    have GG := hide ((G1.trans G2).trans G3)
    have BP := hide b0'
    have BQ := hide b1'
    have BR := hide b2
    have sz3 : (((w.alloc (.cells #[.slice ba b.len bc, .int .i64 k, .int .i64 i, .slice a f.len cap] 35)).alloc (.cells #[.slice ya yb.len yc, .int .i64 yk, .int .i64 yi, .slice za yf.len zc] 35)).alloc (.cells #[.slice none 0 0, .int .i64 0, .int .i64 0, .slice none 0 0] 35)).heap.size = w.heap.size + 3 := by rw [al_sz, al_sz, al_sz]
    have SZ := hide sz3
    have TB0 := hide h1
    have TR0 := hide h2
    have YB0 := hide j1
    have YR0 := hide j2
    clear G1 G2 G3 b0 b1 b2 b0' b1' sz3 h1 h2 j1 j2 hu ok hX
    go_enter Tryd.func17, Tryd.ntmps17
    have hy1 : ¬ (0 : Int) < (yb.len : Int) := by dsimp only [Tm.bs] at hyb; omega
    generalize hRES : replG (b, k, i, f) (yb, yk, yi, yf) p = RS at *
    have HRES := hide hRES
    clear hRES
    go_upto_region 1 with fail
    generalize (((w.alloc (.cells #[.slice ba b.len bc, .int .i64 k, .int .i64 i, .slice a f.len cap] 35)).alloc (.cells #[.slice ya yb.len yc, .int .i64 yk, .int .i64 yi, .slice za yf.len zc] 35)).alloc (.cells #[.slice none 0 0, .int .i64 0, .int .i64 0, .slice none 0 0] 35)) = w1 at *
    obtain ⟨P, hP⟩ : ∃ P, w.heap.size = P := ⟨_, rfl⟩
    obtain ⟨Q, hQ⟩ : ∃ Q, P + 1 = Q := ⟨_, rfl⟩
    obtain ⟨R, hR⟩ : ∃ R, Q + 1 = R := ⟨_, rfl⟩
    have hZ := SZ.out
    rw [hP] at BP BQ BR hZ ⊢
    rw [hQ] at BQ BR ⊢
    rw [hR] at BR ⊢
    have HO : Hid (w1.heap.size = R + 1 ∧ P < Q ∧ Q < R ∧ w.heap.size = P) := hide (by refine ⟨by omega, by omega, by omega, hP⟩)
    clear hP hQ hR SZ hZ
    have x0 : w1.cell? ⟨P, 0, none⟩ = some (.slice ba b.len bc) := blk_cell BP.out 0
    have x1 : w1.cell? ⟨P, 1, none⟩ = some (.int .i64 k) := blk_cell BP.out 1
    have x2 : w1.cell? ⟨P, 2, none⟩ = some (.int .i64 i) := blk_cell BP.out 2
    have x3 : w1.cell? ⟨P, 3, none⟩ = some (.slice a f.len cap) := blk_cell BP.out 3
    have y0 : w1.cell? ⟨Q, 0, none⟩ = some (.slice ya yb.len yc) := blk_cell BQ.out 0
    have y1 : w1.cell? ⟨Q, 1, none⟩ = some (.int .i64 yk) := blk_cell BQ.out 1
    have y2 : w1.cell? ⟨Q, 2, none⟩ = some (.int .i64 yi) := blk_cell BQ.out 2
    have y3 : w1.cell? ⟨Q, 3, none⟩ = some (.slice za yf.len zc) := blk_cell BQ.out 3
    have CL := hide (replaced_any p (b, k, i, f) (yb, yk, yi, yf) (.agg #[.slice ba b.len bc, .int .i64 k, .int .i64 i, .slice a f.len cap]) (.agg #[.slice ya yb.len yc, .int .i64 yk, .int .i64 yi, .slice za yf.len zc]) _ X w1 OK.out (fun x hx => Nat.lt_of_lt_of_le (HX.out x hx) GG.out.size) ⟨ba, bc, a, cap, rfl, TB0.out.chg GG.out (fun _ _ h => h), TR0.out.chg GG.out (fun _ _ h => h)⟩ ⟨ya, yc, za, zc, rfl, YB0.out.chg GG.out (fun _ _ h => h), YR0.out.chg GG.out (fun _ _ h => h)⟩ (HU.out.all GG.out))
    rw [HRES.out] at CL
    clear HU HRES
    go_wp2_with fail
    refine CL.out.mono ?_
    rintro e w2 ⟨⟨v', rfl, tv⟩, g2⟩
    obtain ⟨xa, xc, va, vc, rfl, _, _⟩ := id tv
    dsimp only [Tm.bs, Tm.kd, Tm.ix, Tm.ag]
    have GA := al w2 (.cells #[.slice xa (RS.getD (.nil, 0, 0, .nil)).1.len xc, .int .i64 (RS.getD (.nil, 0, 0, .nil)).2.1, .int .i64 (RS.getD (.nil, 0, 0, .nil)).2.2.1, .slice va (RS.getD (.nil, 0, 0, .nil)).2.2.2.len vc] 35)
    have BO := hide (blk_new w2 (.cells #[.slice xa (RS.getD (.nil, 0, 0, .nil)).1.len xc, .int .i64 (RS.getD (.nil, 0, 0, .nil)).2.1, .int .i64 (RS.getD (.nil, 0, 0, .nil)).2.2.1, .slice va (RS.getD (.nil, 0, 0, .nil)).2.2.2.len vc] 35))
    have TVO := hide (tv.chg GA (fun _ _ h => h))
    have BR3 := hide ((g2.trans GA).blk (fun h => h) BR.out)
    have G3 := hide ((GG.out.trans g2).trans GA)
    have S2 : Hid (w1.heap.size ≤ w2.heap.size) := hide g2.size
    obtain ⟨ev, hev⟩ : ∃ ev, rE RS = ev := ⟨_, rfl⟩
    rw [hev]
    have HEV := hide hev
    clear hev tv g2 GA CL x0 x1 x2 x3 y0 y1 y2 y3
    go_upto_region 4 with fail
    obtain ⟨O, hO⟩ : ∃ O, w2.heap.size = O := ⟨_, rfl⟩
    rw [hO] at BO ⊢
    have HO2 : Hid (O < (w2.alloc (.cells #[.slice xa (RS.getD (.nil, 0, 0, .nil)).1.len xc, .int .i64 (RS.getD (.nil, 0, 0, .nil)).2.1, .int .i64 (RS.getD (.nil, 0, 0, .nil)).2.2.1, .slice va (RS.getD (.nil, 0, 0, .nil)).2.2.2.len vc] 35)).heap.size ∧ R < O ∧ w2.heap.size = O) := hide ⟨blk_lt BO.out, by have := HO.out; have := S2.out; omega, hO⟩
    clear hO
    have HX2 : Hid (∀ x, New X w1 w2 x → x < O ∧ (x < P ∨ R < x)) := hide (fun x hx => by have := HO.out; have := HO2.out; have := S2.out; rcases hx with hx | hx; have := HX.out x hx; omega; omega)
    generalize w2.alloc (.cells #[.slice xa (RS.getD (.nil, 0, 0, .nil)).1.len xc, .int .i64 (RS.getD (.nil, 0, 0, .nil)).2.1, .int .i64 (RS.getD (.nil, 0, 0, .nil)).2.2.1, .slice va (RS.getD (.nil, 0, 0, .nil)).2.2.2.len vc] 35) = w3 at *
    cases RS with
    | none =>
      obtain rfl : ev = 10 := HEV.out.symm
      have b0 := blk_cell BR3.out 0
      have ff0 := blk_free BR3.out 0
      have b1 := blk_cell BR3.out 1
      have ff1 := blk_free BR3.out 1
      have b2 := blk_cell BR3.out 2
      have ff2 := blk_free BR3.out 2
      have b3 := blk_cell BR3.out 3
      have ff3 := blk_free BR3.out 3
      simp only [List.getElem?_toArray, List.getElem?_cons_zero, List.getElem?_cons_succ] at b0 b1 b2 b3
      have NZ : Hid (((((w3.setCell ⟨R, 0, none⟩ (.slice none 0 0)).setCell ⟨R, 1, none⟩ (.int .i64 0)).setCell ⟨R, 2, none⟩ (.int .i64 0)).setCell ⟨R, 3, none⟩ (.slice none 0 0)).heap[R]? = some (.cells #[.slice none 0 0, .int .i64 0, .int .i64 0, .slice none 0 0] 35) ∧ Chg (fun x => x = R) w3 ((((w3.setCell ⟨R, 0, none⟩ (.slice none 0 0)).setCell ⟨R, 1, none⟩ (.int .i64 0)).setCell ⟨R, 2, none⟩ (.int .i64 0)).setCell ⟨R, 3, none⟩ (.slice none 0 0))) := hide ⟨(blk_set (blk_set (blk_set (blk_set BR3.out 0 (.slice none 0 0)) 1 (.int .i64 0)) 2 (.int .i64 0)) 3 (.slice none 0 0)), ((((Chg.set w3 R 0 (.slice none 0 0)).trans (Chg.set (w3.setCell ⟨R, 0, none⟩ (.slice none 0 0)) R 1 (.int .i64 0))).trans (Chg.set ((w3.setCell ⟨R, 0, none⟩ (.slice none 0 0)).setCell ⟨R, 1, none⟩ (.int .i64 0)) R 2 (.int .i64 0))).trans (Chg.set (((w3.setCell ⟨R, 0, none⟩ (.slice none 0 0)).setCell ⟨R, 1, none⟩ (.int .i64 0)).setCell ⟨R, 2, none⟩ (.int .i64 0)) R 3 (.slice none 0 0)))⟩
      have GZ : Hid (Chg (fun _ => False) w ((((w3.setCell ⟨R, 0, none⟩ (.slice none 0 0)).setCell ⟨R, 1, none⟩ (.int .i64 0)).setCell ⟨R, 2, none⟩ (.int .i64 0)).setCell ⟨R, 3, none⟩ (.slice none 0 0))) := hide ((((G3.out).none (S := fun x => x = R)).trans NZ.out.2).mono (fun x hx e => by have := HO.out; omega))
      go_wp2_with fail
      generalize ((((w3.setCell ⟨R, 0, none⟩ (.slice none 0 0)).setCell ⟨R, 1, none⟩ (.int .i64 0)).setCell ⟨R, 2, none⟩ (.int .i64 0)).setCell ⟨R, 3, none⟩ (.slice none 0 0)) = wF at *
      have r0 := blk_cell NZ.out.1 0
      have r1 := blk_cell NZ.out.1 1
      have r2 := blk_cell NZ.out.1 2
      have r3 := blk_cell NZ.out.1 3
      refine bodyPost_ret (v := .tuple #[.agg #[.slice none 0 0, .int .i64 0, .int .i64 0, .slice none 0 0], .int .i64 10]) (by simp [results, Tryd.results17, go_sem, r0, r1, r2, r3]) rfl ?_
      exact ⟨⟨_, rfl, TV.zero _ _⟩, GZ.out⟩
    | some z =>
      obtain rfl : ev = 0 := HEV.out.symm
      obtain ⟨z0, z1, z2, z3⟩ := z
      simp only [Option.getD_some] at *
      have x0 : w3.cell? ⟨O, 0, none⟩ = some (.slice xa z0.len xc) := blk_cell BO.out 0
      have x1 : w3.cell? ⟨O, 1, none⟩ = some (.int .i64 z1) := blk_cell BO.out 1
      have x2 : w3.cell? ⟨O, 2, none⟩ = some (.int .i64 z2) := blk_cell BO.out 2
      have x3 : w3.cell? ⟨O, 3, none⟩ = some (.slice va z3.len vc) := blk_cell BO.out 3
      have CP := hide (copy_any (z0, z1, z2, z3) (HOK.out _ rfl) _ (New X w1 w2) w3 (fun x hx => by have := (HX2.out x hx).1; have := HO2.out; omega) TVO.out)
      go_wp2_with fail
      refine CP.out.mono ?_
      rintro e w5 ⟨⟨v', rfl, t5⟩, g5⟩
      obtain ⟨ca, cc, da, dc, rfl, _, _⟩ := id t5
      dsimp only [Tm.bs, Tm.kd, Tm.ix, Tm.ag]
      have BR5 := hide (g5.blk (fun h => h) BR3.out)
      have T5 := hide t5
      have G5 := hide (G3.out.trans g5)
      have S5 : Hid (R < w3.heap.size ∧ w3.heap.size ≤ w5.heap.size) := hide ⟨by have := HO2.out; omega, g5.size⟩
      clear t5 g5 CP x0 x1 x2 x3
      have b0 := blk_cell BR5.out 0
      have ff0 := blk_free BR5.out 0
      have b1 := blk_cell BR5.out 1
      have ff1 := blk_free BR5.out 1
      have b2 := blk_cell BR5.out 2
      have ff2 := blk_free BR5.out 2
      have b3 := blk_cell BR5.out 3
      have ff3 := blk_free BR5.out 3
      simp only [List.getElem?_toArray, List.getElem?_cons_zero, List.getElem?_cons_succ] at b0 b1 b2 b3
      have NS : Hid (((((w5.setCell ⟨R, 0, none⟩ (.slice ca z0.len cc)).setCell ⟨R, 1, none⟩ (.int .i64 z1)).setCell ⟨R, 2, none⟩ (.int .i64 z2)).setCell ⟨R, 3, none⟩ (.slice da z3.len dc)).heap[R]? = some (.cells #[.slice ca z0.len cc, .int .i64 z1, .int .i64 z2, .slice da z3.len dc] 35) ∧ Chg (fun x => x = R) w5 ((((w5.setCell ⟨R, 0, none⟩ (.slice ca z0.len cc)).setCell ⟨R, 1, none⟩ (.int .i64 z1)).setCell ⟨R, 2, none⟩ (.int .i64 z2)).setCell ⟨R, 3, none⟩ (.slice da z3.len dc))) := hide ⟨(blk_set (blk_set (blk_set (blk_set BR5.out 0 (.slice ca z0.len cc)) 1 (.int .i64 z1)) 2 (.int .i64 z2)) 3 (.slice da z3.len dc)), ((((Chg.set w5 R 0 (.slice ca z0.len cc)).trans (Chg.set (w5.setCell ⟨R, 0, none⟩ (.slice ca z0.len cc)) R 1 (.int .i64 z1))).trans (Chg.set ((w5.setCell ⟨R, 0, none⟩ (.slice ca z0.len cc)).setCell ⟨R, 1, none⟩ (.int .i64 z1)) R 2 (.int .i64 z2))).trans (Chg.set (((w5.setCell ⟨R, 0, none⟩ (.slice ca z0.len cc)).setCell ⟨R, 1, none⟩ (.int .i64 z1)).setCell ⟨R, 2, none⟩ (.int .i64 z2)) R 3 (.slice da z3.len dc)))⟩
      have GF : Hid (Chg (fun _ => False) w ((((w5.setCell ⟨R, 0, none⟩ (.slice ca z0.len cc)).setCell ⟨R, 1, none⟩ (.int .i64 z1)).setCell ⟨R, 2, none⟩ (.int .i64 z2)).setCell ⟨R, 3, none⟩ (.slice da z3.len dc))) := hide (((G5.out.none (S := fun x => x = R)).trans NS.out.2).mono (fun x hx e => by have := HO.out; omega))
      have TF := hide ((T5.out.chg NS.out.2 (fun x hx e => by have := hx.1; have := S5.out; omega)).up (Y := New X w ((((w5.setCell ⟨R, 0, none⟩ (.slice ca z0.len cc)).setCell ⟨R, 1, none⟩ (.int .i64 z1)).setCell ⟨R, 2, none⟩ (.int .i64 z2)).setCell ⟨R, 3, none⟩ (.slice da z3.len dc))) (fun x hx => Or.inr ⟨by have := hx.1; have := HO.out; have := S5.out; omega, Nat.lt_of_lt_of_le hx.2 NS.out.2.size⟩))
      go_wp2_with fail
      generalize ((((w5.setCell ⟨R, 0, none⟩ (.slice ca z0.len cc)).setCell ⟨R, 1, none⟩ (.int .i64 z1)).setCell ⟨R, 2, none⟩ (.int .i64 z2)).setCell ⟨R, 3, none⟩ (.slice da z3.len dc)) = wF at *
      have r0 := blk_cell NS.out.1 0
      have r1 := blk_cell NS.out.1 1
      have r2 := blk_cell NS.out.1 2
      have r3 := blk_cell NS.out.1 3
      refine bodyPost_ret (v := .tuple #[.agg #[.slice ca z0.len cc, .int .i64 z1, .int .i64 z2, .slice da z3.len dc], .int .i64 0]) (by simp [results, Tryd.results17, go_sem, r0, r1, r2, r3]) rfl ?_
      exact ⟨⟨_, rfl, TF.out⟩, GF.out⟩
end Go.Proofs.YtnpcapdlgcaniaaDoor
