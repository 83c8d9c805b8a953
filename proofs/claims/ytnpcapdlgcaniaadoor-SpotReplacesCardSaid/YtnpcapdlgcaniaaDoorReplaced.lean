/- Another body at a path: spot.replaced. -/
import Derived.Test.YtnpcapdlgcaniaaDoorRepl
namespace Go.Proofs.YtnpcapdlgcaniaaDoor
open Go.RowKit
set_option linter.unusedVariables false
set_option linter.unusedSimpArgs false

def RepC (p : List Int) : Prop := ∀ (t y : Tm) (v bv u : Value) (X : Nat → Prop) (w : World), TmOk t → (∀ x, X x → x < w.heap.size) → TV w X v t → TV w X bv y → Ip w u p →
  Calls Tryd.prog 47 #[v, bv, u] w fun e w' => (∃ v', e = .returned (.tuple #[v', .int .i64 (rE (replG t y p))]) ∧ TV w' (New X w w') v' ((replG t y p).getD (.nil, 0, 0, .nil))) ∧ Chg (fun _ => False) w w'

set_option maxRecDepth 100000 in
set_option maxHeartbeats 32000000 in
theorem replaced_any (p : List Int) : RepC p := by
  induction p with
  | nil =>
    intro t y v bv u X w ok hX hv hb hu
    obtain ⟨b, k, i, f⟩ := t
    obtain ⟨yb, yk, yi, yf⟩ := y
    obtain ⟨ba, bc, a, cap, rfl, h1, h2⟩ := hv
    obtain ⟨ya, yc, za, zc, rfl, j1, j2⟩ := hb
    have OK := hide ok
    have HU := hide hu
    have HX := hide hX
    obtain ⟨ua, uc, rfl, _⟩ := id hu
    dsimp only [Tm.bs, Tm.kd, Tm.ix, Tm.ag] at h1 h2 j1 j2 ⊢
    have G1 := al w (.cells #[.slice ba b.len bc, .int .i64 k, .int .i64 i, .slice a f.len cap] 35)
    have b0 := blk_new w (.cells #[.slice ba b.len bc, .int .i64 k, .int .i64 i, .slice a f.len cap] 35)
    have G2 := al (w.alloc (.cells #[.slice ba b.len bc, .int .i64 k, .int .i64 i, .slice a f.len cap] 35)) (.cells #[.slice ya yb.len yc, .int .i64 yk, .int .i64 yi, .slice za yf.len zc] 35)
    have b1 := blk_new (w.alloc (.cells #[.slice ba b.len bc, .int .i64 k, .int .i64 i, .slice a f.len cap] 35)) (.cells #[.slice ya yb.len yc, .int .i64 yk, .int .i64 yi, .slice za yf.len zc] 35)
    have G3 := al ((w.alloc (.cells #[.slice ba b.len bc, .int .i64 k, .int .i64 i, .slice a f.len cap] 35)).alloc (.cells #[.slice ya yb.len yc, .int .i64 yk, .int .i64 yi, .slice za yf.len zc] 35)) (.cells #[.slice none 0 0, .int .i64 0, .int .i64 0, .slice none 0 0] 35)
    have b2 := blk_new ((w.alloc (.cells #[.slice ba b.len bc, .int .i64 k, .int .i64 i, .slice a f.len cap] 35)).alloc (.cells #[.slice ya yb.len yc, .int .i64 yk, .int .i64 yi, .slice za yf.len zc] 35)) (.cells #[.slice none 0 0, .int .i64 0, .int .i64 0, .slice none 0 0] 35)
    have b0' := G3.blk (fun h => h) (G2.blk (fun h => h) b0)
    have b1' := G3.blk (fun h => h) b1
    rw [al_sz] at b1'
    rw [al_sz, al_sz] at b2
    have GG := hide ((G1.trans G2).trans G3)
    have BP := hide b0'
    have BQ := hide b1'
    have BR := hide b2
    have sz3 : (((w.alloc (.cells #[.slice ba b.len bc, .int .i64 k, .int .i64 i, .slice a f.len cap] 35)).alloc (.cells #[.slice ya yb.len yc, .int .i64 yk, .int .i64 yi, .slice za yf.len zc] 35)).alloc (.cells #[.slice none 0 0, .int .i64 0, .int .i64 0, .slice none 0 0] 35)).heap.size = w.heap.size + 3 := by rw [al_sz, al_sz, al_sz]
    have SZ := hide sz3
    have TB0 := hide h1
    have TR0 := hide h2
    have YB0 := hide j1
    have YR0 := hide j2
    clear G1 G2 G3 b0 b1 b2 b0' b1' sz3 h1 h2 j1 j2 hu ok hX
    go_enter Tryd.func47, Tryd.ntmps47
    clear HU
    have RR : Hid (replG (b, k, i, f) (yb, yk, yi, yf) [] = some (b, yk, yi, yf)) := hide rfl
    go_upto_region 2 with fail
    generalize (((w.alloc (.cells #[.slice ba b.len bc, .int .i64 k, .int .i64 i, .slice a f.len cap] 35)).alloc (.cells #[.slice ya yb.len yc, .int .i64 yk, .int .i64 yi, .slice za yf.len zc] 35)).alloc (.cells #[.slice none 0 0, .int .i64 0, .int .i64 0, .slice none 0 0] 35)) = w1 at *
    obtain ⟨P, hP⟩ : ∃ P, w.heap.size = P := ⟨_, rfl⟩
    obtain ⟨Q, hQ⟩ : ∃ Q, P + 1 = Q := ⟨_, rfl⟩
    obtain ⟨R, hR⟩ : ∃ R, Q + 1 = R := ⟨_, rfl⟩
    have hZ := SZ.out
    rw [hP] at BP BQ BR hZ ⊢
    rw [hQ] at BQ BR ⊢
    rw [hR] at BR ⊢
    have HO : Hid (w1.heap.size = R + 1 ∧ P < Q ∧ Q < R ∧ w.heap.size = P) := hide (by refine ⟨by omega, by omega, by omega, hP⟩)
    clear hP hQ hR SZ hZ
    have x0 : w1.cell? ⟨P, 0, none⟩ = some (.slice ba b.len bc) := blk_cell BP.out 0
    have x1 : w1.cell? ⟨Q, 1, none⟩ = some (.int .i64 yk) := blk_cell BQ.out 1
    have x2 : w1.cell? ⟨Q, 2, none⟩ = some (.int .i64 yi) := blk_cell BQ.out 2
    have x3 : w1.cell? ⟨Q, 3, none⟩ = some (.slice za yf.len zc) := blk_cell BQ.out 3
    have bb0 := blk_cell BR.out 0
    have fb0 := blk_free BR.out 0
    have bb1 := blk_cell BR.out 1
    have fb1 := blk_free BR.out 1
    have bb2 := blk_cell BR.out 2
    have fb2 := blk_free BR.out 2
    have bb3 := blk_cell BR.out 3
    have fb3 := blk_free BR.out 3
    simp only [List.getElem?_toArray, List.getElem?_cons_zero, List.getElem?_cons_succ] at bb0 bb1 bb2 bb3
    have NS : Hid (((((w1.setCell ⟨R, 0, none⟩ (.slice ba b.len bc)).setCell ⟨R, 1, none⟩ (.int .i64 yk)).setCell ⟨R, 2, none⟩ (.int .i64 yi)).setCell ⟨R, 3, none⟩ (.slice za yf.len zc)).heap[R]? = some (.cells #[.slice ba b.len bc, .int .i64 yk, .int .i64 yi, .slice za yf.len zc] 35) ∧ Chg (fun x => x = R) w1 ((((w1.setCell ⟨R, 0, none⟩ (.slice ba b.len bc)).setCell ⟨R, 1, none⟩ (.int .i64 yk)).setCell ⟨R, 2, none⟩ (.int .i64 yi)).setCell ⟨R, 3, none⟩ (.slice za yf.len zc))) := hide ⟨(blk_set (blk_set (blk_set (blk_set BR.out 0 (.slice ba b.len bc)) 1 (.int .i64 yk)) 2 (.int .i64 yi)) 3 (.slice za yf.len zc)), ((((Chg.set w1 R 0 (.slice ba b.len bc)).trans (Chg.set (w1.setCell ⟨R, 0, none⟩ (.slice ba b.len bc)) R 1 (.int .i64 yk))).trans (Chg.set ((w1.setCell ⟨R, 0, none⟩ (.slice ba b.len bc)).setCell ⟨R, 1, none⟩ (.int .i64 yk)) R 2 (.int .i64 yi))).trans (Chg.set (((w1.setCell ⟨R, 0, none⟩ (.slice ba b.len bc)).setCell ⟨R, 1, none⟩ (.int .i64 yk)).setCell ⟨R, 2, none⟩ (.int .i64 yi)) R 3 (.slice za yf.len zc)))⟩
    have GF : Hid (Chg (fun _ => False) w ((((w1.setCell ⟨R, 0, none⟩ (.slice ba b.len bc)).setCell ⟨R, 1, none⟩ (.int .i64 yk)).setCell ⟨R, 2, none⟩ (.int .i64 yi)).setCell ⟨R, 3, none⟩ (.slice za yf.len zc))) := hide (((GG.out.none (S := fun x => x = R)).trans NS.out.2).mono (fun x hx e => by have := HO.out; omega))
    go_wp2_with fail
    generalize ((((w1.setCell ⟨R, 0, none⟩ (.slice ba b.len bc)).setCell ⟨R, 1, none⟩ (.int .i64 yk)).setCell ⟨R, 2, none⟩ (.int .i64 yi)).setCell ⟨R, 3, none⟩ (.slice za yf.len zc)) = wF at *
    have r0 := blk_cell NS.out.1 0
    have r1 := blk_cell NS.out.1 1
    have r2 := blk_cell NS.out.1 2
    have r3 := blk_cell NS.out.1 3
    refine bodyPost_ret (v := .tuple #[.agg #[.slice ba b.len bc, .int .i64 yk, .int .i64 yi, .slice za yf.len zc], .int .i64 0]) (by simp [results, Tryd.results47, go_sem, r0, r1, r2, r3]) rfl ?_
    exact ⟨⟨_, by rw [RR.out]; rfl, by rw [RR.out]; exact ⟨ba, bc, za, zc, rfl, (TB0.out.chg GF.out (fun _ _ h => h)).up (fun x hx => Or.inl hx), (YR0.out.chg GF.out (fun _ _ h => h)).up (fun x hx => Or.inl hx)⟩⟩, GF.out⟩
  | cons n p ih =>
    intro t y v bv u X w ok hX hv hb hu
    have IH := hide ih
    clear ih
    obtain ⟨b, k, i, f⟩ := t
    obtain ⟨yb, yk, yi, yf⟩ := y
    obtain ⟨ba, bc, a, cap, rfl, h1, h2⟩ := hv
    obtain ⟨ya, yc, za, zc, rfl, j1, j2⟩ := hb
    have OK := hide ok
    have HU := hide hu
    have HX := hide hX
    obtain ⟨ua, uc, rfl, _⟩ := id hu
    dsimp only [Tm.bs, Tm.kd, Tm.ix, Tm.ag] at h1 h2 j1 j2 ⊢
    have G1 := al w (.cells #[.slice ba b.len bc, .int .i64 k, .int .i64 i, .slice a f.len cap] 35)
    have b0 := blk_new w (.cells #[.slice ba b.len bc, .int .i64 k, .int .i64 i, .slice a f.len cap] 35)
    have G2 := al (w.alloc (.cells #[.slice ba b.len bc, .int .i64 k, .int .i64 i, .slice a f.len cap] 35)) (.cells #[.slice ya yb.len yc, .int .i64 yk, .int .i64 yi, .slice za yf.len zc] 35)
    have b1 := blk_new (w.alloc (.cells #[.slice ba b.len bc, .int .i64 k, .int .i64 i, .slice a f.len cap] 35)) (.cells #[.slice ya yb.len yc, .int .i64 yk, .int .i64 yi, .slice za yf.len zc] 35)
    have G3 := al ((w.alloc (.cells #[.slice ba b.len bc, .int .i64 k, .int .i64 i, .slice a f.len cap] 35)).alloc (.cells #[.slice ya yb.len yc, .int .i64 yk, .int .i64 yi, .slice za yf.len zc] 35)) (.cells #[.slice none 0 0, .int .i64 0, .int .i64 0, .slice none 0 0] 35)
    have b2 := blk_new ((w.alloc (.cells #[.slice ba b.len bc, .int .i64 k, .int .i64 i, .slice a f.len cap] 35)).alloc (.cells #[.slice ya yb.len yc, .int .i64 yk, .int .i64 yi, .slice za yf.len zc] 35)) (.cells #[.slice none 0 0, .int .i64 0, .int .i64 0, .slice none 0 0] 35)
    have b0' := G3.blk (fun h => h) (G2.blk (fun h => h) b0)
    have b1' := G3.blk (fun h => h) b1
    rw [al_sz] at b1'
    rw [al_sz, al_sz] at b2
    have GG := hide ((G1.trans G2).trans G3)
    have BP := hide b0'
    have BQ := hide b1'
    have BR := hide b2
    have sz3 : (((w.alloc (.cells #[.slice ba b.len bc, .int .i64 k, .int .i64 i, .slice a f.len cap] 35)).alloc (.cells #[.slice ya yb.len yc, .int .i64 yk, .int .i64 yi, .slice za yf.len zc] 35)).alloc (.cells #[.slice none 0 0, .int .i64 0, .int .i64 0, .slice none 0 0] 35)).heap.size = w.heap.size + 3 := by rw [al_sz, al_sz, al_sz]
    have SZ := hide sz3
    have TB0 := hide h1
    have TR0 := hide h2
    have YB0 := hide j1
    have YR0 := hide j2
    clear G1 G2 G3 b0 b1 b2 b0' b1' sz3 h1 h2 j1 j2 hu ok hX
    go_enter Tryd.func47, Tryd.ntmps47
    obtain ⟨g0, off0, pc, pa, e0, pl1, pl2, pd, psl, pip⟩ := HU.out.tail
    injection e0 with e0 e1 e2
    subst e0 e2
    simp only [List.length_cons] at e1
    clear e1 HU
    have PSL := hide psl
    have PIP := hide pip
    clear pip
    generalize hRES : replG (b, k, i, f) (yb, yk, yi, yf) (n :: p) = RES
    have HR := hide hRES
    clear hRES
    have q0 := GG.out.cell (fun h => h) pd
    clear pd psl
    have hpn : (List.length (n :: p) : Nat) = p.length + 1 := rfl
    rw [hpn] at *
    have hp1 : (0 : Int) < (p.length : Int) + 1 := by omega
    go_upto_region 4 with fail
    generalize (((w.alloc (.cells #[.slice ba b.len bc, .int .i64 k, .int .i64 i, .slice a f.len cap] 35)).alloc (.cells #[.slice ya yb.len yc, .int .i64 yk, .int .i64 yi, .slice za yf.len zc] 35)).alloc (.cells #[.slice none 0 0, .int .i64 0, .int .i64 0, .slice none 0 0] 35)) = w1 at *
    obtain ⟨P, hP⟩ : ∃ P, w.heap.size = P := ⟨_, rfl⟩
    obtain ⟨Q, hQ⟩ : ∃ Q, P + 1 = Q := ⟨_, rfl⟩
    obtain ⟨R, hR⟩ : ∃ R, Q + 1 = R := ⟨_, rfl⟩
    have hZ := SZ.out
    rw [hP] at BP BQ BR hZ ⊢
    rw [hQ] at BQ BR ⊢
    rw [hR] at BR ⊢
    have HO : Hid (w1.heap.size = R + 1 ∧ P < Q ∧ Q < R ∧ w.heap.size = P) := hide (by refine ⟨by omega, by omega, by omega, hP⟩)
    clear hP hQ hR SZ hZ
    have p3 : w1.cell? ⟨P, 3, none⟩ = some (.slice a f.len cap) := blk_cell BP.out 3
    obtain ⟨D, hD⟩ : ∃ D, (decide (n < 0) || decide ((f.len : Int) ≤ n)) = D := ⟨_, rfl⟩
    have HD := hide hD
    clear hD
    go_cut [32] (fun sv wx => sv = .bool D ∧ w1 = wx)
    case first =>
      by_cases e1 : n < 0
      · have e1' : decide (n < 0) = true := by simpa using e1
        have HD2 : Hid (D = true) := hide (by rw [← HD.out, e1']; rfl)
        clear e1
        go_wp2_with fail
        go_meet
        exact ⟨by rw [HD2.out], rfl⟩
      · have e1' : decide (n < 0) = false := by simpa using e1
        have HD2 : Hid (D = decide ((f.len : Int) ≤ n)) := hide (by rw [← HD.out, e1']; rfl)
        clear e1
        go_wp2_with fail
        go_meet
        exact ⟨by rw [HD2.out], rfl⟩
    case rest =>
    obtain ⟨rfl, rfl⟩ := hcut
    clear q0
    cases D
    rotate_left
    · have EN : Hid (RES = none) := hide (by
        rw [← HR.out]
        simp only [replG]
        rw [Tm.sub_none (by have h := HD.out; simp only [Bool.or_eq_true, decide_eq_true_eq] at h; exact h)])
      have b0 := blk_cell BR.out 0
      have ff0 := blk_free BR.out 0
      have b1 := blk_cell BR.out 1
      have ff1 := blk_free BR.out 1
      have b2 := blk_cell BR.out 2
      have ff2 := blk_free BR.out 2
      have b3 := blk_cell BR.out 3
      have ff3 := blk_free BR.out 3
      simp only [List.getElem?_toArray, List.getElem?_cons_zero, List.getElem?_cons_succ] at b0 b1 b2 b3
      have NZ : Hid (((((w1.setCell ⟨R, 0, none⟩ (.slice none 0 0)).setCell ⟨R, 1, none⟩ (.int .i64 0)).setCell ⟨R, 2, none⟩ (.int .i64 0)).setCell ⟨R, 3, none⟩ (.slice none 0 0)).heap[R]? = some (.cells #[.slice none 0 0, .int .i64 0, .int .i64 0, .slice none 0 0] 35) ∧ Chg (fun x => x = R) w1 ((((w1.setCell ⟨R, 0, none⟩ (.slice none 0 0)).setCell ⟨R, 1, none⟩ (.int .i64 0)).setCell ⟨R, 2, none⟩ (.int .i64 0)).setCell ⟨R, 3, none⟩ (.slice none 0 0))) := hide ⟨(blk_set (blk_set (blk_set (blk_set BR.out 0 (.slice none 0 0)) 1 (.int .i64 0)) 2 (.int .i64 0)) 3 (.slice none 0 0)), ((((Chg.set w1 R 0 (.slice none 0 0)).trans (Chg.set (w1.setCell ⟨R, 0, none⟩ (.slice none 0 0)) R 1 (.int .i64 0))).trans (Chg.set ((w1.setCell ⟨R, 0, none⟩ (.slice none 0 0)).setCell ⟨R, 1, none⟩ (.int .i64 0)) R 2 (.int .i64 0))).trans (Chg.set (((w1.setCell ⟨R, 0, none⟩ (.slice none 0 0)).setCell ⟨R, 1, none⟩ (.int .i64 0)).setCell ⟨R, 2, none⟩ (.int .i64 0)) R 3 (.slice none 0 0)))⟩
      have GZ : Hid (Chg (fun _ => False) w ((((w1.setCell ⟨R, 0, none⟩ (.slice none 0 0)).setCell ⟨R, 1, none⟩ (.int .i64 0)).setCell ⟨R, 2, none⟩ (.int .i64 0)).setCell ⟨R, 3, none⟩ (.slice none 0 0))) := hide ((((GG.out).none (S := fun x => x = R)).trans NZ.out.2).mono (fun x hx e => by have := HO.out; omega))
      go_wp2_with fail
      generalize ((((w1.setCell ⟨R, 0, none⟩ (.slice none 0 0)).setCell ⟨R, 1, none⟩ (.int .i64 0)).setCell ⟨R, 2, none⟩ (.int .i64 0)).setCell ⟨R, 3, none⟩ (.slice none 0 0)) = wF at *
      have r0 := blk_cell NZ.out.1 0
      have r1 := blk_cell NZ.out.1 1
      have r2 := blk_cell NZ.out.1 2
      have r3 := blk_cell NZ.out.1 3
      refine bodyPost_ret (v := .tuple #[.agg #[.slice none 0 0, .int .i64 0, .int .i64 0, .slice none 0 0], .int .i64 10]) (by simp [results, Tryd.results47, go_sem, r0, r1, r2, r3]) rfl ?_
      exact ⟨⟨_, by rw [EN.out]; rfl, by rw [EN.out]; exact TV.zero _ _⟩, GZ.out⟩
    · have hb : ¬ n < 0 ∧ ¬ (f.len : Int) ≤ n := by
        have h := HD.out
        simp only [Bool.or_eq_false_iff, decide_eq_false_iff_not] at h
        exact h
      obtain ⟨m, rfl⟩ : ∃ m : Nat, n = (m : Int) := ⟨n.toNat, by omega⟩
      have hm : m < f.len := by omega
      have hmt : m < f.toL.length := by rw [Tms.toL_len]; exact hm
      have SUB : Tm.sub (b, k, i, f) (m : Int) = some f.toL[m] := Tm.sub_some (t := (b, k, i, f)) hmt
      have OKm := hide (sub_ok OK.out (t := (b, k, i, f)) hmt)
      have HR2 : Hid ((replG f.toL[m] (yb, yk, yi, yf) p).map (fun z => (b, k, i, f.setT m z)) = RES) := hide (by
        rw [← HR.out]
        simp only [replG]
        rw [SUB]
        rfl)
      obtain ⟨la, lc, hlv, hl⟩ := TR0.out
      rcases hl with h0 | ⟨g, off, rfl, hg, hl⟩
      · rw [h0] at hm; exact absurd hm (Nat.not_lt_zero _)
      injection hlv with e1 e2 e3
      subst e1 e3
      obtain ⟨⟨vkb, c0, tb⟩, c1, c2, vi, c3, ti⟩ := tlies_get hl m hmt
      obtain ⟨kba, kbc, rfl, _⟩ := id tb
      obtain ⟨ka, kc, rfl, _⟩ := id ti
      have HG := hide (HX.out g hg)
      have i1 : (0 : Int) ≤ (m : Int) := by omega
      have i2 : (m : Int) < (f.len : Int) := by omega
      have i3 : f.len ≤ 1000000 := OK.out.2.2.1
      have y0 := GG.out.cell (fun h => h) c0
      have y1 := GG.out.cell (fun h => h) c1
      have y2 := GG.out.cell (fun h => h) c2
      have y3 := GG.out.cell (fun h => h) c3
      have KJ := hide (fun w' (gg : Chg (fun _ => False) w1 w') => IH.out f.toL[m] (yb, yk, yi, yf) (.agg #[.slice kba (f.toL[m]).bs.len kbc, .int .i64 (f.toL[m]).kd, .int .i64 (f.toL[m]).ix, .slice ka (f.toL[m]).ag.len kc]) (.agg #[.slice ya yb.len yc, .int .i64 yk, .int .i64 yi, .slice za yf.len zc]) _ X w' OKm.out (fun x hx => Nat.lt_of_lt_of_le (HX.out x hx) (GG.out.trans gg).size) ⟨kba, kbc, ka, kc, rfl, tb.chg (GG.out.trans gg) (fun _ _ h => h), ti.chg (GG.out.trans gg) (fun _ _ h => h)⟩ ⟨ya, yc, za, zc, rfl, YB0.out.chg (GG.out.trans gg) (fun _ _ h => h), YR0.out.chg (GG.out.trans gg) (fun _ _ h => h)⟩ (PIP.out.all (GG.out.trans gg)))
      have HLIE := hide hl
      have HMT := hide hmt
      have HM := hide hm
      clear hl c0 c1 c2 c3 tb ti hb hm SUB OKm HD HR
      generalize replG f.toL[m] (yb, yk, yi, yf) p = RS at *
      dsimp only [Tm.bs, Tm.kd, Tm.ix, Tm.ag] at y0 y1 y2 y3 KJ
      generalize (f.toL[m]).1 = s0 at *
      generalize (f.toL[m]).2.1 = s1 at *
      generalize (f.toL[m]).2.2.1 = s2 at *
      generalize (f.toL[m]).2.2.2 = s3 at *
      have y4 : w1.cell? ⟨P, 3, none⟩ = some (.slice (some ⟨g, off, none⟩) f.len cap) := p3
      have y5 : w1.cell? ⟨Q, 0, none⟩ = some (.slice ya yb.len yc) := blk_cell BQ.out 0
      have y6 : w1.cell? ⟨Q, 1, none⟩ = some (.int .i64 yk) := blk_cell BQ.out 1
      have y7 : w1.cell? ⟨Q, 2, none⟩ = some (.int .i64 yi) := blk_cell BQ.out 2
      have y8 : w1.cell? ⟨Q, 3, none⟩ = some (.slice za yf.len zc) := blk_cell BQ.out 3
      clear p3
      go_upto_region 6 with fail
      go_cut [9, 10] (fun s9 s10 wx => ∃ (O : Nat) (xa : Option Addr) (xc : Nat) (va : Option Addr) (vc : Nat) (ev : Int), s9 = .pointer (some ⟨O, 0, none⟩) ∧ s10 = .int .i64 ev ∧ Hid (ev = rE RS) ∧ Hid (wx.heap[O]? = some (.cells #[.slice xa (RS.getD (.nil, 0, 0, .nil)).1.len xc, .int .i64 (RS.getD (.nil, 0, 0, .nil)).2.1, .int .i64 (RS.getD (.nil, 0, 0, .nil)).2.2.1, .slice va (RS.getD (.nil, 0, 0, .nil)).2.2.2.len vc] 35)) ∧ Hid (TV wx (New X w1 wx) (.agg #[.slice xa (RS.getD (.nil, 0, 0, .nil)).1.len xc, .int .i64 (RS.getD (.nil, 0, 0, .nil)).2.1, .int .i64 (RS.getD (.nil, 0, 0, .nil)).2.2.1, .slice va (RS.getD (.nil, 0, 0, .nil)).2.2.2.len vc]) (RS.getD (.nil, 0, 0, .nil))) ∧ Hid (Chg (fun _ => False) w1 wx ∧ w1.heap.size ≤ O))
      case first =>
        have psl := PSL.out
        refine wp_region_held_drew (S := (fun w' => w'.cell? ⟨g, off + m * 4, none⟩ = some (.slice kba s0.len kbc) ∧ w'.cell? ⟨g, off + m * 4 + 1, none⟩ = some (.int .i64 s1) ∧ w'.cell? ⟨g, off + m * 4 + 2, none⟩ = some (.int .i64 s2) ∧ w'.cell? ⟨g, off + m * 4 + 3, none⟩ = some (.slice ka s3.len kc) ∧ w'.cell? ⟨P, 3, none⟩ = some (.slice (some ⟨g, off, none⟩) f.len cap) ∧ w'.cell? ⟨Q, 0, none⟩ = some (.slice ya yb.len yc) ∧ w'.cell? ⟨Q, 1, none⟩ = some (.int .i64 yk) ∧ w'.cell? ⟨Q, 2, none⟩ = some (.int .i64 yi) ∧ w'.cell? ⟨Q, 3, none⟩ = some (.slice za yf.len zc))) (by kernel_rfl) (by go_keep) (fun hHeld => ?_)
        first
          | (refine wpAnyH_take (i := 0) (v := undef) rfl (by kernel_rfl) (by kernel_rfl) (by kernel_rfl) (fun _ _ _ h => h) (Or.inr ⟨by rfl, rfl⟩) (by assumption) ?_)
          | (refine wpAnyH_take (i := 0) (v := ?_) rfl (by kernel_rfl) (by kernel_rfl) (by kernel_rfl) (fun _ _ _ h => h) (Or.inl ⟨by rfl, ?_⟩) (by assumption) ?_
             rotate_left
             (intro w hSw
              (try dsimp only at hSw)
              (go_simp <;> with_reducible rfl)))
        try simp only [Act.put, List.getElem_toArray, List.getElem_cons_zero, List.getElem_cons_succ, List.setIfInBounds_toArray, List.set_cons_zero, List.set_cons_succ]
        first
          | (refine wpAnyH_take (i := 1) (v := undef) rfl (by kernel_rfl) (by kernel_rfl) (by kernel_rfl) (fun _ _ _ h => h) (Or.inr ⟨by rfl, rfl⟩) (by assumption) ?_)
          | (refine wpAnyH_take (i := 1) (v := ?_) rfl (by kernel_rfl) (by kernel_rfl) (by kernel_rfl) (fun _ _ _ h => h) (Or.inl ⟨by rfl, ?_⟩) (by assumption) ?_
             rotate_left
             (intro w hSw
              (try dsimp only at hSw)
              (go_simp <;> with_reducible rfl)))
        try simp only [Act.put, List.getElem_toArray, List.getElem_cons_zero, List.getElem_cons_succ, List.setIfInBounds_toArray, List.set_cons_zero, List.set_cons_succ]
        first
          | (refine wpAnyH_take (i := 2) (v := undef) rfl (by kernel_rfl) (by kernel_rfl) (by kernel_rfl) (fun _ _ _ h => h) (Or.inr ⟨by rfl, rfl⟩) (by assumption) ?_)
          | (refine wpAnyH_take (i := 2) (v := ?_) rfl (by kernel_rfl) (by kernel_rfl) (by kernel_rfl) (fun _ _ _ h => h) (Or.inl ⟨by rfl, ?_⟩) (by assumption) ?_
             rotate_left
             (intro w hSw
              (try dsimp only at hSw)
              (go_simp <;> with_reducible rfl)))
        try simp only [Act.put, List.getElem_toArray, List.getElem_cons_zero, List.getElem_cons_succ, List.setIfInBounds_toArray, List.set_cons_zero, List.set_cons_succ]
        first
          | (refine wpAnyH_take (i := 3) (v := undef) rfl (by kernel_rfl) (by kernel_rfl) (by kernel_rfl) (fun _ _ _ h => h) (Or.inr ⟨by rfl, rfl⟩) (by assumption) ?_)
          | (refine wpAnyH_take (i := 3) (v := ?_) rfl (by kernel_rfl) (by kernel_rfl) (by kernel_rfl) (fun _ _ _ h => h) (Or.inl ⟨by rfl, ?_⟩) (by assumption) ?_
             rotate_left
             (intro w hSw
              (try dsimp only at hSw)
              (go_simp <;> with_reducible rfl)))
        try simp only [Act.put, List.getElem_toArray, List.getElem_cons_zero, List.getElem_cons_succ, List.setIfInBounds_toArray, List.set_cons_zero, List.set_cons_succ]
        first
          | (refine wpAnyH_take (i := 4) (v := undef) rfl (by kernel_rfl) (by kernel_rfl) (by kernel_rfl) (fun _ _ _ h => h) (Or.inr ⟨by rfl, rfl⟩) (by assumption) ?_)
          | (refine wpAnyH_take (i := 4) (v := ?_) rfl (by kernel_rfl) (by kernel_rfl) (by kernel_rfl) (fun _ _ _ h => h) (Or.inl ⟨by rfl, ?_⟩) (by assumption) ?_
             rotate_left
             (intro w hSw
              (try dsimp only at hSw)
              (go_simp <;> with_reducible rfl)))
        try simp only [Act.put, List.getElem_toArray, List.getElem_cons_zero, List.getElem_cons_succ, List.setIfInBounds_toArray, List.set_cons_zero, List.set_cons_succ]
        first
          | (refine wpAnyH_take (i := 5) (v := undef) rfl (by kernel_rfl) (by kernel_rfl) (by kernel_rfl) (fun _ _ _ h => h) (Or.inr ⟨by rfl, rfl⟩) (by assumption) ?_)
          | (refine wpAnyH_take (i := 5) (v := ?_) rfl (by kernel_rfl) (by kernel_rfl) (by kernel_rfl) (fun _ _ _ h => h) (Or.inl ⟨by rfl, ?_⟩) (by assumption) ?_
             rotate_left
             (intro w hSw
              (try dsimp only at hSw)
              (go_simp <;> with_reducible rfl)))
        try simp only [Act.put, List.getElem_toArray, List.getElem_cons_zero, List.getElem_cons_succ, List.setIfInBounds_toArray, List.set_cons_zero, List.set_cons_succ]
        first
          | (refine wpAnyH_take (i := 6) (v := undef) rfl (by kernel_rfl) (by kernel_rfl) (by kernel_rfl) (fun _ _ _ h => h) (Or.inr ⟨by rfl, rfl⟩) (by assumption) ?_)
          | (refine wpAnyH_take (i := 6) (v := ?_) rfl (by kernel_rfl) (by kernel_rfl) (by kernel_rfl) (fun _ _ _ h => h) (Or.inl ⟨by rfl, ?_⟩) (by assumption) ?_
             rotate_left
             (intro w hSw
              (try dsimp only at hSw)
              (go_simp <;> with_reducible rfl)))
        try simp only [Act.put, List.getElem_toArray, List.getElem_cons_zero, List.getElem_cons_succ, List.setIfInBounds_toArray, List.set_cons_zero, List.set_cons_succ]
        first
          | (refine wpAnyH_take (i := 7) (v := undef) rfl (by kernel_rfl) (by kernel_rfl) (by kernel_rfl) (fun _ _ _ h => h) (Or.inr ⟨by rfl, rfl⟩) (by assumption) ?_)
          | (refine wpAnyH_take (i := 7) (v := ?_) rfl (by kernel_rfl) (by kernel_rfl) (by kernel_rfl) (fun _ _ _ h => h) (Or.inl ⟨by rfl, ?_⟩) (by assumption) ?_
             rotate_left
             (intro w hSw
              (try dsimp only at hSw)
              (go_simp <;> with_reducible rfl)))
        try simp only [Act.put, List.getElem_toArray, List.getElem_cons_zero, List.getElem_cons_succ, List.setIfInBounds_toArray, List.set_cons_zero, List.set_cons_succ]
        refine wpAnyH_ready (rs := [8, 12]) (by kernel_rfl) (by simp) ?_
        refine AllReadyH.cons (i := 8) (o := _) rfl (fun K hK => ?_) ?_
        · go_simp
          refine (KJ.out _ (Chg.refl (fun _ => False) w1).drew).mono ?_
          rintro e w6 ⟨⟨v', rfl, t6⟩, g6⟩
          obtain ⟨xa, xc, va, vc, rfl, _, _⟩ := id t6
          dsimp only [Tm.bs, Tm.kd, Tm.ix, Tm.ag]
          have g6' := (Chg.refl (fun _ => False) w1).drew.trans g6
          have y0a := g6'.cell (fun h => h) y0
          have y1a := g6'.cell (fun h => h) y1
          have y2a := g6'.cell (fun h => h) y2
          have y3a := g6'.cell (fun h => h) y3
          have y4a := g6'.cell (fun h => h) y4
          have y5a := g6'.cell (fun h => h) y5
          have y6a := g6'.cell (fun h => h) y6
          have y7a := g6'.cell (fun h => h) y7
          have y8a := g6'.cell (fun h => h) y8
          have T6 := hide t6
          have G6 := hide g6'
          clear t6 g6 g6'
          go_simp
          refine hK.out _ _ ⟨y0a, y1a, y2a, y3a, y4a, y5a, y6a, y7a, y8a⟩ (fun hHeld => ?_)
          clear hK K
          try simp only [Act.put, List.getElem_toArray, List.getElem_cons_zero, List.getElem_cons_succ, List.setIfInBounds_toArray, List.set_cons_zero, List.set_cons_succ]
          first
            | (refine wpAnyH_take (i := 9) (v := undef) rfl (by kernel_rfl) (by kernel_rfl) (by kernel_rfl) (fun _ _ _ h => h) (Or.inr ⟨by rfl, rfl⟩) (by assumption) ?_)
            | (refine wpAnyH_take (i := 9) (v := ?_) rfl (by kernel_rfl) (by kernel_rfl) (by kernel_rfl) (fun _ _ _ h => h) (Or.inl ⟨by rfl, ?_⟩) (by assumption) ?_
               rotate_left
               (intro w hSw
                (try dsimp only at hSw)
                (go_simp <;> with_reducible rfl)))
          try simp only [Act.put, List.getElem_toArray, List.getElem_cons_zero, List.getElem_cons_succ, List.setIfInBounds_toArray, List.set_cons_zero, List.set_cons_succ]
          first
            | (refine wpAnyH_take (i := 10) (v := undef) rfl (by kernel_rfl) (by kernel_rfl) (by kernel_rfl) (fun _ _ _ h => h) (Or.inr ⟨by rfl, rfl⟩) (by assumption) ?_)
            | (refine wpAnyH_take (i := 10) (v := ?_) rfl (by kernel_rfl) (by kernel_rfl) (by kernel_rfl) (fun _ _ _ h => h) (Or.inl ⟨by rfl, ?_⟩) (by assumption) ?_
               rotate_left
               (intro w hSw
                (try dsimp only at hSw)
                (go_simp <;> with_reducible rfl)))
          try simp only [Act.put, List.getElem_toArray, List.getElem_cons_zero, List.getElem_cons_succ, List.setIfInBounds_toArray, List.set_cons_zero, List.set_cons_succ]
          first
            | (refine wpAnyH_take (i := 11) (v := undef) rfl (by kernel_rfl) (by kernel_rfl) (by kernel_rfl) (fun _ _ _ h => h) (Or.inr ⟨by rfl, rfl⟩) (by assumption) ?_)
            | (refine wpAnyH_take (i := 11) (v := ?_) rfl (by kernel_rfl) (by kernel_rfl) (by kernel_rfl) (fun _ _ _ h => h) (Or.inl ⟨by rfl, ?_⟩) (by assumption) ?_
               rotate_left
               (intro w hSw
                (try dsimp only at hSw)
                (go_simp <;> with_reducible rfl)))
          try simp only [Act.put, List.getElem_toArray, List.getElem_cons_zero, List.getElem_cons_succ, List.setIfInBounds_toArray, List.set_cons_zero, List.set_cons_succ]
          refine wpAnyH_ready (rs := [12]) (by kernel_rfl) (by simp) ?_
          refine AllReadyH.cons (i := 12) (o := _) rfl (fun K hK => ?_) ?_
          rotate_left
          · exact AllReadyH.nil
          have GA := al w6 (.cells #[.slice none 0 0, .int .i64 0, .int .i64 0, .slice none 0 0] 35)
          have BO := hide (blk_new w6 (.cells #[.slice none 0 0, .int .i64 0, .int .i64 0, .slice none 0 0] 35))
          have y0b := GA.cell (fun h => h) y0a
          have y1b := GA.cell (fun h => h) y1a
          have y2b := GA.cell (fun h => h) y2a
          have y3b := GA.cell (fun h => h) y3a
          have y4b := GA.cell (fun h => h) y4a
          have y5b := GA.cell (fun h => h) y5a
          have y6b := GA.cell (fun h => h) y6a
          have y7b := GA.cell (fun h => h) y7a
          have y8b := GA.cell (fun h => h) y8a
          have T7 := hide (T6.out.chg GA (fun _ _ h => h))
          have G7 := hide (G6.out.trans GA)
          have SZ7 : Hid (w6.heap.size ≤ (w6.alloc (.cells #[.slice none 0 0, .int .i64 0, .int .i64 0, .slice none 0 0] 35)).heap.size) := hide GA.size
          clear GA
          go_simp
          refine hK.out _ _ ⟨y0b, y1b, y2b, y3b, y4b, y5b, y6b, y7b, y8b⟩ (fun hHeld => ?_)
          clear hK K
          try simp only [Act.put, List.getElem_toArray, List.getElem_cons_zero, List.getElem_cons_succ, List.setIfInBounds_toArray, List.set_cons_zero, List.set_cons_succ]
          obtain ⟨O, hO⟩ : ∃ O, w6.heap.size = O := ⟨_, rfl⟩
          rw [hO] at BO ⊢
          have HPO : Hid (w1.heap.size ≤ O ∧ P < O ∧ g < O ∧ Q < O) := hide (by have := HG.out; have := G6.out.size; have := HO.out; omega)
          have XO : Hid (∀ x, New X w1.drew w6 x → ¬ x = O) := hide (fun x hx e => by have := G6.out.size; rcases hx with hx | hx; have := HX.out x hx; have := HO.out; omega; omega)
          have XU : Hid (∀ w' : World, (w6.alloc (.cells #[.slice none 0 0, .int .i64 0, .int .i64 0, .slice none 0 0] 35)).heap.size ≤ w'.heap.size → ∀ x, New X w1.drew w6 x → New X w1 w' x) := hide (fun w' h x hx => by have := SZ7.out; rcases hx with hx | hx; exact Or.inl hx; exact Or.inr ⟨hx.1, by omega⟩)
          clear hO
          generalize w6.alloc (.cells #[.slice none 0 0, .int .i64 0, .int .i64 0, .slice none 0 0] 35) = w7 at *
          refine wpAnyH_ready (rs := [13]) (by kernel_rfl) (by simp) ?_
          refine AllReadyH.cons (i := 13) (o := _) rfl (fun K hK => ?_) ?_
          rotate_left
          · exact AllReadyH.nil
          have b0 := blk_cell BO.out 0
          have ff0 := blk_free BO.out 0
          have b1 := blk_cell BO.out 1
          have ff1 := blk_free BO.out 1
          have b2 := blk_cell BO.out 2
          have ff2 := blk_free BO.out 2
          have b3 := blk_cell BO.out 3
          have ff3 := blk_free BO.out 3
          simp only [List.getElem?_toArray, List.getElem?_cons_zero, List.getElem?_cons_succ] at b0 b1 b2 b3
          have NS : Hid (((((w7.setCell ⟨O, 0, none⟩ (.slice xa (RS.getD (.nil, 0, 0, .nil)).1.len xc)).setCell ⟨O, 1, none⟩ (.int .i64 (RS.getD (.nil, 0, 0, .nil)).2.1)).setCell ⟨O, 2, none⟩ (.int .i64 (RS.getD (.nil, 0, 0, .nil)).2.2.1)).setCell ⟨O, 3, none⟩ (.slice va (RS.getD (.nil, 0, 0, .nil)).2.2.2.len vc)).heap[O]? = some (.cells #[.slice xa (RS.getD (.nil, 0, 0, .nil)).1.len xc, .int .i64 (RS.getD (.nil, 0, 0, .nil)).2.1, .int .i64 (RS.getD (.nil, 0, 0, .nil)).2.2.1, .slice va (RS.getD (.nil, 0, 0, .nil)).2.2.2.len vc] 35) ∧ Chg (fun x => x = O) w7 ((((w7.setCell ⟨O, 0, none⟩ (.slice xa (RS.getD (.nil, 0, 0, .nil)).1.len xc)).setCell ⟨O, 1, none⟩ (.int .i64 (RS.getD (.nil, 0, 0, .nil)).2.1)).setCell ⟨O, 2, none⟩ (.int .i64 (RS.getD (.nil, 0, 0, .nil)).2.2.1)).setCell ⟨O, 3, none⟩ (.slice va (RS.getD (.nil, 0, 0, .nil)).2.2.2.len vc))) := hide ⟨(blk_set (blk_set (blk_set (blk_set BO.out 0 (.slice xa (RS.getD (.nil, 0, 0, .nil)).1.len xc)) 1 (.int .i64 (RS.getD (.nil, 0, 0, .nil)).2.1)) 2 (.int .i64 (RS.getD (.nil, 0, 0, .nil)).2.2.1)) 3 (.slice va (RS.getD (.nil, 0, 0, .nil)).2.2.2.len vc)), ((((Chg.set w7 O 0 (.slice xa (RS.getD (.nil, 0, 0, .nil)).1.len xc)).trans (Chg.set (w7.setCell ⟨O, 0, none⟩ (.slice xa (RS.getD (.nil, 0, 0, .nil)).1.len xc)) O 1 (.int .i64 (RS.getD (.nil, 0, 0, .nil)).2.1))).trans (Chg.set ((w7.setCell ⟨O, 0, none⟩ (.slice xa (RS.getD (.nil, 0, 0, .nil)).1.len xc)).setCell ⟨O, 1, none⟩ (.int .i64 (RS.getD (.nil, 0, 0, .nil)).2.1)) O 2 (.int .i64 (RS.getD (.nil, 0, 0, .nil)).2.2.1))).trans (Chg.set (((w7.setCell ⟨O, 0, none⟩ (.slice xa (RS.getD (.nil, 0, 0, .nil)).1.len xc)).setCell ⟨O, 1, none⟩ (.int .i64 (RS.getD (.nil, 0, 0, .nil)).2.1)).setCell ⟨O, 2, none⟩ (.int .i64 (RS.getD (.nil, 0, 0, .nil)).2.2.1)) O 3 (.slice va (RS.getD (.nil, 0, 0, .nil)).2.2.2.len vc)))⟩
          go_simp
          refine hK.out _ _ ⟨NS.out.2.cell (by have := HPO.out; omega) y0b, NS.out.2.cell (by have := HPO.out; omega) y1b, NS.out.2.cell (by have := HPO.out; omega) y2b, NS.out.2.cell (by have := HPO.out; omega) y3b, NS.out.2.cell (by have := HPO.out; omega) y4b, NS.out.2.cell (by have := HPO.out; omega) y5b, NS.out.2.cell (by have := HPO.out; omega) y6b, NS.out.2.cell (by have := HPO.out; omega) y7b, NS.out.2.cell (by have := HPO.out; omega) y8b⟩ (fun hHeld => ?_)
          clear hK K
          try simp only [Act.put, List.getElem_toArray, List.getElem_cons_zero, List.getElem_cons_succ, List.setIfInBounds_toArray, List.set_cons_zero, List.set_cons_succ]
          first
            | (refine wpAnyH_take (i := 14) (v := undef) rfl (by kernel_rfl) (by kernel_rfl) (by kernel_rfl) (fun _ _ _ h => h) (Or.inr ⟨by rfl, rfl⟩) (by assumption) ?_)
            | (refine wpAnyH_take (i := 14) (v := ?_) rfl (by kernel_rfl) (by kernel_rfl) (by kernel_rfl) (fun _ _ _ h => h) (Or.inl ⟨by rfl, ?_⟩) (by assumption) ?_
               rotate_left
               (intro w hSw
                (try dsimp only at hSw)
                (go_simp <;> with_reducible rfl)))
          try simp only [Act.put, List.getElem_toArray, List.getElem_cons_zero, List.getElem_cons_succ, List.setIfInBounds_toArray, List.set_cons_zero, List.set_cons_succ]
          refine wpAnyH_done (by kernel_rfl) ?_ _
          go_wp2_with fail
          go_meet
          exact ⟨O, xa, xc, va, vc, _, rfl, rfl, hide rfl, hide NS.out.1, hide ((T7.out.chg NS.out.2 (fun x hx e => XO.out x hx e)).up (XU.out _ NS.out.2.size)), hide ⟨((G7.out.none (S := fun x => x = O)).trans NS.out.2).mono (fun x hx e => by have := HPO.out; omega), by have := HPO.out; omega⟩⟩
        refine AllReadyH.cons (i := 12) (o := _) rfl (fun K hK => ?_) ?_
        rotate_left
        · exact AllReadyH.nil
        have GA := (al w1 (.cells #[.slice none 0 0, .int .i64 0, .int .i64 0, .slice none 0 0] 35)).drew
        have BO : Hid ((w1.alloc (.cells #[.slice none 0 0, .int .i64 0, .int .i64 0, .slice none 0 0] 35)).drew.heap[w1.heap.size]? = some (.cells #[.slice none 0 0, .int .i64 0, .int .i64 0, .slice none 0 0] 35)) := hide (blk_new w1 (.cells #[.slice none 0 0, .int .i64 0, .int .i64 0, .slice none 0 0] 35))
        have y0a := GA.cell (fun h => h) y0
        have y1a := GA.cell (fun h => h) y1
        have y2a := GA.cell (fun h => h) y2
        have y3a := GA.cell (fun h => h) y3
        have y4a := GA.cell (fun h => h) y4
        have y5a := GA.cell (fun h => h) y5
        have y6a := GA.cell (fun h => h) y6
        have y7a := GA.cell (fun h => h) y7
        have y8a := GA.cell (fun h => h) y8
        have G5 := hide GA
        have SZ7 : Hid (w1.heap.size < (w1.alloc (.cells #[.slice none 0 0, .int .i64 0, .int .i64 0, .slice none 0 0] 35)).drew.heap.size) := hide (blk_lt BO.out)
        clear GA
        go_simp
        refine hK.out _ _ ⟨y0a, y1a, y2a, y3a, y4a, y5a, y6a, y7a, y8a⟩ (fun hHeld => ?_)
        clear hK K
        try simp only [Act.put, List.getElem_toArray, List.getElem_cons_zero, List.getElem_cons_succ, List.setIfInBounds_toArray, List.set_cons_zero, List.set_cons_succ]
        obtain ⟨O, hO⟩ : ∃ O, w1.heap.size = O := ⟨_, rfl⟩
        rw [hO] at BO ⊢
        have HPO : Hid (w1.heap.size ≤ O ∧ P < O ∧ g < O ∧ Q < O) := hide (by have := HG.out; have := HO.out; omega)
        have HO7 := hide hO
        clear hO
        generalize (w1.alloc (.cells #[.slice none 0 0, .int .i64 0, .int .i64 0, .slice none 0 0] 35)).drew = w5 at *
        refine wpAnyH_ready (rs := [8]) (by kernel_rfl) (by simp) ?_
        refine AllReadyH.cons (i := 8) (o := _) rfl (fun K hK => ?_) ?_
        rotate_left
        · exact AllReadyH.nil
        go_simp
        refine (KJ.out _ G5.out).mono ?_
        rintro e w6 ⟨⟨v', rfl, t6⟩, g6⟩
        obtain ⟨xa, xc, va, vc, rfl, _, _⟩ := id t6
        dsimp only [Tm.bs, Tm.kd, Tm.ix, Tm.ag]
        have y0b := g6.cell (fun h => h) y0a
        have y1b := g6.cell (fun h => h) y1a
        have y2b := g6.cell (fun h => h) y2a
        have y3b := g6.cell (fun h => h) y3a
        have y4b := g6.cell (fun h => h) y4a
        have y5b := g6.cell (fun h => h) y5a
        have y6b := g6.cell (fun h => h) y6a
        have y7b := g6.cell (fun h => h) y7a
        have y8b := g6.cell (fun h => h) y8a
        have BO := hide (g6.blk (fun h => h) BO.out)
        have T7 := hide t6
        have G7 := hide (G5.out.trans g6)
        have XO : Hid (∀ x, New X w5 w6 x → ¬ x = O) := hide (fun x hx e => by have := SZ7.out; have := HO7.out; rcases hx with hx | hx; have := HX.out x hx; have := HO.out; omega; omega)
        have XU : Hid (∀ w' : World, w6.heap.size ≤ w'.heap.size → ∀ x, New X w5 w6 x → New X w1 w' x) := hide (fun w' h x hx => by have := SZ7.out; rcases hx with hx | hx; exact Or.inl hx; exact Or.inr ⟨by omega, by omega⟩)
        clear t6 g6
        go_simp
        refine hK.out _ _ ⟨y0b, y1b, y2b, y3b, y4b, y5b, y6b, y7b, y8b⟩ (fun hHeld => ?_)
        clear hK K
        try simp only [Act.put, List.getElem_toArray, List.getElem_cons_zero, List.getElem_cons_succ, List.setIfInBounds_toArray, List.set_cons_zero, List.set_cons_succ]
        first
          | (refine wpAnyH_take (i := 9) (v := undef) rfl (by kernel_rfl) (by kernel_rfl) (by kernel_rfl) (fun _ _ _ h => h) (Or.inr ⟨by rfl, rfl⟩) (by assumption) ?_)
          | (refine wpAnyH_take (i := 9) (v := ?_) rfl (by kernel_rfl) (by kernel_rfl) (by kernel_rfl) (fun _ _ _ h => h) (Or.inl ⟨by rfl, ?_⟩) (by assumption) ?_
             rotate_left
             (intro w hSw
              (try dsimp only at hSw)
              (go_simp <;> with_reducible rfl)))
        try simp only [Act.put, List.getElem_toArray, List.getElem_cons_zero, List.getElem_cons_succ, List.setIfInBounds_toArray, List.set_cons_zero, List.set_cons_succ]
        first
          | (refine wpAnyH_take (i := 10) (v := undef) rfl (by kernel_rfl) (by kernel_rfl) (by kernel_rfl) (fun _ _ _ h => h) (Or.inr ⟨by rfl, rfl⟩) (by assumption) ?_)
          | (refine wpAnyH_take (i := 10) (v := ?_) rfl (by kernel_rfl) (by kernel_rfl) (by kernel_rfl) (fun _ _ _ h => h) (Or.inl ⟨by rfl, ?_⟩) (by assumption) ?_
             rotate_left
             (intro w hSw
              (try dsimp only at hSw)
              (go_simp <;> with_reducible rfl)))
        try simp only [Act.put, List.getElem_toArray, List.getElem_cons_zero, List.getElem_cons_succ, List.setIfInBounds_toArray, List.set_cons_zero, List.set_cons_succ]
        first
          | (refine wpAnyH_take (i := 11) (v := undef) rfl (by kernel_rfl) (by kernel_rfl) (by kernel_rfl) (fun _ _ _ h => h) (Or.inr ⟨by rfl, rfl⟩) (by assumption) ?_)
          | (refine wpAnyH_take (i := 11) (v := ?_) rfl (by kernel_rfl) (by kernel_rfl) (by kernel_rfl) (fun _ _ _ h => h) (Or.inl ⟨by rfl, ?_⟩) (by assumption) ?_
             rotate_left
             (intro w hSw
              (try dsimp only at hSw)
              (go_simp <;> with_reducible rfl)))
        try simp only [Act.put, List.getElem_toArray, List.getElem_cons_zero, List.getElem_cons_succ, List.setIfInBounds_toArray, List.set_cons_zero, List.set_cons_succ]
        refine wpAnyH_ready (rs := [13]) (by kernel_rfl) (by simp) ?_
        refine AllReadyH.cons (i := 13) (o := _) rfl (fun K hK => ?_) ?_
        rotate_left
        · exact AllReadyH.nil
        have b0 := blk_cell BO.out 0
        have ff0 := blk_free BO.out 0
        have b1 := blk_cell BO.out 1
        have ff1 := blk_free BO.out 1
        have b2 := blk_cell BO.out 2
        have ff2 := blk_free BO.out 2
        have b3 := blk_cell BO.out 3
        have ff3 := blk_free BO.out 3
        simp only [List.getElem?_toArray, List.getElem?_cons_zero, List.getElem?_cons_succ] at b0 b1 b2 b3
        have NS : Hid (((((w6.setCell ⟨O, 0, none⟩ (.slice xa (RS.getD (.nil, 0, 0, .nil)).1.len xc)).setCell ⟨O, 1, none⟩ (.int .i64 (RS.getD (.nil, 0, 0, .nil)).2.1)).setCell ⟨O, 2, none⟩ (.int .i64 (RS.getD (.nil, 0, 0, .nil)).2.2.1)).setCell ⟨O, 3, none⟩ (.slice va (RS.getD (.nil, 0, 0, .nil)).2.2.2.len vc)).heap[O]? = some (.cells #[.slice xa (RS.getD (.nil, 0, 0, .nil)).1.len xc, .int .i64 (RS.getD (.nil, 0, 0, .nil)).2.1, .int .i64 (RS.getD (.nil, 0, 0, .nil)).2.2.1, .slice va (RS.getD (.nil, 0, 0, .nil)).2.2.2.len vc] 35) ∧ Chg (fun x => x = O) w6 ((((w6.setCell ⟨O, 0, none⟩ (.slice xa (RS.getD (.nil, 0, 0, .nil)).1.len xc)).setCell ⟨O, 1, none⟩ (.int .i64 (RS.getD (.nil, 0, 0, .nil)).2.1)).setCell ⟨O, 2, none⟩ (.int .i64 (RS.getD (.nil, 0, 0, .nil)).2.2.1)).setCell ⟨O, 3, none⟩ (.slice va (RS.getD (.nil, 0, 0, .nil)).2.2.2.len vc))) := hide ⟨(blk_set (blk_set (blk_set (blk_set BO.out 0 (.slice xa (RS.getD (.nil, 0, 0, .nil)).1.len xc)) 1 (.int .i64 (RS.getD (.nil, 0, 0, .nil)).2.1)) 2 (.int .i64 (RS.getD (.nil, 0, 0, .nil)).2.2.1)) 3 (.slice va (RS.getD (.nil, 0, 0, .nil)).2.2.2.len vc)), ((((Chg.set w6 O 0 (.slice xa (RS.getD (.nil, 0, 0, .nil)).1.len xc)).trans (Chg.set (w6.setCell ⟨O, 0, none⟩ (.slice xa (RS.getD (.nil, 0, 0, .nil)).1.len xc)) O 1 (.int .i64 (RS.getD (.nil, 0, 0, .nil)).2.1))).trans (Chg.set ((w6.setCell ⟨O, 0, none⟩ (.slice xa (RS.getD (.nil, 0, 0, .nil)).1.len xc)).setCell ⟨O, 1, none⟩ (.int .i64 (RS.getD (.nil, 0, 0, .nil)).2.1)) O 2 (.int .i64 (RS.getD (.nil, 0, 0, .nil)).2.2.1))).trans (Chg.set (((w6.setCell ⟨O, 0, none⟩ (.slice xa (RS.getD (.nil, 0, 0, .nil)).1.len xc)).setCell ⟨O, 1, none⟩ (.int .i64 (RS.getD (.nil, 0, 0, .nil)).2.1)).setCell ⟨O, 2, none⟩ (.int .i64 (RS.getD (.nil, 0, 0, .nil)).2.2.1)) O 3 (.slice va (RS.getD (.nil, 0, 0, .nil)).2.2.2.len vc)))⟩
        go_simp
        refine hK.out _ _ ⟨NS.out.2.cell (by have := HPO.out; omega) y0b, NS.out.2.cell (by have := HPO.out; omega) y1b, NS.out.2.cell (by have := HPO.out; omega) y2b, NS.out.2.cell (by have := HPO.out; omega) y3b, NS.out.2.cell (by have := HPO.out; omega) y4b, NS.out.2.cell (by have := HPO.out; omega) y5b, NS.out.2.cell (by have := HPO.out; omega) y6b, NS.out.2.cell (by have := HPO.out; omega) y7b, NS.out.2.cell (by have := HPO.out; omega) y8b⟩ (fun hHeld => ?_)
        clear hK K
        try simp only [Act.put, List.getElem_toArray, List.getElem_cons_zero, List.getElem_cons_succ, List.setIfInBounds_toArray, List.set_cons_zero, List.set_cons_succ]
        first
          | (refine wpAnyH_take (i := 14) (v := undef) rfl (by kernel_rfl) (by kernel_rfl) (by kernel_rfl) (fun _ _ _ h => h) (Or.inr ⟨by rfl, rfl⟩) (by assumption) ?_)
          | (refine wpAnyH_take (i := 14) (v := ?_) rfl (by kernel_rfl) (by kernel_rfl) (by kernel_rfl) (fun _ _ _ h => h) (Or.inl ⟨by rfl, ?_⟩) (by assumption) ?_
             rotate_left
             (intro w hSw
              (try dsimp only at hSw)
              (go_simp <;> with_reducible rfl)))
        try simp only [Act.put, List.getElem_toArray, List.getElem_cons_zero, List.getElem_cons_succ, List.setIfInBounds_toArray, List.set_cons_zero, List.set_cons_succ]
        refine wpAnyH_done (by kernel_rfl) ?_ _
        go_wp2_with fail
        go_meet
        exact ⟨O, xa, xc, va, vc, _, rfl, rfl, hide rfl, hide NS.out.1, hide ((T7.out.chg NS.out.2 (fun x hx e => XO.out x hx e)).up (XU.out _ NS.out.2.size)), hide ⟨((G7.out.none (S := fun x => x = O)).trans NS.out.2).mono (fun x hx e => by have := HPO.out; omega), by have := HPO.out; omega⟩⟩
      case rest =>
      obtain ⟨O, xa, xc, va, vc, ev, rfl, rfl, HEV, BO, TVO, GO⟩ := hcut
      clear y0 y1 y2 y3 y4 y5 y6 y7 y8 KJ IH
      generalize wc = w2 at *
      have BP2 := hide (GO.out.1.blk (fun h => h) BP.out)
      have BR2 := hide (GO.out.1.blk (fun h => h) BR.out)
      have HO2 : Hid (R < O ∧ O < w2.heap.size ∧ P < R ∧ w.heap.size = P ∧ w1.heap.size ≤ w2.heap.size) := hide (by have := HO.out; have := GO.out.2; have := GO.out.1.size; have := blk_lt BO.out; omega)
      have GW2 := hide (GG.out.trans GO.out.1)
      have TB2 := hide (TB0.out.chg GW2.out (fun _ _ h => h))
      have HX2 : Hid (∀ x, New X w1 w2 x → x < w2.heap.size ∧ (x < P ∨ R < x)) := hide (fun x hx => by have := GO.out.1.size; rcases hx with hx | hx; have := HX.out x hx; have := HO.out; omega; have := HO.out; omega)
      clear BP BR BQ
      cases RS with
      | none =>
        have EN : Hid (RES = none) := hide (by rw [← HR2.out]; rfl)
        obtain rfl : ev = 10 := HEV.out
        have b0 := blk_cell BR2.out 0
        have ff0 := blk_free BR2.out 0
        have b1 := blk_cell BR2.out 1
        have ff1 := blk_free BR2.out 1
        have b2 := blk_cell BR2.out 2
        have ff2 := blk_free BR2.out 2
        have b3 := blk_cell BR2.out 3
        have ff3 := blk_free BR2.out 3
        simp only [List.getElem?_toArray, List.getElem?_cons_zero, List.getElem?_cons_succ] at b0 b1 b2 b3
        have NZ : Hid (((((w2.setCell ⟨R, 0, none⟩ (.slice none 0 0)).setCell ⟨R, 1, none⟩ (.int .i64 0)).setCell ⟨R, 2, none⟩ (.int .i64 0)).setCell ⟨R, 3, none⟩ (.slice none 0 0)).heap[R]? = some (.cells #[.slice none 0 0, .int .i64 0, .int .i64 0, .slice none 0 0] 35) ∧ Chg (fun x => x = R) w2 ((((w2.setCell ⟨R, 0, none⟩ (.slice none 0 0)).setCell ⟨R, 1, none⟩ (.int .i64 0)).setCell ⟨R, 2, none⟩ (.int .i64 0)).setCell ⟨R, 3, none⟩ (.slice none 0 0))) := hide ⟨(blk_set (blk_set (blk_set (blk_set BR2.out 0 (.slice none 0 0)) 1 (.int .i64 0)) 2 (.int .i64 0)) 3 (.slice none 0 0)), ((((Chg.set w2 R 0 (.slice none 0 0)).trans (Chg.set (w2.setCell ⟨R, 0, none⟩ (.slice none 0 0)) R 1 (.int .i64 0))).trans (Chg.set ((w2.setCell ⟨R, 0, none⟩ (.slice none 0 0)).setCell ⟨R, 1, none⟩ (.int .i64 0)) R 2 (.int .i64 0))).trans (Chg.set (((w2.setCell ⟨R, 0, none⟩ (.slice none 0 0)).setCell ⟨R, 1, none⟩ (.int .i64 0)).setCell ⟨R, 2, none⟩ (.int .i64 0)) R 3 (.slice none 0 0)))⟩
        have GZ : Hid (Chg (fun _ => False) w ((((w2.setCell ⟨R, 0, none⟩ (.slice none 0 0)).setCell ⟨R, 1, none⟩ (.int .i64 0)).setCell ⟨R, 2, none⟩ (.int .i64 0)).setCell ⟨R, 3, none⟩ (.slice none 0 0))) := hide ((((GW2.out).none (S := fun x => x = R)).trans NZ.out.2).mono (fun x hx e => by have := HO2.out; omega))
        go_wp2_with fail
        generalize ((((w2.setCell ⟨R, 0, none⟩ (.slice none 0 0)).setCell ⟨R, 1, none⟩ (.int .i64 0)).setCell ⟨R, 2, none⟩ (.int .i64 0)).setCell ⟨R, 3, none⟩ (.slice none 0 0)) = wF at *
        have r0 := blk_cell NZ.out.1 0
        have r1 := blk_cell NZ.out.1 1
        have r2 := blk_cell NZ.out.1 2
        have r3 := blk_cell NZ.out.1 3
        refine bodyPost_ret (v := .tuple #[.agg #[.slice none 0 0, .int .i64 0, .int .i64 0, .slice none 0 0], .int .i64 10]) (by simp [results, Tryd.results47, go_sem, r0, r1, r2, r3]) rfl ?_
        exact ⟨⟨_, by rw [EN.out]; rfl, by rw [EN.out]; exact TV.zero _ _⟩, GZ.out⟩
      | some z =>
        have ER : Hid (RES = some (b, k, i, f.setT m z)) := hide (by rw [← HR2.out]; rfl)
        obtain rfl : ev = 0 := HEV.out
        obtain ⟨z0, z1, z2, z3⟩ := z
        simp only [Option.getD_some] at *
        clear HR2
        have CL := hide (mclone_any f (by have := OK.out.2.2.2.2; have := Tms.len_size f; dsimp only [Tm.bs, Tm.ag] at *; omega) (.slice (some ⟨g, off, none⟩) f.len cap) X w2 (TR0.out.chg GW2.out (fun _ _ h => h)))
        have x3 : w2.cell? ⟨P, 3, none⟩ = some (.slice (some ⟨g, off, none⟩) f.len cap) := blk_cell BP2.out 3
        go_wp2_with fail
        refine CL.out.mono ?_
        rintro e w5 ⟨⟨v', rfl, own⟩, g5⟩
        have HM0 : 0 < f.toL.length := Nat.lt_of_le_of_lt (Nat.zero_le _) HMT.out
        obtain ⟨gc, o, cc, cur, rfl, hgc, hgl, hcur, hsz, hta⟩ := own.at HM0
        have BC5 := hide hcur
        have HTA := hide hta
        have HGC : Hid (w2.heap.size ≤ gc ∧ gc < w5.heap.size ∧ w2.heap.size ≤ w5.heap.size ∧ o + f.len * 4 ≤ cur.size) := hide ⟨hgc, hgl, g5.size, hsz⟩
        have BP5 := hide (g5.blk (fun h => h) BP2.out)
        have BR5 := hide (g5.blk (fun h => h) BR2.out)
        have BO5 := hide (g5.blk (fun h => h) BO.out)
        have TV5 := hide (TVO.out.chg g5 (fun _ _ h => h))
        have TB5 := hide (TB2.out.chg g5 (fun _ _ h => h))
        have GW5 := hide (GW2.out.trans g5)
        clear own g5 hgc hgl hcur hsz hta CL x3
        have x3 : w5.cell? ⟨P, 3, none⟩ = some (.slice (some ⟨g, off, none⟩) f.len cap) := blk_cell BP5.out 3
        have xf3 := blk_free BP5.out 3
        have BP6 := hide (blk_set BP5.out 3 (.slice (some ⟨gc, o, none⟩) f.len cc))
        have G6 := hide (Chg.set w5 P 3 (.slice (some ⟨gc, o, none⟩) f.len cc))
        go_upto_region 10 with fail
        have BR6 := hide (G6.out.blk (by have := HO2.out; omega) BR5.out)
        have BO6 := hide (G6.out.blk (by have := HO2.out; omega) BO5.out)
        have BC6 := hide (G6.out.blk (by have := HO2.out; have := HGC.out; omega) BC5.out)
        have S6 : Hid (w5.heap.size ≤ (w5.setCell ⟨P, 3, none⟩ (.slice (some ⟨gc, o, none⟩) f.len cc)).heap.size) := hide G6.out.size
        have XP : ∀ x, X x → ¬ x = P := fun x hx e => by have := HX.out x hx; have := HO2.out; omega
        have NP : ∀ x, New X w1 w2 x → ¬ x = P := fun x hx e => by have := (HX2.out x hx).2; have := HO2.out; omega
        have TV6 := hide (TV5.out.chg G6.out NP)
        have TB6 := hide (TB5.out.chg G6.out XP)
        have HTA6 : Hid (∀ j (hj : j < f.toL.length), TermAt (w5.setCell ⟨P, 3, none⟩ (.slice (some ⟨gc, o, none⟩) f.len cc)) X f.toL[j] gc (o + j * 4)) := hide (fun j hj => by
          have hgp : ¬ gc = P := by have := HO2.out; have := HGC.out; omega
          obtain ⟨⟨v0, a0, a1⟩, a2, a3, v3, a4, a5⟩ := HTA.out j hj
          exact ⟨⟨v0, G6.out.cell hgp a0, a1.chg G6.out XP⟩, G6.out.cell hgp a2, G6.out.cell hgp a3, v3, G6.out.cell hgp a4, a5.chg G6.out XP⟩)
        clear x3 xf3 BP5 BR5 BO5 BC5 TV5 TB5 HTA XP NP
        generalize (w5.setCell ⟨P, 3, none⟩ (.slice (some ⟨gc, o, none⟩) f.len cc)) = w6 at *
        have x3 : w6.cell? ⟨P, 3, none⟩ = some (.slice (some ⟨gc, o, none⟩) f.len cc) := blk_cell BP6.out 3
        have o0 : w6.cell? ⟨O, 0, none⟩ = some (.slice xa z0.len xc) := blk_cell BO6.out 0
        have o1 : w6.cell? ⟨O, 1, none⟩ = some (.int .i64 z1) := blk_cell BO6.out 1
        have o2 : w6.cell? ⟨O, 2, none⟩ = some (.int .i64 z2) := blk_cell BO6.out 2
        have o3 : w6.cell? ⟨O, 3, none⟩ = some (.slice va z3.len vc) := blk_cell BO6.out 3
        obtain ⟨⟨t0v, t0, _⟩, t1, t2, t3v, t3, _⟩ := HTA6.out m HMT.out
        have tf0 := blk_free BC6.out (o + m * 4)
        have tf1 := blk_free BC6.out (o + m * 4 + 1)
        have tf2 := blk_free BC6.out (o + m * 4 + 2)
        have tf3 := blk_free BC6.out (o + m * 4 + 3)
        have S4 := hide (set4 (k := o + m * 4) BC6.out (by have := HGC.out; have := HM.out; omega) (.slice xa z0.len xc) (.int .i64 z1) (.int .i64 z2) (.slice va z3.len vc))
        have G7 : Hid (Chg (fun x => x = gc) w6 ((((w6.setCell ⟨gc, o + m * 4, none⟩ (.slice xa z0.len xc)).setCell ⟨gc, o + m * 4 + 1, none⟩ (.int .i64 z1)).setCell ⟨gc, o + m * 4 + 2, none⟩ (.int .i64 z2)).setCell ⟨gc, o + m * 4 + 3, none⟩ (.slice va z3.len vc))) := hide ((((Chg.set w6 gc (o + m * 4) (.slice xa z0.len xc)).trans (Chg.set _ gc (o + m * 4 + 1) (.int .i64 z1))).trans (Chg.set _ gc (o + m * 4 + 2) (.int .i64 z2))).trans (Chg.set _ gc (o + m * 4 + 3) (.slice va z3.len vc)))
        go_upto_region 11 with fail
        generalize ((((w6.setCell ⟨gc, o + m * 4, none⟩ (.slice xa z0.len xc)).setCell ⟨gc, o + m * 4 + 1, none⟩ (.int .i64 z1)).setCell ⟨gc, o + m * 4 + 2, none⟩ (.int .i64 z2)).setCell ⟨gc, o + m * 4 + 3, none⟩ (.slice va z3.len vc)) = w7 at *
        have XG : ∀ x, X x → ¬ x = gc := fun x hx e => by have := HX.out x hx; have := HO2.out; have := HGC.out; omega
        have NG : ∀ x, New X w1 w2 x → ¬ x = gc := fun x hx e => by have := (HX2.out x hx).1; have := HGC.out; omega
        have S7 : Hid (w2.heap.size ≤ w7.heap.size ∧ gc < w7.heap.size ∧ w1.heap.size ≤ w7.heap.size) := hide (by have := G7.out.size; have := S6.out; have := HGC.out; have := HO2.out; omega)
        obtain ⟨q1, q2, q3, q4, q5⟩ := S4.out
        have NU : ∀ x, New X w1 w2 x → New X w1 w7 x := fun x hx => by have := S7.out; rcases hx with hx | hx; exact Or.inl hx; exact Or.inr ⟨hx.1, by omega⟩
        obtain ⟨qa, qc, qb, qd, qe, TZB, TZR⟩ := TV6.out
        injection qe with qe
        simp only [Array.mk.injEq, List.cons.injEq] at qe
        obtain ⟨qe1, _, _, qe2, _⟩ := qe
        injection qe1 with qe1 _ qe3
        injection qe2 with qe2 _ qe4
        subst qe1 qe3 qe2 qe4
        have TR7 := hide (tr_set (cap := cc) (x := (z0, z1, z2, z3)) (Z := New X w1 w7) HMT.out HTA6.out G7.out XG (fun x hx => Or.inl hx) (Or.inr ⟨by have := HGC.out; have := HO2.out; omega, S7.out.2.1⟩) q1 q2 q3 q4 ((TZB.chg G7.out NG).up NU) ((TZR.chg G7.out NG).up NU) q5)
        have TB7 := hide (TB6.out.chg G7.out XG)
        have BP7 := hide (G7.out.blk (by have := HGC.out; have := HO2.out; omega) BP6.out)
        have BR7 := hide (G7.out.blk (by have := HGC.out; have := HO2.out; omega) BR6.out)
        have GW7 : Hid (Chg (fun _ => False) w w7) := hide (by
          have h1 : Chg (fun x => x = P ∨ w2.heap.size ≤ x) w w7 := (GW5.out.none.trans (G6.out.mono (fun x _ h => Or.inl h))).trans (G7.out.mono (fun x _ h => Or.inr (by have := HGC.out; omega)))
          exact h1.mono (fun x hx h => by have := HO2.out; omega))
        clear x3 o0 o1 o2 o3 t0 t1 t2 t3 tf0 tf1 tf2 tf3 q1 q2 q3 q4 q5 TZB TZR XG NG NU
        have x0 : w7.cell? ⟨P, 0, none⟩ = some (.slice ba b.len bc) := blk_cell BP7.out 0
        have x1 : w7.cell? ⟨P, 1, none⟩ = some (.int .i64 k) := blk_cell BP7.out 1
        have x2 : w7.cell? ⟨P, 2, none⟩ = some (.int .i64 i) := blk_cell BP7.out 2
        have x3 : w7.cell? ⟨P, 3, none⟩ = some (.slice (some ⟨gc, o, none⟩) f.len cc) := blk_cell BP7.out 3
        have b0 := blk_cell BR7.out 0
        have ff0 := blk_free BR7.out 0
        have b1 := blk_cell BR7.out 1
        have ff1 := blk_free BR7.out 1
        have b2 := blk_cell BR7.out 2
        have ff2 := blk_free BR7.out 2
        have b3 := blk_cell BR7.out 3
        have ff3 := blk_free BR7.out 3
        simp only [List.getElem?_toArray, List.getElem?_cons_zero, List.getElem?_cons_succ] at b0 b1 b2 b3
        have NS : Hid (((((w7.setCell ⟨R, 0, none⟩ (.slice ba b.len bc)).setCell ⟨R, 1, none⟩ (.int .i64 k)).setCell ⟨R, 2, none⟩ (.int .i64 i)).setCell ⟨R, 3, none⟩ (.slice (some ⟨gc, o, none⟩) f.len cc)).heap[R]? = some (.cells #[.slice ba b.len bc, .int .i64 k, .int .i64 i, .slice (some ⟨gc, o, none⟩) f.len cc] 35) ∧ Chg (fun x => x = R) w7 ((((w7.setCell ⟨R, 0, none⟩ (.slice ba b.len bc)).setCell ⟨R, 1, none⟩ (.int .i64 k)).setCell ⟨R, 2, none⟩ (.int .i64 i)).setCell ⟨R, 3, none⟩ (.slice (some ⟨gc, o, none⟩) f.len cc))) := hide ⟨(blk_set (blk_set (blk_set (blk_set BR7.out 0 (.slice ba b.len bc)) 1 (.int .i64 k)) 2 (.int .i64 i)) 3 (.slice (some ⟨gc, o, none⟩) f.len cc)), ((((Chg.set w7 R 0 (.slice ba b.len bc)).trans (Chg.set (w7.setCell ⟨R, 0, none⟩ (.slice ba b.len bc)) R 1 (.int .i64 k))).trans (Chg.set ((w7.setCell ⟨R, 0, none⟩ (.slice ba b.len bc)).setCell ⟨R, 1, none⟩ (.int .i64 k)) R 2 (.int .i64 i))).trans (Chg.set (((w7.setCell ⟨R, 0, none⟩ (.slice ba b.len bc)).setCell ⟨R, 1, none⟩ (.int .i64 k)).setCell ⟨R, 2, none⟩ (.int .i64 i)) R 3 (.slice (some ⟨gc, o, none⟩) f.len cc)))⟩
        have GF : Hid (Chg (fun _ => False) w ((((w7.setCell ⟨R, 0, none⟩ (.slice ba b.len bc)).setCell ⟨R, 1, none⟩ (.int .i64 k)).setCell ⟨R, 2, none⟩ (.int .i64 i)).setCell ⟨R, 3, none⟩ (.slice (some ⟨gc, o, none⟩) f.len cc))) := hide (((GW7.out.none (S := fun x => x = R)).trans NS.out.2).mono (fun x hx e => by have := HO2.out; omega))
        have NR : ∀ x, New X w1 w7 x → ¬ x = R := fun x hx e => by have := HO.out; rcases hx with hx | hx; have := HX.out x hx; omega; omega
        have NU : ∀ x, New X w1 w7 x → New X w ((((w7.setCell ⟨R, 0, none⟩ (.slice ba b.len bc)).setCell ⟨R, 1, none⟩ (.int .i64 k)).setCell ⟨R, 2, none⟩ (.int .i64 i)).setCell ⟨R, 3, none⟩ (.slice (some ⟨gc, o, none⟩) f.len cc)) x := fun x hx => by have := HO.out; have := NS.out.2.size; rcases hx with hx | hx; exact Or.inl hx; exact Or.inr ⟨by omega, by omega⟩
        have TF : Hid (TV ((((w7.setCell ⟨R, 0, none⟩ (.slice ba b.len bc)).setCell ⟨R, 1, none⟩ (.int .i64 k)).setCell ⟨R, 2, none⟩ (.int .i64 i)).setCell ⟨R, 3, none⟩ (.slice (some ⟨gc, o, none⟩) f.len cc)) (New X w ((((w7.setCell ⟨R, 0, none⟩ (.slice ba b.len bc)).setCell ⟨R, 1, none⟩ (.int .i64 k)).setCell ⟨R, 2, none⟩ (.int .i64 i)).setCell ⟨R, 3, none⟩ (.slice (some ⟨gc, o, none⟩) f.len cc))) (.agg #[.slice ba b.len bc, .int .i64 k, .int .i64 i, .slice (some ⟨gc, o, none⟩) f.len cc]) (b, k, i, f.setT m (z0, z1, z2, z3))) := hide ⟨ba, bc, some ⟨gc, o, none⟩, cc, by simp only [Tm.bs, Tm.kd, Tm.ix, Tm.ag, Tms.setT_len], (TB7.out.chg NS.out.2 (fun x hx => NR x (Or.inl hx))).up (fun x hx => Or.inl hx), by simp only [Tm.ag, Tms.setT_len]; exact (TR7.out.chg NS.out.2 NR).up NU⟩
        clear NR NU
        go_wp2_with fail
        generalize ((((w7.setCell ⟨R, 0, none⟩ (.slice ba b.len bc)).setCell ⟨R, 1, none⟩ (.int .i64 k)).setCell ⟨R, 2, none⟩ (.int .i64 i)).setCell ⟨R, 3, none⟩ (.slice (some ⟨gc, o, none⟩) f.len cc)) = wF at *
        have r0 := blk_cell NS.out.1 0
        have r1 := blk_cell NS.out.1 1
        have r2 := blk_cell NS.out.1 2
        have r3 := blk_cell NS.out.1 3
        refine bodyPost_ret (v := .tuple #[.agg #[.slice ba b.len bc, .int .i64 k, .int .i64 i, .slice (some ⟨gc, o, none⟩) f.len cc], .int .i64 0]) (by simp [results, Tryd.results47, go_sem, r0, r1, r2, r3]) rfl ?_
        exact ⟨⟨_, by rw [ER.out]; rfl, by rw [ER.out]; exact TF.out⟩, GF.out⟩
end Go.Proofs.YtnpcapdlgcaniaaDoor
