/- term.Check. -/
import Derived.Test.YtnpcapdlgcaniaaDoorIs61
import Derived.Test.YtnpcapdlgcaniaaDoorRightT
namespace Go.Proofs.YtnpcapdlgcaniaaDoor
open Go.RowKit
set_option linter.unusedVariables false
set_option linter.unusedSimpArgs false

/-- what Check says -/
def checkG (cs ms ctx : Fs) (t : Tm) (p : Fs × Int) : Int := if goodT (1 :: deps 2 t.ag) then (if isOne cs ms ctx t p then 0 else 5) else 2

set_option maxRecDepth 100000 in
set_option maxHeartbeats 16000000 in
theorem check_any (cs ms : Fs) (hcs : cs.size ≤ 40000) (hms : ms.size ≤ 40000) (n : Int) (ctx : Fs) (t : Tm) (p : Fs × Int) (ca : Option Addr) (cc : Nat) (ma : Option Addr) (mc : Nat) (vx v vp : Value) (w : World)
    (hsz : ctx.size + t.bs.size + t.ag.size ≤ 40000) (hi : In64' t.ix) (htk : TOk t.ag) (hps : p.1.size ≤ 1000000) (g1 : Ts w (fun x => x < w.heap.size) (.slice ca cs.len cc) cs) (g2 : Ts w (fun x => x < w.heap.size) (.slice ma ms.len mc) ms) (g3 : Ts w (fun x => x < w.heap.size) vx ctx)
    (hv : TV w (fun x => x < w.heap.size) v t) (hp : TyV w (fun x => x < w.heap.size) vp p) :
    Calls Tryd.prog 36 #[wldV n ca cs.len cc ma ms.len mc, vx, v, vp] w fun e w' => e = .returned (.int .i64 (checkG cs ms ctx t p)) ∧ Chg (fun _ => False) w w' := by
  obtain ⟨b, k, i, f⟩ := t
  obtain ⟨pf, pb⟩ := p
  obtain ⟨xa, xc, rfl, _⟩ := id g3
  obtain ⟨ba, bc, a, cap, rfl, hb1, hb2⟩ := id hv
  obtain ⟨pa, pc, rfl, hp1⟩ := id hp
  dsimp only [Tm.bs, Tm.kd, Tm.ix, Tm.ag] at *
  obtain ⟨OUT, hOUT⟩ : ∃ OUT, checkG cs ms ctx (b, k, i, f) (pf, pb) = OUT := ⟨_, rfl⟩
  rw [hOUT]
  have HOUT := hide hOUT
  clear hOUT
  have W1 := al w (.cells #[.int .i64 n, .slice ca cs.len cc, .slice ma ms.len mc] 66)
  have B1 := blk_new w (.cells #[.int .i64 n, .slice ca cs.len cc, .slice ma ms.len mc] 66)
  have W2 := al (w.alloc (.cells #[.int .i64 n, .slice ca cs.len cc, .slice ma ms.len mc] 66)) (.cells #[.slice ba b.len bc, .int .i64 k, .int .i64 i, .slice a f.len cap] 35)
  have B2 := blk_new (w.alloc (.cells #[.int .i64 n, .slice ca cs.len cc, .slice ma ms.len mc] 66)) (.cells #[.slice ba b.len bc, .int .i64 k, .int .i64 i, .slice a f.len cap] 35)
  have W3 := al ((w.alloc (.cells #[.int .i64 n, .slice ca cs.len cc, .slice ma ms.len mc] 66)).alloc (.cells #[.slice ba b.len bc, .int .i64 k, .int .i64 i, .slice a f.len cap] 35)) (.cells #[.slice pa pf.len pc, .int .i64 pb] 73)
  have B3 := blk_new ((w.alloc (.cells #[.int .i64 n, .slice ca cs.len cc, .slice ma ms.len mc] 66)).alloc (.cells #[.slice ba b.len bc, .int .i64 k, .int .i64 i, .slice a f.len cap] 35)) (.cells #[.slice pa pf.len pc, .int .i64 pb] 73)
  rw [al_sz] at B2
  rw [al_sz, al_sz] at B3
  have GG := hide ((W1.trans W2).trans W3)
  have b1 := hide (W3.blk (fun h => h) (W2.blk (fun h => h) B1))
  have b2 := hide (W3.blk (fun h => h) B2)
  have b3 := hide B3
  have HV := hide (hv.all GG.out)
  have H1 := hide (g1.all GG.out)
  have H2 := hide (g2.all GG.out)
  have H3 := hide (g3.all GG.out)
  have H4 := hide (hb1.all GG.out)
  have H5 := hide (hb2.all GG.out)
  have H6 := hide (hp1.all GG.out)
  have HI := hide hi
  have HSZ := hide hsz
  have HTK := hide htk
  clear W1 W2 W3 B1 B2 B3 g1 g2 g3 hb1 hb2 hp1 hv hp hi hsz htk
  obtain ⟨P, hP⟩ : ∃ P, w.heap.size = P := ⟨_, rfl⟩
  have HP := hide hP
  rw [hP] at b1 b2 b3
  go_enter Tryd.func36, Tryd.ntmps36
  go_upto_region 1 with fail
  try rw [hP]
  clear hP
  generalize ((w.alloc (.cells #[.int .i64 n, .slice ca cs.len cc, .slice ma ms.len mc] 66)).alloc (.cells #[.slice ba b.len bc, .int .i64 k, .int .i64 i, .slice a f.len cap] 35)).alloc (.cells #[.slice pa pf.len pc, .int .i64 pb] 73) = w1 at *
  have z0 : w1.cell? ⟨P + 1, 0, none⟩ = some (.slice ba b.len bc) := blk_cell b2.out 0
  have z1 : w1.cell? ⟨P + 1, 1, none⟩ = some (.int .i64 k) := blk_cell b2.out 1
  have z2 : w1.cell? ⟨P + 1, 2, none⟩ = some (.int .i64 i) := blk_cell b2.out 2
  have z3 : w1.cell? ⟨P + 1, 3, none⟩ = some (.slice a f.len cap) := blk_cell b2.out 3
  obtain ⟨r, hr⟩ : ∃ r, goodT (1 :: deps 2 f) = r := ⟨_, rfl⟩
  have RT := hide (rightT_any (b, k, i, f) (by have := HSZ.out; dsimp only [Tm.bs, Tm.ag]; omega) _ _ w1 (fun x h => h) HV.out)
  dsimp only [Tm.bs, Tm.kd, Tm.ix, Tm.ag] at RT
  rw [hr] at RT
  have HR := hide hr
  clear hr
  go_wp2_with fail
  refine RT.out.mono ?_
  rintro e w2 ⟨rfl, g2⟩
  have G2 := hide (GG.out.trans g2)
  cases r
  · obtain rfl : 2 = OUT := by
      rw [← HOUT.out]
      unfold checkG
      dsimp only [Tm.ag]
      rw [HR.out]
      rfl
    clear z0 z1 z2 z3 g2 RT
    go_wp2_with fail
    go_ret
    exact ⟨rfl, G2.out⟩
  · have HO2 : Hid ((if isOne cs ms ctx (b, k, i, f) (pf, pb) then (0 : Int) else 5) = OUT) := hide (by
      rw [← HOUT.out]
      unfold checkG
      dsimp only [Tm.ag]
      rw [HR.out]
      rfl)
    have IS := hide (is_any cs ms hcs hms f n ctx b k i pf pb ca cc ma mc _ _ _ _ w2 HSZ.out HI.out HTK.out hps (H1.out.all g2) (H2.out.all g2) (H3.out.all g2) (H4.out.all g2) (H5.out.all g2) (H6.out.all g2))
    obtain ⟨L, hL⟩ : ∃ L, isOne cs ms ctx (b, k, i, f) (pf, pb) = L := ⟨_, rfl⟩
    rw [hL] at IS HO2
    clear hL z0 z1 z2 z3
    have h0 : w2.cell? ⟨P, 0, none⟩ = some (.int .i64 n) := blk_cell (g2.blk (fun h => h) b1.out) 0
    have h1 : w2.cell? ⟨P, 1, none⟩ = some (.slice ca cs.len cc) := blk_cell (g2.blk (fun h => h) b1.out) 1
    have h2 : w2.cell? ⟨P, 2, none⟩ = some (.slice ma ms.len mc) := blk_cell (g2.blk (fun h => h) b1.out) 2
    have z0 : w2.cell? ⟨P + 1, 0, none⟩ = some (.slice ba b.len bc) := blk_cell (g2.blk (fun h => h) b2.out) 0
    have z1 : w2.cell? ⟨P + 1, 1, none⟩ = some (.int .i64 k) := blk_cell (g2.blk (fun h => h) b2.out) 1
    have z2 : w2.cell? ⟨P + 1, 2, none⟩ = some (.int .i64 i) := blk_cell (g2.blk (fun h => h) b2.out) 2
    have z3 : w2.cell? ⟨P + 1, 3, none⟩ = some (.slice a f.len cap) := blk_cell (g2.blk (fun h => h) b2.out) 3
    have p0 : w2.cell? ⟨P + 1 + 1, 0, none⟩ = some (.slice pa pf.len pc) := blk_cell (g2.blk (fun h => h) b3.out) 0
    have p1 : w2.cell? ⟨P + 1 + 1, 1, none⟩ = some (.int .i64 pb) := blk_cell (g2.blk (fun h => h) b3.out) 1
    clear g2 RT HOUT
    go_wp2_with fail
    refine IS.out.mono ?_
    rintro e w3 ⟨rfl, g3⟩
    have G3 := hide (G2.out.trans g3)
    clear g3 h0 h1 h2 z0 z1 z2 z3 p0 p1
    cases L
    · obtain rfl : 5 = OUT := HO2.out
      go_wp2_with fail
      go_ret
      exact ⟨rfl, G3.out⟩
    · obtain rfl : 0 = OUT := HO2.out
      go_wp2_with fail
      go_ret
      exact ⟨rfl, G3.out⟩
end Go.Proofs.YtnpcapdlgcaniaaDoor
