/- The walk of ParseParts: trees' parts. The walk of ParseParts in the form that the shell asks for. -/
import Derived.Test.YtboeeaekhijboaaKnown
import Derived.Test.YtboeeaekhijboaaPto
import Derived.Test.YtboeeaekhijboaaPequal
import Derived.Test.YtboeeaekhijboaaPfew
import Derived.Test.YtboeeaekhijboaaPnames
import Derived.Test.YtboeeaekhijboaaPopens
import Derived.Deep.CutBlock
namespace Go.Proofs.Ytboeeaekhijboaa
open Go.RowKit
set_option linter.unusedVariables false
set_option linter.unusedSimpArgs false

set_option maxRecDepth 100000 in
set_option maxHeartbeats 64000000 in
theorem parts_walk (n m : Nd) (x y : It) (v0 v1 v2 v3 : Value) (w : World) (h0 : NodeIs w v0 n) (h1 : NodeIs w v1 m) (h2 : ItemIs w v2 x) (h3 : ItemIs w v3 y) :
    Calls Try.prog 7 #[v0, v1, v2, v3] w fun e w' => e = .returned (.bool true) ∧ Chg (fun _ => False) w w' := by
  obtain ⟨a0, a1, a2, a3⟩ := n
  obtain ⟨b0, b1, b2, b3⟩ := m
  obtain ⟨x0, x1, x2, x3, x4⟩ := x
  obtain ⟨y0, y1, y2, y3, y4⟩ := y
  obtain ⟨⟨aa, ac, rfl, na⟩, wa1, wa2⟩ := h0
  obtain ⟨⟨ba, bc, rfl, nb⟩, wb1, wb2⟩ := h1
  obtain ⟨ux, vx, rfl, sx, tx⟩ := h2
  obtain ⟨uy, vy, rfl, sy, ty⟩ := h3
  obtain ⟨xa, xc, rfl, _⟩ := id sx
  obtain ⟨xe, xf, rfl, _⟩ := id tx
  obtain ⟨ya, yc, rfl, _⟩ := id sy
  obtain ⟨ye, yf, rfl, _⟩ := id ty
  dsimp only [Nd.kind, Nd.word, Nd.at, Nd.kids] at *
  have WS := hide (And.intro (And.intro wa1 wa2) (And.intro wb1 wb2))
  have G1 := al w (.cells #[.int .i64 a0, .string a1, .int .i64 a2, .slice aa a3.len ac] 55)
  have G2 := al (w.alloc (.cells #[.int .i64 a0, .string a1, .int .i64 a2, .slice aa a3.len ac] 55)) (.cells #[.int .i64 b0, .string b1, .int .i64 b2, .slice ba b3.len bc] 55)
  have G3 := al ((w.alloc (.cells #[.int .i64 a0, .string a1, .int .i64 a2, .slice aa a3.len ac] 55)).alloc (.cells #[.int .i64 b0, .string b1, .int .i64 b2, .slice ba b3.len bc] 55)) (.cells #[.int .i64 x0, .slice xa x1.length xc, .slice xe x2.len xf, .int .i64 x3, .int .i64 x4] 42)
  have G4 := al (((w.alloc (.cells #[.int .i64 a0, .string a1, .int .i64 a2, .slice aa a3.len ac] 55)).alloc (.cells #[.int .i64 b0, .string b1, .int .i64 b2, .slice ba b3.len bc] 55)).alloc (.cells #[.int .i64 x0, .slice xa x1.length xc, .slice xe x2.len xf, .int .i64 x3, .int .i64 x4] 42)) (.cells #[.int .i64 y0, .slice ya y1.length yc, .slice ye y2.len yf, .int .i64 y3, .int .i64 y4] 42)
  have B1 := blk_new w (.cells #[.int .i64 a0, .string a1, .int .i64 a2, .slice aa a3.len ac] 55)
  have B2 := blk_new (w.alloc (.cells #[.int .i64 a0, .string a1, .int .i64 a2, .slice aa a3.len ac] 55)) (.cells #[.int .i64 b0, .string b1, .int .i64 b2, .slice ba b3.len bc] 55)
  have B3 := blk_new ((w.alloc (.cells #[.int .i64 a0, .string a1, .int .i64 a2, .slice aa a3.len ac] 55)).alloc (.cells #[.int .i64 b0, .string b1, .int .i64 b2, .slice ba b3.len bc] 55)) (.cells #[.int .i64 x0, .slice xa x1.length xc, .slice xe x2.len xf, .int .i64 x3, .int .i64 x4] 42)
  have B4 := blk_new (((w.alloc (.cells #[.int .i64 a0, .string a1, .int .i64 a2, .slice aa a3.len ac] 55)).alloc (.cells #[.int .i64 b0, .string b1, .int .i64 b2, .slice ba b3.len bc] 55)).alloc (.cells #[.int .i64 x0, .slice xa x1.length xc, .slice xe x2.len xf, .int .i64 x3, .int .i64 x4] 42)) (.cells #[.int .i64 y0, .slice ya y1.length yc, .slice ye y2.len yf, .int .i64 y3, .int .i64 y4] 42)
  have z1 := al_sz w (.cells #[.int .i64 a0, .string a1, .int .i64 a2, .slice aa a3.len ac] 55)
  have z2 := al_sz (w.alloc (.cells #[.int .i64 a0, .string a1, .int .i64 a2, .slice aa a3.len ac] 55)) (.cells #[.int .i64 b0, .string b1, .int .i64 b2, .slice ba b3.len bc] 55)
  have z3 := al_sz ((w.alloc (.cells #[.int .i64 a0, .string a1, .int .i64 a2, .slice aa a3.len ac] 55)).alloc (.cells #[.int .i64 b0, .string b1, .int .i64 b2, .slice ba b3.len bc] 55)) (.cells #[.int .i64 x0, .slice xa x1.length xc, .slice xe x2.len xf, .int .i64 x3, .int .i64 x4] 42)
  have z4 := al_sz (((w.alloc (.cells #[.int .i64 a0, .string a1, .int .i64 a2, .slice aa a3.len ac] 55)).alloc (.cells #[.int .i64 b0, .string b1, .int .i64 b2, .slice ba b3.len bc] 55)).alloc (.cells #[.int .i64 x0, .slice xa x1.length xc, .slice xe x2.len xf, .int .i64 x3, .int .i64 x4] 42)) (.cells #[.int .i64 y0, .slice ya y1.length yc, .slice ye y2.len yf, .int .i64 y3, .int .i64 y4] 42)
  rw [z1] at z2 B2
  rw [z2] at z3 B3
  rw [z3] at z4 B4
  have C1 := hide (G4.blk (G3.blk (G2.blk B1)))
  have C2 := hide (G4.blk (G3.blk B2))
  have C3 := hide (G4.blk B3)
  have C4 := hide B4
  have GM_0 := hide (((G1.trans G2).trans G3).trans G4)
  have NA_0 := hide (na.chg GM_0.out (fun _ _ h => h))
  have NB_0 := hide (nb.chg GM_0.out (fun _ _ h => h))
  have WX_0 := hide (sx.chg GM_0.out (fun _ _ h => h))
  have NX_0 := hide (tx.chg GM_0.out (fun _ _ h => h))
  have WY_0 := hide (sy.chg GM_0.out (fun _ _ h => h))
  have NY_0 := hide (ty.chg GM_0.out (fun _ _ h => h))
  have HZ := hide z4
  clear G1 G2 G3 G4 B1 B2 B3 B4 z1 z2 z3 z4 na nb sx tx sy ty wa1 wa2 wb1 wb2
  go_enter Try.func7, Try.ntmps7
  go_upto_region 1 with fail
  generalize ((((w.alloc (.cells #[.int .i64 a0, .string a1, .int .i64 a2, .slice aa a3.len ac] 55)).alloc (.cells #[.int .i64 b0, .string b1, .int .i64 b2, .slice ba b3.len bc] 55)).alloc (.cells #[.int .i64 x0, .slice xa x1.length xc, .slice xe x2.len xf, .int .i64 x3, .int .i64 x4] 42)).alloc (.cells #[.int .i64 y0, .slice ya y1.length yc, .slice ye y2.len yf, .int .i64 y3, .int .i64 y4] 42)) = w1 at *
  obtain ⟨P, hP⟩ : ∃ P, w.heap.size = P := ⟨_, rfl⟩
  have HPW := hide hP
  rw [hP] at C1 C2 C3 C4 HZ ⊢
  obtain ⟨Q, hQ⟩ : ∃ Q, P + 1 = Q := ⟨_, rfl⟩
  obtain ⟨U, hU⟩ : ∃ U, Q + 1 = U := ⟨_, rfl⟩
  obtain ⟨V, hV⟩ : ∃ V, U + 1 = V := ⟨_, rfl⟩
  rw [hQ] at C2 C3 C4 HZ ⊢
  rw [hU] at C3 C4 HZ ⊢
  rw [hV] at C4 HZ ⊢
  have PL : Hid (w.heap.size = P ∧ P < Q ∧ Q < U ∧ U < V ∧ V < w1.heap.size) := hide (by have := HPW.out; have := HZ.out; omega)
  clear hP hQ hU hV HPW HZ
  have p0_0 := blk_cell C1.out 0
  have p1_0 := blk_cell C1.out 1
  have p2_0 := blk_cell C1.out 2
  have p3_0 := blk_cell C1.out 3
  have q0_0 := blk_cell C2.out 0
  have q1_0 := blk_cell C2.out 1
  have q2_0 := blk_cell C2.out 2
  have q3_0 := blk_cell C2.out 3
  have r0_0 := blk_cell C3.out 0
  have r1_0 := blk_cell C3.out 1
  have r2_0 := blk_cell C3.out 2
  have r3_0 := blk_cell C3.out 3
  have r4_0 := blk_cell C3.out 4
  have t0_0 := blk_cell C4.out 0
  have t1_0 := blk_cell C4.out 1
  have t2_0 := blk_cell C4.out 2
  have t3_0 := blk_cell C4.out 3
  have t4_0 := blk_cell C4.out 4
  simp only [List.getElem?_toArray, List.getElem?_cons_zero, List.getElem?_cons_succ] at p0_0 p1_0 p2_0 p3_0 q0_0 q1_0 q2_0 q3_0 r0_0 r1_0 r2_0 r3_0 r4_0 t0_0 t1_0 t2_0 t3_0 t4_0
  clear C1 C2 C3 C4
  obtain ⟨fa, hfa⟩ : ∃ fa, decide (fewV 70 a3 ≤ 100) = fa := ⟨_, rfl⟩
  obtain ⟨fb, hfb⟩ : ∃ fb, decide (fewV 70 b3 ≤ 100) = fb := ⟨_, rfl⟩
  obtain ⟨fx, hfx⟩ : ∃ fx, smallI (x0, x1, x2, x3, x4) = fx := ⟨_, rfl⟩
  obtain ⟨fy, hfy⟩ : ∃ fy, smallI (y0, y1, y2, y3, y4) = fy := ⟨_, rfl⟩
  have FF := hide (And.intro (And.intro hfa hfb) (And.intro hfx hfy))
  clear hfa hfb hfx hfy
  obtain ⟨D, hD⟩ : ∃ D, (!(fa && (fb && (fx && fy)))) = D := ⟨_, rfl⟩
  have HD := hide hD
  clear hD
  go_cut [29] (fun sv wx => sv = .bool D ∧ Hid (Chg (fun _ => False) w1 wx))
  case first =>
    have G0 : Hid (Chg (fun _ => False) w1 w1) := hide (Chg.refl _ _)
    go_wp2_with fail
    refine (fewF_any a3 a0 a1 a2 _ (fun x => x < w.heap.size) _ (fun x hx => Nat.lt_of_lt_of_le hx (GM_0.out.trans G0.out).size) (NA_0.out.chg G0.out (fun _ _ h => h))).mono ?_
    rintro e wq1 ⟨rfl, g⟩
    rw [FF.out.1.1]
    have G1 := hide (G0.out.trans g)
    have p0_1 := g.cell (fun h => h) p0_0
    have p1_1 := g.cell (fun h => h) p1_0
    have p2_1 := g.cell (fun h => h) p2_0
    have p3_1 := g.cell (fun h => h) p3_0
    have q0_1 := g.cell (fun h => h) q0_0
    have q1_1 := g.cell (fun h => h) q1_0
    have q2_1 := g.cell (fun h => h) q2_0
    have q3_1 := g.cell (fun h => h) q3_0
    have r0_1 := g.cell (fun h => h) r0_0
    have r1_1 := g.cell (fun h => h) r1_0
    have r2_1 := g.cell (fun h => h) r2_0
    have r3_1 := g.cell (fun h => h) r3_0
    have r4_1 := g.cell (fun h => h) r4_0
    have t0_1 := g.cell (fun h => h) t0_0
    have t1_1 := g.cell (fun h => h) t1_0
    have t2_1 := g.cell (fun h => h) t2_0
    have t3_1 := g.cell (fun h => h) t3_0
    have t4_1 := g.cell (fun h => h) t4_0
    clear p0_0 p1_0 p2_0 p3_0 q0_0 q1_0 q2_0 q3_0 r0_0 r1_0 r2_0 r3_0 r4_0 t0_0 t1_0 t2_0 t3_0 t4_0
    clear g
    cases h0 : fa
    · subst h0
      go_wp2_with fail
      go_meet
      exact ⟨by rw [← HD.out]; rfl, G1⟩
    · subst h0
      go_wp2_with fail
      refine (fewF_any b3 b0 b1 b2 _ (fun x => x < w.heap.size) _ (fun x hx => Nat.lt_of_lt_of_le hx (GM_0.out.trans G1.out).size) (NB_0.out.chg G1.out (fun _ _ h => h))).mono ?_
      rintro e wq2 ⟨rfl, g⟩
      rw [FF.out.1.2]
      have G2 := hide (G1.out.trans g)
      have p0_2 := g.cell (fun h => h) p0_1
      have p1_2 := g.cell (fun h => h) p1_1
      have p2_2 := g.cell (fun h => h) p2_1
      have p3_2 := g.cell (fun h => h) p3_1
      have q0_2 := g.cell (fun h => h) q0_1
      have q1_2 := g.cell (fun h => h) q1_1
      have q2_2 := g.cell (fun h => h) q2_1
      have q3_2 := g.cell (fun h => h) q3_1
      have r0_2 := g.cell (fun h => h) r0_1
      have r1_2 := g.cell (fun h => h) r1_1
      have r2_2 := g.cell (fun h => h) r2_1
      have r3_2 := g.cell (fun h => h) r3_1
      have r4_2 := g.cell (fun h => h) r4_1
      have t0_2 := g.cell (fun h => h) t0_1
      have t1_2 := g.cell (fun h => h) t1_1
      have t2_2 := g.cell (fun h => h) t2_1
      have t3_2 := g.cell (fun h => h) t3_1
      have t4_2 := g.cell (fun h => h) t4_1
      clear p0_1 p1_1 p2_1 p3_1 q0_1 q1_1 q2_1 q3_1 r0_1 r1_1 r2_1 r3_1 r4_1 t0_1 t1_1 t2_1 t3_1 t4_1
      clear g
      cases h1 : fb
      · subst h1
        go_wp2_with fail
        go_meet
        exact ⟨by rw [← HD.out]; rfl, G2⟩
      · subst h1
        go_wp2_with fail
        refine (small_any x0 x1 x2 x3 x4 _ _ (fun x => x < w.heap.size) _ (fun x hx => Nat.lt_of_lt_of_le hx (GM_0.out.trans G2.out).size) (WX_0.out.chg G2.out (fun _ _ h => h)) (NX_0.out.chg G2.out (fun _ _ h => h))).mono ?_
        rintro e wq3 ⟨rfl, g⟩
        rw [FF.out.2.1]
        have G3 := hide (G2.out.trans g)
        have p0_3 := g.cell (fun h => h) p0_2
        have p1_3 := g.cell (fun h => h) p1_2
        have p2_3 := g.cell (fun h => h) p2_2
        have p3_3 := g.cell (fun h => h) p3_2
        have q0_3 := g.cell (fun h => h) q0_2
        have q1_3 := g.cell (fun h => h) q1_2
        have q2_3 := g.cell (fun h => h) q2_2
        have q3_3 := g.cell (fun h => h) q3_2
        have r0_3 := g.cell (fun h => h) r0_2
        have r1_3 := g.cell (fun h => h) r1_2
        have r2_3 := g.cell (fun h => h) r2_2
        have r3_3 := g.cell (fun h => h) r3_2
        have r4_3 := g.cell (fun h => h) r4_2
        have t0_3 := g.cell (fun h => h) t0_2
        have t1_3 := g.cell (fun h => h) t1_2
        have t2_3 := g.cell (fun h => h) t2_2
        have t3_3 := g.cell (fun h => h) t3_2
        have t4_3 := g.cell (fun h => h) t4_2
        clear p0_2 p1_2 p2_2 p3_2 q0_2 q1_2 q2_2 q3_2 r0_2 r1_2 r2_2 r3_2 r4_2 t0_2 t1_2 t2_2 t3_2 t4_2
        clear g
        cases h2 : fx
        · subst h2
          go_wp2_with fail
          go_meet
          exact ⟨by rw [← HD.out]; rfl, G3⟩
        · subst h2
          go_wp2_with fail
          refine (small_any y0 y1 y2 y3 y4 _ _ (fun x => x < w.heap.size) _ (fun x hx => Nat.lt_of_lt_of_le hx (GM_0.out.trans G3.out).size) (WY_0.out.chg G3.out (fun _ _ h => h)) (NY_0.out.chg G3.out (fun _ _ h => h))).mono ?_
          rintro e wq4 ⟨rfl, g⟩
          rw [FF.out.2.2]
          have G4 := hide (G3.out.trans g)
          have p0_4 := g.cell (fun h => h) p0_3
          have p1_4 := g.cell (fun h => h) p1_3
          have p2_4 := g.cell (fun h => h) p2_3
          have p3_4 := g.cell (fun h => h) p3_3
          have q0_4 := g.cell (fun h => h) q0_3
          have q1_4 := g.cell (fun h => h) q1_3
          have q2_4 := g.cell (fun h => h) q2_3
          have q3_4 := g.cell (fun h => h) q3_3
          have r0_4 := g.cell (fun h => h) r0_3
          have r1_4 := g.cell (fun h => h) r1_3
          have r2_4 := g.cell (fun h => h) r2_3
          have r3_4 := g.cell (fun h => h) r3_3
          have r4_4 := g.cell (fun h => h) r4_3
          have t0_4 := g.cell (fun h => h) t0_3
          have t1_4 := g.cell (fun h => h) t1_3
          have t2_4 := g.cell (fun h => h) t2_3
          have t3_4 := g.cell (fun h => h) t3_3
          have t4_4 := g.cell (fun h => h) t4_3
          clear p0_3 p1_3 p2_3 p3_3 q0_3 q1_3 q2_3 q3_3 r0_3 r1_3 r2_3 r3_3 r4_3 t0_3 t1_3 t2_3 t3_3 t4_3
          clear g
          cases h3 : fy
          · subst h3
            go_wp2_with fail
            go_meet
            exact ⟨by rw [← HD.out]; rfl, G4⟩
          · subst h3
            go_wp2_with fail
            go_meet
            exact ⟨by rw [← HD.out]; rfl, G4⟩
  case rest =>
  obtain ⟨rfl, GW⟩ := hcut
  have WGG := GW.out
  have p0_1 := WGG.cell (fun h => h) p0_0
  have p1_1 := WGG.cell (fun h => h) p1_0
  have p2_1 := WGG.cell (fun h => h) p2_0
  have p3_1 := WGG.cell (fun h => h) p3_0
  have q0_1 := WGG.cell (fun h => h) q0_0
  have q1_1 := WGG.cell (fun h => h) q1_0
  have q2_1 := WGG.cell (fun h => h) q2_0
  have q3_1 := WGG.cell (fun h => h) q3_0
  have r0_1 := WGG.cell (fun h => h) r0_0
  have r1_1 := WGG.cell (fun h => h) r1_0
  have r2_1 := WGG.cell (fun h => h) r2_0
  have r3_1 := WGG.cell (fun h => h) r3_0
  have r4_1 := WGG.cell (fun h => h) r4_0
  have t0_1 := WGG.cell (fun h => h) t0_0
  have t1_1 := WGG.cell (fun h => h) t1_0
  have t2_1 := WGG.cell (fun h => h) t2_0
  have t3_1 := WGG.cell (fun h => h) t3_0
  have t4_1 := WGG.cell (fun h => h) t4_0
  have NA_1 := hide (NA_0.out.chg WGG (fun _ _ h => h))
  have NB_1 := hide (NB_0.out.chg WGG (fun _ _ h => h))
  have WX_1 := hide (WX_0.out.chg WGG (fun _ _ h => h))
  have NX_1 := hide (NX_0.out.chg WGG (fun _ _ h => h))
  have WY_1 := hide (WY_0.out.chg WGG (fun _ _ h => h))
  have NY_1 := hide (NY_0.out.chg WGG (fun _ _ h => h))
  have GM_1 := hide (GM_0.out.trans WGG)
  clear p0_0 p1_0 p2_0 p3_0 q0_0 q1_0 q2_0 q3_0 r0_0 r1_0 r2_0 r3_0 r4_0 t0_0 t1_0 t2_0 t3_0 t4_0 NA_0 NB_0 WX_0 NX_0 WY_0 NY_0 GM_0
  clear WGG GW
  cases D
  rotate_left
  · clear p0_1 p1_1 p2_1 p3_1 q0_1 q1_1 q2_1 q3_1 r0_1 r1_1 r2_1 r3_1 r4_1 t0_1 t1_1 t2_1 t3_1 t4_1
    go_wp2_with fail
    refine (known_any _).mono ?_
    rintro e w5 ⟨rfl, g⟩
    have G5 := hide (GM_1.out.trans g)
    clear g
    go_wp2_with fail
    go_ret
    exact ⟨rfl, G5.out⟩
  have KK : Hid (((Ok1 (a0, a1, a2, a3) ∧ a3.size ≤ 100) ∧ (Ok1 (b0, b1, b2, b3) ∧ b3.size ≤ 100)) ∧ (Ok2 (x0, x1, x2, x3, x4) ∧ Ok2 (y0, y1, y2, y3, y4))) := hide (by
    have h := HD.out
    simp only [Bool.not_eq_false', Bool.and_eq_true] at h
    obtain ⟨h1, h2, h3, h4⟩ := h
    subst h1 h2 h3 h4
    exact ⟨⟨few_ok (n := (a0, a1, a2, a3)) (of_decide_eq_true FF.out.1.1), few_ok (n := (b0, b1, b2, b3)) (of_decide_eq_true FF.out.1.2)⟩, smallI_ok FF.out.2.1, smallI_ok FF.out.2.2⟩)
  clear HD FF
  obtain ⟨RN, hRN⟩ : ∃ RN, nmsR (.cons a0 a1 a2 a3 (.cons b0 b1 b2 b3 .nil)) [] = RN := ⟨_, rfl⟩
  have HRN := hide hRN
  have HRL : Hid (RN.length ≤ 900000) := hide (by rw [← hRN]; have h := nmsR_le (.cons a0 a1 a2 a3 (.cons b0 b1 b2 b3 .nil)) []; have h1 := KK.out.1.1.2; have h2 := KK.out.1.2.2; simp only [Ns.size, List.length_nil] at h; omega)
  clear hRN
  go_upto_region 3 with fail
  refine wp_region_held_drew (S := (fun w' => w'.cell? ⟨P, 0, none⟩ = some (.int .i64 a0) ∧ w'.cell? ⟨P, 1, none⟩ = some (.string a1) ∧ w'.cell? ⟨P, 2, none⟩ = some (.int .i64 a2) ∧ w'.cell? ⟨P, 3, none⟩ = some (.slice aa a3.len ac) ∧ w'.cell? ⟨Q, 0, none⟩ = some (.int .i64 b0) ∧ w'.cell? ⟨Q, 1, none⟩ = some (.string b1) ∧ w'.cell? ⟨Q, 2, none⟩ = some (.int .i64 b2) ∧ w'.cell? ⟨Q, 3, none⟩ = some (.slice ba b3.len bc) ∧ w'.cell? ⟨U, 0, none⟩ = some (.int .i64 x0) ∧ w'.cell? ⟨U, 1, none⟩ = some (.slice xa x1.length xc) ∧ w'.cell? ⟨U, 2, none⟩ = some (.slice xe x2.len xf) ∧ w'.cell? ⟨U, 3, none⟩ = some (.int .i64 x3) ∧ w'.cell? ⟨U, 4, none⟩ = some (.int .i64 x4) ∧ w'.cell? ⟨V, 0, none⟩ = some (.int .i64 y0) ∧ w'.cell? ⟨V, 1, none⟩ = some (.slice ya y1.length yc) ∧ w'.cell? ⟨V, 2, none⟩ = some (.slice ye y2.len yf) ∧ w'.cell? ⟨V, 3, none⟩ = some (.int .i64 y3) ∧ w'.cell? ⟨V, 4, none⟩ = some (.int .i64 y4))) (by kernel_rfl) (by go_keep) (fun hHeld => ?_)
  have WD := (Chg.refl (fun _ => False) wc).drew
  have p0_2 := WD.cell (fun h => h) p0_1
  have p1_2 := WD.cell (fun h => h) p1_1
  have p2_2 := WD.cell (fun h => h) p2_1
  have p3_2 := WD.cell (fun h => h) p3_1
  have q0_2 := WD.cell (fun h => h) q0_1
  have q1_2 := WD.cell (fun h => h) q1_1
  have q2_2 := WD.cell (fun h => h) q2_1
  have q3_2 := WD.cell (fun h => h) q3_1
  have r0_2 := WD.cell (fun h => h) r0_1
  have r1_2 := WD.cell (fun h => h) r1_1
  have r2_2 := WD.cell (fun h => h) r2_1
  have r3_2 := WD.cell (fun h => h) r3_1
  have r4_2 := WD.cell (fun h => h) r4_1
  have t0_2 := WD.cell (fun h => h) t0_1
  have t1_2 := WD.cell (fun h => h) t1_1
  have t2_2 := WD.cell (fun h => h) t2_1
  have t3_2 := WD.cell (fun h => h) t3_1
  have t4_2 := WD.cell (fun h => h) t4_1
  have NA_2 := hide (NA_1.out.chg WD (fun _ _ h => h))
  have NB_2 := hide (NB_1.out.chg WD (fun _ _ h => h))
  have WX_2 := hide (WX_1.out.chg WD (fun _ _ h => h))
  have NX_2 := hide (NX_1.out.chg WD (fun _ _ h => h))
  have WY_2 := hide (WY_1.out.chg WD (fun _ _ h => h))
  have NY_2 := hide (NY_1.out.chg WD (fun _ _ h => h))
  have GM_2 := hide (GM_1.out.trans WD)
  clear p0_1 p1_1 p2_1 p3_1 q0_1 q1_1 q2_1 q3_1 r0_1 r1_1 r2_1 r3_1 r4_1 t0_1 t1_1 t2_1 t3_1 t4_1 NA_1 NB_1 WX_1 NX_1 WY_1 NY_1 GM_1
  clear WD
  first
    | (refine wpAnyH_take (i := 0) (v := undef) rfl (by kernel_rfl) (by kernel_rfl) (by kernel_rfl) (fun _ _ _ h => h) (Or.inr ⟨by rfl, rfl⟩) (by assumption) ?_)
    | (refine wpAnyH_take (i := 0) (v := ?_) rfl (by kernel_rfl) (by kernel_rfl) (by kernel_rfl) (fun _ _ _ h => h) (Or.inl ⟨by rfl, ?_⟩) (by assumption) ?_
       rotate_left
       (intro w hSw
        (try dsimp only at hSw)
        (go_simp <;> with_reducible rfl)))
  try simp only [Act.put, List.getElem_toArray, List.getElem_cons_zero, List.getElem_cons_succ, List.setIfInBounds_toArray, List.set_cons_zero, List.set_cons_succ]
  first
    | (refine wpAnyH_take (i := 2) (v := undef) rfl (by kernel_rfl) (by kernel_rfl) (by kernel_rfl) (fun _ _ _ h => h) (Or.inr ⟨by rfl, rfl⟩) (by assumption) ?_)
    | (refine wpAnyH_take (i := 2) (v := ?_) rfl (by kernel_rfl) (by kernel_rfl) (by kernel_rfl) (fun _ _ _ h => h) (Or.inl ⟨by rfl, ?_⟩) (by assumption) ?_
       rotate_left
       (intro w hSw
        (try dsimp only at hSw)
        (go_simp <;> with_reducible rfl)))
  try simp only [Act.put, List.getElem_toArray, List.getElem_cons_zero, List.getElem_cons_succ, List.setIfInBounds_toArray, List.set_cons_zero, List.set_cons_succ]
  refine wpAnyH_ready (rs := [1]) (by kernel_rfl) (by simp) ?_
  refine AllReadyH.cons (i := 1) (o := _) rfl (fun K hK => ?_) ?_
  rotate_left
  · exact AllReadyH.nil
  go_simp
  refine (pto_any a3 KK.out.1.1.1.1 KK.out.1.1.1.2 a0 a1 a2 _ (fun x => x < w.heap.size) _ (fun x hx => Nat.lt_of_lt_of_le hx GM_2.out.size) NA_2.out).mono ?_
  rintro e wc1 ⟨⟨v1, rfl, hv1⟩, g⟩
  have WG := g
  have p0_3 := WG.cell (fun h => h) p0_2
  have p1_3 := WG.cell (fun h => h) p1_2
  have p2_3 := WG.cell (fun h => h) p2_2
  have p3_3 := WG.cell (fun h => h) p3_2
  have q0_3 := WG.cell (fun h => h) q0_2
  have q1_3 := WG.cell (fun h => h) q1_2
  have q2_3 := WG.cell (fun h => h) q2_2
  have q3_3 := WG.cell (fun h => h) q3_2
  have r0_3 := WG.cell (fun h => h) r0_2
  have r1_3 := WG.cell (fun h => h) r1_2
  have r2_3 := WG.cell (fun h => h) r2_2
  have r3_3 := WG.cell (fun h => h) r3_2
  have r4_3 := WG.cell (fun h => h) r4_2
  have t0_3 := WG.cell (fun h => h) t0_2
  have t1_3 := WG.cell (fun h => h) t1_2
  have t2_3 := WG.cell (fun h => h) t2_2
  have t3_3 := WG.cell (fun h => h) t3_2
  have t4_3 := WG.cell (fun h => h) t4_2
  have NA_3 := hide (NA_2.out.chg WG (fun _ _ h => h))
  have NB_3 := hide (NB_2.out.chg WG (fun _ _ h => h))
  have WX_3 := hide (WX_2.out.chg WG (fun _ _ h => h))
  have NX_3 := hide (NX_2.out.chg WG (fun _ _ h => h))
  have WY_3 := hide (WY_2.out.chg WG (fun _ _ h => h))
  have NY_3 := hide (NY_2.out.chg WG (fun _ _ h => h))
  have GM_3 := hide (GM_2.out.trans WG)
  clear p0_2 p1_2 p2_2 p3_2 q0_2 q1_2 q2_2 q3_2 r0_2 r1_2 r2_2 r3_2 r4_2 t0_2 t1_2 t2_2 t3_2 t4_2 NA_2 NB_2 WX_2 NX_2 WY_2 NY_2 GM_2
  obtain ⟨z1a, z1c, rfl, _⟩ := id hv1
  have NV1 := hide (hv1.up (Y := fun x => x < wc1.heap.size) (fun x hx => hx.2))
  clear hv1
  clear WG
  try go_simp
  refine hK.out _ _ ⟨p0_3, p1_3, p2_3, p3_3, q0_3, q1_3, q2_3, q3_3, r0_3, r1_3, r2_3, r3_3, r4_3, t0_3, t1_3, t2_3, t3_3, t4_3⟩ (fun hHeld => ?_)
  clear hK K
  try simp only [Act.put, List.getElem_toArray, List.getElem_cons_zero, List.getElem_cons_succ, List.setIfInBounds_toArray, List.set_cons_zero, List.set_cons_succ]
  refine wpAnyH_ready (rs := [3]) (by kernel_rfl) (by simp) ?_
  refine AllReadyH.cons (i := 3) (o := _) rfl (fun K hK => ?_) ?_
  rotate_left
  · exact AllReadyH.nil
  go_simp
  refine (pto_any b3 KK.out.1.2.1.1 KK.out.1.2.1.2 b0 b1 b2 _ (fun x => x < w.heap.size) _ (fun x hx => Nat.lt_of_lt_of_le hx GM_3.out.size) NB_3.out).mono ?_
  rintro e wc2 ⟨⟨v2, rfl, hv2⟩, g⟩
  have WG := g
  have NV1 := hide ((NV1.out.chg WG (fun _ _ h => h)).up (Y := fun x => x < wc2.heap.size) (fun x hx => Nat.lt_of_lt_of_le hx WG.size))
  have p0_4 := WG.cell (fun h => h) p0_3
  have p1_4 := WG.cell (fun h => h) p1_3
  have p2_4 := WG.cell (fun h => h) p2_3
  have p3_4 := WG.cell (fun h => h) p3_3
  have q0_4 := WG.cell (fun h => h) q0_3
  have q1_4 := WG.cell (fun h => h) q1_3
  have q2_4 := WG.cell (fun h => h) q2_3
  have q3_4 := WG.cell (fun h => h) q3_3
  have r0_4 := WG.cell (fun h => h) r0_3
  have r1_4 := WG.cell (fun h => h) r1_3
  have r2_4 := WG.cell (fun h => h) r2_3
  have r3_4 := WG.cell (fun h => h) r3_3
  have r4_4 := WG.cell (fun h => h) r4_3
  have t0_4 := WG.cell (fun h => h) t0_3
  have t1_4 := WG.cell (fun h => h) t1_3
  have t2_4 := WG.cell (fun h => h) t2_3
  have t3_4 := WG.cell (fun h => h) t3_3
  have t4_4 := WG.cell (fun h => h) t4_3
  have NA_4 := hide (NA_3.out.chg WG (fun _ _ h => h))
  have NB_4 := hide (NB_3.out.chg WG (fun _ _ h => h))
  have WX_4 := hide (WX_3.out.chg WG (fun _ _ h => h))
  have NX_4 := hide (NX_3.out.chg WG (fun _ _ h => h))
  have WY_4 := hide (WY_3.out.chg WG (fun _ _ h => h))
  have NY_4 := hide (NY_3.out.chg WG (fun _ _ h => h))
  have GM_4 := hide (GM_3.out.trans WG)
  clear p0_3 p1_3 p2_3 p3_3 q0_3 q1_3 q2_3 q3_3 r0_3 r1_3 r2_3 r3_3 r4_3 t0_3 t1_3 t2_3 t3_3 t4_3 NA_3 NB_3 WX_3 NX_3 WY_3 NY_3 GM_3
  obtain ⟨z2a, z2c, rfl, _⟩ := id hv2
  have NV2 := hide (hv2.up (Y := fun x => x < wc2.heap.size) (fun x hx => hx.2))
  clear hv2
  clear WG
  try go_simp
  refine hK.out _ _ ⟨p0_4, p1_4, p2_4, p3_4, q0_4, q1_4, q2_4, q3_4, r0_4, r1_4, r2_4, r3_4, r4_4, t0_4, t1_4, t2_4, t3_4, t4_4⟩ (fun hHeld => ?_)
  clear hK K
  try simp only [Act.put, List.getElem_toArray, List.getElem_cons_zero, List.getElem_cons_succ, List.setIfInBounds_toArray, List.set_cons_zero, List.set_cons_succ]
  refine wpAnyH_ready (rs := [4]) (by kernel_rfl) (by simp) ?_
  refine AllReadyH.cons (i := 4) (o := _) rfl (fun K hK => ?_) ?_
  rotate_left
  · exact AllReadyH.nil
  have GA := al wc2 (.cells #[.int .i64 a0, .string a1, .int .i64 a2, .slice z1a a3.len z1c, .int .i64 b0, .string b1, .int .i64 b2, .slice z2a b3.len z2c] 51)
  have NBL := blk_new wc2 (.cells #[.int .i64 a0, .string a1, .int .i64 a2, .slice z1a a3.len z1c, .int .i64 b0, .string b1, .int .i64 b2, .slice z2a b3.len z2c] 51)
  have TR := hide (ts_two (n := (a0, a1, a2, a3)) (m := (b0, b1, b2, b3)) (X := fun x => x < (wc2.alloc (.cells #[.int .i64 a0, .string a1, .int .i64 a2, .slice z1a a3.len z1c, .int .i64 b0, .string b1, .int .i64 b2, .slice z2a b3.len z2c] 51)).heap.size) (by show wc2.heap.size < _; rw [al_sz]; omega) NBL ((NV1.out.chg GA (fun _ _ h => h)).up (fun x hx => Nat.lt_of_lt_of_le hx GA.size)) ((NV2.out.chg GA (fun _ _ h => h)).up (fun x hx => Nat.lt_of_lt_of_le hx GA.size)))
  dsimp only [Nd.kind, Nd.word, Nd.at, Nd.kids] at TR
  have p0_5 := GA.cell (fun h => h) p0_4
  have p1_5 := GA.cell (fun h => h) p1_4
  have p2_5 := GA.cell (fun h => h) p2_4
  have p3_5 := GA.cell (fun h => h) p3_4
  have q0_5 := GA.cell (fun h => h) q0_4
  have q1_5 := GA.cell (fun h => h) q1_4
  have q2_5 := GA.cell (fun h => h) q2_4
  have q3_5 := GA.cell (fun h => h) q3_4
  have r0_5 := GA.cell (fun h => h) r0_4
  have r1_5 := GA.cell (fun h => h) r1_4
  have r2_5 := GA.cell (fun h => h) r2_4
  have r3_5 := GA.cell (fun h => h) r3_4
  have r4_5 := GA.cell (fun h => h) r4_4
  have t0_5 := GA.cell (fun h => h) t0_4
  have t1_5 := GA.cell (fun h => h) t1_4
  have t2_5 := GA.cell (fun h => h) t2_4
  have t3_5 := GA.cell (fun h => h) t3_4
  have t4_5 := GA.cell (fun h => h) t4_4
  have NA_5 := hide (NA_4.out.chg GA (fun _ _ h => h))
  have NB_5 := hide (NB_4.out.chg GA (fun _ _ h => h))
  have WX_5 := hide (WX_4.out.chg GA (fun _ _ h => h))
  have NX_5 := hide (NX_4.out.chg GA (fun _ _ h => h))
  have WY_5 := hide (WY_4.out.chg GA (fun _ _ h => h))
  have NY_5 := hide (NY_4.out.chg GA (fun _ _ h => h))
  have GM_5 := hide (GM_4.out.trans GA)
  clear p0_4 p1_4 p2_4 p3_4 q0_4 q1_4 q2_4 q3_4 r0_4 r1_4 r2_4 r3_4 r4_4 t0_4 t1_4 t2_4 t3_4 t4_4 NA_4 NB_4 WX_4 NX_4 WY_4 NY_4 GM_4
  clear GA NBL NV1 NV2
  go_simp
  refine hK.out _ _ ⟨p0_5, p1_5, p2_5, p3_5, q0_5, q1_5, q2_5, q3_5, r0_5, r1_5, r2_5, r3_5, r4_5, t0_5, t1_5, t2_5, t3_5, t4_5⟩ (fun hHeld => ?_)
  clear hK K
  try simp only [Act.put, List.getElem_toArray, List.getElem_cons_zero, List.getElem_cons_succ, List.setIfInBounds_toArray, List.set_cons_zero, List.set_cons_succ]
  refine wpAnyH_ready (rs := [5]) (by kernel_rfl) (by simp) ?_
  refine AllReadyH.cons (i := 5) (o := _) rfl (fun K hK => ?_) ?_
  rotate_left
  · exact AllReadyH.nil
  go_simp
  refine (names_any (.cons a0 a1 a2 a3 (.cons b0 b1 b2 b3 .nil)) (by have := KK.out.1.1.2; have := KK.out.1.2.2; simp only [Ns.size]; omega) ⟨WS.out.1.1, WS.out.1.2, WS.out.2.1, WS.out.2.2, trivial⟩ _ _ _ (fun x hx => hx) TR.out).mono ?_
  rintro e wc3 ⟨⟨u9, rfl, hu9⟩, g⟩
  have WG := g
  have p0_6 := WG.cell (fun h => h) p0_5
  have p1_6 := WG.cell (fun h => h) p1_5
  have p2_6 := WG.cell (fun h => h) p2_5
  have p3_6 := WG.cell (fun h => h) p3_5
  have q0_6 := WG.cell (fun h => h) q0_5
  have q1_6 := WG.cell (fun h => h) q1_5
  have q2_6 := WG.cell (fun h => h) q2_5
  have q3_6 := WG.cell (fun h => h) q3_5
  have r0_6 := WG.cell (fun h => h) r0_5
  have r1_6 := WG.cell (fun h => h) r1_5
  have r2_6 := WG.cell (fun h => h) r2_5
  have r3_6 := WG.cell (fun h => h) r3_5
  have r4_6 := WG.cell (fun h => h) r4_5
  have t0_6 := WG.cell (fun h => h) t0_5
  have t1_6 := WG.cell (fun h => h) t1_5
  have t2_6 := WG.cell (fun h => h) t2_5
  have t3_6 := WG.cell (fun h => h) t3_5
  have t4_6 := WG.cell (fun h => h) t4_5
  have NA_6 := hide (NA_5.out.chg WG (fun _ _ h => h))
  have NB_6 := hide (NB_5.out.chg WG (fun _ _ h => h))
  have WX_6 := hide (WX_5.out.chg WG (fun _ _ h => h))
  have NX_6 := hide (NX_5.out.chg WG (fun _ _ h => h))
  have WY_6 := hide (WY_5.out.chg WG (fun _ _ h => h))
  have NY_6 := hide (NY_5.out.chg WG (fun _ _ h => h))
  have GM_6 := hide (GM_5.out.trans WG)
  clear p0_5 p1_5 p2_5 p3_5 q0_5 q1_5 q2_5 q3_5 r0_5 r1_5 r2_5 r3_5 r4_5 t0_5 t1_5 t2_5 t3_5 t4_5 NA_5 NB_5 WX_5 NX_5 WY_5 NY_5 GM_5
  rw [HRN.out] at hu9
  obtain ⟨n9, c9, rfl, _⟩ := id hu9
  have L1 := hide (hu9.up (Y := fun x => x < wc3.heap.size) (fun x hx => hx.2))
  clear hu9 TR
  clear WG
  try go_simp
  refine hK.out _ _ ⟨p0_6, p1_6, p2_6, p3_6, q0_6, q1_6, q2_6, q3_6, r0_6, r1_6, r2_6, r3_6, r4_6, t0_6, t1_6, t2_6, t3_6, t4_6⟩ (fun hHeld => ?_)
  clear hK K
  try simp only [Act.put, List.getElem_toArray, List.getElem_cons_zero, List.getElem_cons_succ, List.setIfInBounds_toArray, List.set_cons_zero, List.set_cons_succ]
  first
    | (refine wpAnyH_take (i := 6) (v := undef) rfl (by kernel_rfl) (by kernel_rfl) (by kernel_rfl) (fun _ _ _ h => h) (Or.inr ⟨by rfl, rfl⟩) (by assumption) ?_)
    | (refine wpAnyH_take (i := 6) (v := ?_) rfl (by kernel_rfl) (by kernel_rfl) (by kernel_rfl) (fun _ _ _ h => h) (Or.inl ⟨by rfl, ?_⟩) (by assumption) ?_
       rotate_left
       (intro w hSw
        (try dsimp only at hSw)
        (go_simp <;> with_reducible rfl)))
  try simp only [Act.put, List.getElem_toArray, List.getElem_cons_zero, List.getElem_cons_succ, List.setIfInBounds_toArray, List.set_cons_zero, List.set_cons_succ]
  refine wpAnyH_done (by kernel_rfl) ?_ _
  go_upto_region 4 with fail
  refine wp_region_held_drew (S := (fun w' => w'.cell? ⟨P, 0, none⟩ = some (.int .i64 a0) ∧ w'.cell? ⟨P, 1, none⟩ = some (.string a1) ∧ w'.cell? ⟨P, 2, none⟩ = some (.int .i64 a2) ∧ w'.cell? ⟨P, 3, none⟩ = some (.slice aa a3.len ac) ∧ w'.cell? ⟨Q, 0, none⟩ = some (.int .i64 b0) ∧ w'.cell? ⟨Q, 1, none⟩ = some (.string b1) ∧ w'.cell? ⟨Q, 2, none⟩ = some (.int .i64 b2) ∧ w'.cell? ⟨Q, 3, none⟩ = some (.slice ba b3.len bc) ∧ w'.cell? ⟨U, 0, none⟩ = some (.int .i64 x0) ∧ w'.cell? ⟨U, 1, none⟩ = some (.slice xa x1.length xc) ∧ w'.cell? ⟨U, 2, none⟩ = some (.slice xe x2.len xf) ∧ w'.cell? ⟨U, 3, none⟩ = some (.int .i64 x3) ∧ w'.cell? ⟨U, 4, none⟩ = some (.int .i64 x4) ∧ w'.cell? ⟨V, 0, none⟩ = some (.int .i64 y0) ∧ w'.cell? ⟨V, 1, none⟩ = some (.slice ya y1.length yc) ∧ w'.cell? ⟨V, 2, none⟩ = some (.slice ye y2.len yf) ∧ w'.cell? ⟨V, 3, none⟩ = some (.int .i64 y3) ∧ w'.cell? ⟨V, 4, none⟩ = some (.int .i64 y4))) (by kernel_rfl) (by go_keep) (fun hHeld => ?_)
  have WD := (Chg.refl (fun _ => False) wc3).drew
  have p0_7 := WD.cell (fun h => h) p0_6
  have p1_7 := WD.cell (fun h => h) p1_6
  have p2_7 := WD.cell (fun h => h) p2_6
  have p3_7 := WD.cell (fun h => h) p3_6
  have q0_7 := WD.cell (fun h => h) q0_6
  have q1_7 := WD.cell (fun h => h) q1_6
  have q2_7 := WD.cell (fun h => h) q2_6
  have q3_7 := WD.cell (fun h => h) q3_6
  have r0_7 := WD.cell (fun h => h) r0_6
  have r1_7 := WD.cell (fun h => h) r1_6
  have r2_7 := WD.cell (fun h => h) r2_6
  have r3_7 := WD.cell (fun h => h) r3_6
  have r4_7 := WD.cell (fun h => h) r4_6
  have t0_7 := WD.cell (fun h => h) t0_6
  have t1_7 := WD.cell (fun h => h) t1_6
  have t2_7 := WD.cell (fun h => h) t2_6
  have t3_7 := WD.cell (fun h => h) t3_6
  have t4_7 := WD.cell (fun h => h) t4_6
  have NA_7 := hide (NA_6.out.chg WD (fun _ _ h => h))
  have NB_7 := hide (NB_6.out.chg WD (fun _ _ h => h))
  have WX_7 := hide (WX_6.out.chg WD (fun _ _ h => h))
  have NX_7 := hide (NX_6.out.chg WD (fun _ _ h => h))
  have WY_7 := hide (WY_6.out.chg WD (fun _ _ h => h))
  have NY_7 := hide (NY_6.out.chg WD (fun _ _ h => h))
  have GM_7 := hide (GM_6.out.trans WD)
  clear p0_6 p1_6 p2_6 p3_6 q0_6 q1_6 q2_6 q3_6 r0_6 r1_6 r2_6 r3_6 r4_6 t0_6 t1_6 t2_6 t3_6 t4_6 NA_6 NB_6 WX_6 NX_6 WY_6 NY_6 GM_6
  clear WD
  have L1 := hide (L1.out.chg ((Chg.refl (fun _ => False) wc3).drew) (fun _ _ h => h))
  have L1 := hide (L1.out.up (Y := fun x => x < wc3.drew.heap.size) (fun x hx => hx))
  obtain ⟨B, hB⟩ : ∃ B, wc3.drew.heap.size = B := ⟨_, rfl⟩
  have BL := hide hB
  have BW : Hid (V < B) := hide (by have h := World.block_lt_of_cell? _ _ t0_7; rw [← hB]; exact h)
  clear hB
  first
    | (refine wpAnyH_take (i := 0) (v := undef) rfl (by kernel_rfl) (by kernel_rfl) (by kernel_rfl) (fun _ _ _ h => h) (Or.inr ⟨by rfl, rfl⟩) (by assumption) ?_)
    | (refine wpAnyH_take (i := 0) (v := ?_) rfl (by kernel_rfl) (by kernel_rfl) (by kernel_rfl) (fun _ _ _ h => h) (Or.inl ⟨by rfl, ?_⟩) (by assumption) ?_
       rotate_left
       (intro w hSw
        (try dsimp only at hSw)
        (go_simp <;> with_reducible rfl)))
  try simp only [Act.put, List.getElem_toArray, List.getElem_cons_zero, List.getElem_cons_succ, List.setIfInBounds_toArray, List.set_cons_zero, List.set_cons_succ]
  first
    | (refine wpAnyH_take (i := 2) (v := undef) rfl (by kernel_rfl) (by kernel_rfl) (by kernel_rfl) (fun _ _ _ h => h) (Or.inr ⟨by rfl, rfl⟩) (by assumption) ?_)
    | (refine wpAnyH_take (i := 2) (v := ?_) rfl (by kernel_rfl) (by kernel_rfl) (by kernel_rfl) (fun _ _ _ h => h) (Or.inl ⟨by rfl, ?_⟩) (by assumption) ?_
       rotate_left
       (intro w hSw
        (try dsimp only at hSw)
        (go_simp <;> with_reducible rfl)))
  try simp only [Act.put, List.getElem_toArray, List.getElem_cons_zero, List.getElem_cons_succ, List.setIfInBounds_toArray, List.set_cons_zero, List.set_cons_succ]
  refine wpAnyH_ready (rs := [1]) (by kernel_rfl) (by simp) ?_
  refine AllReadyH.cons (i := 1) (o := _) rfl (fun K hK => ?_) ?_
  rotate_left
  · exact AllReadyH.nil
  go_simp
  refine (rnames_any a3 [] a0 a1 a2 _ (.slice none 0 0) (fun x => x < w.heap.size) B _ (by have := KK.out.1.1.2; show 0 + a3.size ≤ 900000; omega) (fun x hx => by have := PL.out; have := BW.out; omega) (by have := BL.out; omega) NA_7.out (World.ownsRow_nil _ _ _ _)).mono ?_
  rintro e wc4 ⟨vr1, rfl, hr1, gr1, br1⟩
  have WG := (gr1.out.mono (T := fun _ => False) (fun x _ e => by simp [Value.ownBlock] at e))
  have p0_8 := WG.cell (fun h => h) p0_7
  have p1_8 := WG.cell (fun h => h) p1_7
  have p2_8 := WG.cell (fun h => h) p2_7
  have p3_8 := WG.cell (fun h => h) p3_7
  have q0_8 := WG.cell (fun h => h) q0_7
  have q1_8 := WG.cell (fun h => h) q1_7
  have q2_8 := WG.cell (fun h => h) q2_7
  have q3_8 := WG.cell (fun h => h) q3_7
  have r0_8 := WG.cell (fun h => h) r0_7
  have r1_8 := WG.cell (fun h => h) r1_7
  have r2_8 := WG.cell (fun h => h) r2_7
  have r3_8 := WG.cell (fun h => h) r3_7
  have r4_8 := WG.cell (fun h => h) r4_7
  have t0_8 := WG.cell (fun h => h) t0_7
  have t1_8 := WG.cell (fun h => h) t1_7
  have t2_8 := WG.cell (fun h => h) t2_7
  have t3_8 := WG.cell (fun h => h) t3_7
  have t4_8 := WG.cell (fun h => h) t4_7
  have NA_8 := hide (NA_7.out.chg WG (fun _ _ h => h))
  have NB_8 := hide (NB_7.out.chg WG (fun _ _ h => h))
  have WX_8 := hide (WX_7.out.chg WG (fun _ _ h => h))
  have NX_8 := hide (NX_7.out.chg WG (fun _ _ h => h))
  have WY_8 := hide (WY_7.out.chg WG (fun _ _ h => h))
  have NY_8 := hide (NY_7.out.chg WG (fun _ _ h => h))
  have GM_8 := hide (GM_7.out.trans WG)
  clear p0_7 p1_7 p2_7 p3_7 q0_7 q1_7 q2_7 q3_7 r0_7 r1_7 r2_7 r3_7 r4_7 t0_7 t1_7 t2_7 t3_7 t4_7 NA_7 NB_7 WX_7 NX_7 WY_7 NY_7 GM_7
  have SZ2 : Hid (B ≤ wc4.heap.size) := hide (by have h1 := WG.size; have h2 := BL.out; rw [h2] at h1; exact h1)
  obtain ⟨ra, rc, rfl, _⟩ := row_cell hr1.out
  have OWN : Hid (∀ x, (Value.slice ra (nmsN a0 a1 a3 []).length rc).ownBlock = some x → B ≤ x) := hide (fun x e => (World.ownsRow.lt hr1.out x e).1)
  have L1 := hide (L1.out.chg WG (fun _ _ h => h))
  clear gr1 br1
  clear WG
  try go_simp
  refine hK.out _ _ ⟨p0_8, p1_8, p2_8, p3_8, q0_8, q1_8, q2_8, q3_8, r0_8, r1_8, r2_8, r3_8, r4_8, t0_8, t1_8, t2_8, t3_8, t4_8⟩ (fun hHeld => ?_)
  clear hK K
  try simp only [Act.put, List.getElem_toArray, List.getElem_cons_zero, List.getElem_cons_succ, List.setIfInBounds_toArray, List.set_cons_zero, List.set_cons_succ]
  refine wpAnyH_ready (rs := [3]) (by kernel_rfl) (by simp) ?_
  refine AllReadyH.cons (i := 3) (o := _) rfl (fun K hK => ?_) ?_
  rotate_left
  · exact AllReadyH.nil
  go_simp
  refine (rnames_any b3 (nmsN a0 a1 a3 []) b0 b1 b2 _ _ (fun x => x < w.heap.size) B _ (by have := KK.out.1.2.2; have := KK.out.1.1.2; have := nmsN_le a0 a1 a3 []; simp only [List.length_nil] at this; omega) (fun x hx => by have := PL.out; have := BW.out; omega) SZ2.out NB_8.out hr1.out).mono ?_
  rintro e wc5 ⟨vr2, rfl, hr2, gr2, br2⟩
  have WG := gr2.out
  have p0_9 := WG.cell (fun e => by have := OWN.out _ e; have := PL.out; have := BW.out; omega) p0_8
  have p1_9 := WG.cell (fun e => by have := OWN.out _ e; have := PL.out; have := BW.out; omega) p1_8
  have p2_9 := WG.cell (fun e => by have := OWN.out _ e; have := PL.out; have := BW.out; omega) p2_8
  have p3_9 := WG.cell (fun e => by have := OWN.out _ e; have := PL.out; have := BW.out; omega) p3_8
  have q0_9 := WG.cell (fun e => by have := OWN.out _ e; have := PL.out; have := BW.out; omega) q0_8
  have q1_9 := WG.cell (fun e => by have := OWN.out _ e; have := PL.out; have := BW.out; omega) q1_8
  have q2_9 := WG.cell (fun e => by have := OWN.out _ e; have := PL.out; have := BW.out; omega) q2_8
  have q3_9 := WG.cell (fun e => by have := OWN.out _ e; have := PL.out; have := BW.out; omega) q3_8
  have r0_9 := WG.cell (fun e => by have := OWN.out _ e; have := PL.out; have := BW.out; omega) r0_8
  have r1_9 := WG.cell (fun e => by have := OWN.out _ e; have := PL.out; have := BW.out; omega) r1_8
  have r2_9 := WG.cell (fun e => by have := OWN.out _ e; have := PL.out; have := BW.out; omega) r2_8
  have r3_9 := WG.cell (fun e => by have := OWN.out _ e; have := PL.out; have := BW.out; omega) r3_8
  have r4_9 := WG.cell (fun e => by have := OWN.out _ e; have := PL.out; have := BW.out; omega) r4_8
  have t0_9 := WG.cell (fun e => by have := OWN.out _ e; have := PL.out; have := BW.out; omega) t0_8
  have t1_9 := WG.cell (fun e => by have := OWN.out _ e; have := PL.out; have := BW.out; omega) t1_8
  have t2_9 := WG.cell (fun e => by have := OWN.out _ e; have := PL.out; have := BW.out; omega) t2_8
  have t3_9 := WG.cell (fun e => by have := OWN.out _ e; have := PL.out; have := BW.out; omega) t3_8
  have t4_9 := WG.cell (fun e => by have := OWN.out _ e; have := PL.out; have := BW.out; omega) t4_8
  have NA_9 := hide (NA_8.out.chg WG (fun x hx e => by have := OWN.out _ e; have := PL.out; have := BW.out; omega))
  have NB_9 := hide (NB_8.out.chg WG (fun x hx e => by have := OWN.out _ e; have := PL.out; have := BW.out; omega))
  have WX_9 := hide (WX_8.out.chg WG (fun x hx e => by have := OWN.out _ e; have := PL.out; have := BW.out; omega))
  have NX_9 := hide (NX_8.out.chg WG (fun x hx e => by have := OWN.out _ e; have := PL.out; have := BW.out; omega))
  have WY_9 := hide (WY_8.out.chg WG (fun x hx e => by have := OWN.out _ e; have := PL.out; have := BW.out; omega))
  have NY_9 := hide (NY_8.out.chg WG (fun x hx e => by have := OWN.out _ e; have := PL.out; have := BW.out; omega))
  have GM_9 : Hid (Chg (fun _ => False) w wc5) := hide (((GM_8.out.mono (fun x _ h => h.elim)).trans WG).mono (fun x hx e => by have := OWN.out _ e; have := PL.out; have := BW.out; omega))
  clear p0_8 p1_8 p2_8 p3_8 q0_8 q1_8 q2_8 q3_8 r0_8 r1_8 r2_8 r3_8 r4_8 t0_8 t1_8 t2_8 t3_8 t4_8 NA_8 NB_8 WX_8 NX_8 WY_8 NY_8 GM_8
  have hr2 : Hid (wc5.ownsRow B 9 1 vr2 RN.length (RN.map .string)) := hide (by have h := hr2.out; have e : nmsN b0 b1 b3 (nmsN a0 a1 a3 []) = RN := HRN.out; rw [e] at h; exact h)
  obtain ⟨sa, sc, rfl, _⟩ := row_cell hr2.out
  have L2 := hide (sw_own hr2.out (X := fun _ => True) (fun _ _ => trivial))
  have L1 := hide (L1.out.chg WG (fun x hx e => by have := OWN.out x e; have := BL.out; omega))
  clear gr2 br2 hr2 hr1
  clear WG
  try go_simp
  refine hK.out _ _ ⟨p0_9, p1_9, p2_9, p3_9, q0_9, q1_9, q2_9, q3_9, r0_9, r1_9, r2_9, r3_9, r4_9, t0_9, t1_9, t2_9, t3_9, t4_9⟩ (fun hHeld => ?_)
  clear hK K
  try simp only [Act.put, List.getElem_toArray, List.getElem_cons_zero, List.getElem_cons_succ, List.setIfInBounds_toArray, List.set_cons_zero, List.set_cons_succ]
  first
    | (refine wpAnyH_take (i := 4) (v := undef) rfl (by kernel_rfl) (by kernel_rfl) (by kernel_rfl) (fun _ _ _ h => h) (Or.inr ⟨by rfl, rfl⟩) (by assumption) ?_)
    | (refine wpAnyH_take (i := 4) (v := ?_) rfl (by kernel_rfl) (by kernel_rfl) (by kernel_rfl) (fun _ _ _ h => h) (Or.inl ⟨by rfl, ?_⟩) (by assumption) ?_
       rotate_left
       (intro w hSw
        (try dsimp only at hSw)
        (go_simp <;> with_reducible rfl)))
  try simp only [Act.put, List.getElem_toArray, List.getElem_cons_zero, List.getElem_cons_succ, List.setIfInBounds_toArray, List.set_cons_zero, List.set_cons_succ]
  refine wpAnyH_done (by kernel_rfl) ?_ _
  have HC : Hid (wc5.cell? ⟨P, 0, none⟩ = some (.int .i64 a0) ∧ wc5.cell? ⟨P, 1, none⟩ = some (.string a1) ∧ wc5.cell? ⟨P, 2, none⟩ = some (.int .i64 a2) ∧ wc5.cell? ⟨P, 3, none⟩ = some (.slice aa a3.len ac) ∧ wc5.cell? ⟨Q, 0, none⟩ = some (.int .i64 b0) ∧ wc5.cell? ⟨Q, 1, none⟩ = some (.string b1) ∧ wc5.cell? ⟨Q, 2, none⟩ = some (.int .i64 b2) ∧ wc5.cell? ⟨Q, 3, none⟩ = some (.slice ba b3.len bc) ∧ wc5.cell? ⟨U, 0, none⟩ = some (.int .i64 x0) ∧ wc5.cell? ⟨U, 1, none⟩ = some (.slice xa x1.length xc) ∧ wc5.cell? ⟨U, 2, none⟩ = some (.slice xe x2.len xf) ∧ wc5.cell? ⟨U, 3, none⟩ = some (.int .i64 x3) ∧ wc5.cell? ⟨U, 4, none⟩ = some (.int .i64 x4) ∧ wc5.cell? ⟨V, 0, none⟩ = some (.int .i64 y0) ∧ wc5.cell? ⟨V, 1, none⟩ = some (.slice ya y1.length yc) ∧ wc5.cell? ⟨V, 2, none⟩ = some (.slice ye y2.len yf) ∧ wc5.cell? ⟨V, 3, none⟩ = some (.int .i64 y3) ∧ wc5.cell? ⟨V, 4, none⟩ = some (.int .i64 y4)) := hide ⟨p0_9, p1_9, p2_9, p3_9, q0_9, q1_9, q2_9, q3_9, r0_9, r1_9, r2_9, r3_9, r4_9, t0_9, t1_9, t2_9, t3_9, t4_9⟩
  clear p0_9 p1_9 p2_9 p3_9 q0_9 q1_9 q2_9 q3_9 r0_9 r1_9 r2_9 r3_9 r4_9 t0_9 t1_9 t2_9 t3_9 t4_9 OWN BL BW
  obtain ⟨L, hL⟩ : ∃ L, likeN false (a0, a1, a2, a3) (b0, b1, b2, b3) = L := ⟨_, rfl⟩
  have HL := hide hL
  obtain ⟨I, hI⟩ : ∃ I, likeI false (x0, x1, x2, x3, x4) (y0, y1, y2, y3, y4) = I := ⟨_, rfl⟩
  have HI := hide hI
  obtain ⟨dd, hdd⟩ : ∃ dd, depA a3 0 + 1 = dd := ⟨_, rfl⟩
  have HDD := hide hdd
  clear hL hI hdd
  go_wp2_with fail
  go_loopw [11] (fun iv wr => ∃ (i : Nat), i ≤ RN.length ∧ iv = .int .i64 i ∧ Hid (Chg (fun _ => False) wc5 wr)) (fun iv _ => RN.length - (intOf iv).toNat)
  case atStart => exact ⟨0, Nat.zero_le _, rfl, hide (Chg.refl _ _)⟩
  case round =>
    obtain ⟨i, hi, rfl, GR⟩ := hrel
    by_cases hlt : i < RN.length
    · have i1 : (0 : Int) ≤ (i : Int) := by omega
      have i2 : (i : Int) < (RN.length : Int) := by omega
      have i3 : RN.length ≤ 900000 := HRL.out
      obtain ⟨la, lc, hlv, hl⟩ := L1.out
      rcases hl with h0 | ⟨g1, o1, rfl, hg, hl⟩
      · rw [h0] at hlt; exact absurd hlt (Nat.not_lt_zero _)
      injection hlv with e1 e2 e3
      subst e1 e3
      obtain ⟨la', lc', hlv', hl'⟩ := L2.out
      rcases hl' with h0 | ⟨g2, o2, rfl, hg', hl'⟩
      · rw [h0] at hlt; exact absurd hlt (Nat.not_lt_zero _)
      injection hlv' with e1 e2 e3
      subst e1 e3
      have d1 := GR.out.cell (fun h => h) (hl i hlt)
      have d2 := GR.out.cell (fun h => h) (hl' i hlt)
      clear hl hl'
      generalize RN[i] = s at *
      go_wp2_with fail
      refine wp_region_held_drew (S := (fun w' => w'.cell? ⟨g1, o1 + i, none⟩ = some (.string s) ∧ w'.cell? ⟨g2, o2 + i, none⟩ = some (.string s))) (by kernel_rfl) (by go_keep) (fun hHeld => ?_)
      first
        | (refine wpAnyH_take (i := 0) (v := undef) rfl (by kernel_rfl) (by kernel_rfl) (by kernel_rfl) (fun _ _ _ h => h) (Or.inr ⟨by rfl, rfl⟩) (by assumption) ?_)
        | (refine wpAnyH_take (i := 0) (v := ?_) rfl (by kernel_rfl) (by kernel_rfl) (by kernel_rfl) (fun _ _ _ h => h) (Or.inl ⟨by rfl, ?_⟩) (by assumption) ?_
           rotate_left
           (intro w hSw
            (try dsimp only at hSw)
            (go_simp <;> with_reducible rfl)))
      try simp only [Act.put, List.getElem_toArray, List.getElem_cons_zero, List.getElem_cons_succ, List.setIfInBounds_toArray, List.set_cons_zero, List.set_cons_succ]
      first
        | (refine wpAnyH_take (i := 1) (v := undef) rfl (by kernel_rfl) (by kernel_rfl) (by kernel_rfl) (fun _ _ _ h => h) (Or.inr ⟨by rfl, rfl⟩) (by assumption) ?_)
        | (refine wpAnyH_take (i := 1) (v := ?_) rfl (by kernel_rfl) (by kernel_rfl) (by kernel_rfl) (fun _ _ _ h => h) (Or.inl ⟨by rfl, ?_⟩) (by assumption) ?_
           rotate_left
           (intro w hSw
            (try dsimp only at hSw)
            (go_simp <;> with_reducible rfl)))
      try simp only [Act.put, List.getElem_toArray, List.getElem_cons_zero, List.getElem_cons_succ, List.setIfInBounds_toArray, List.set_cons_zero, List.set_cons_succ]
      first
        | (refine wpAnyH_take (i := 2) (v := undef) rfl (by kernel_rfl) (by kernel_rfl) (by kernel_rfl) (fun _ _ _ h => h) (Or.inr ⟨by rfl, rfl⟩) (by assumption) ?_)
        | (refine wpAnyH_take (i := 2) (v := ?_) rfl (by kernel_rfl) (by kernel_rfl) (by kernel_rfl) (fun _ _ _ h => h) (Or.inl ⟨by rfl, ?_⟩) (by assumption) ?_
           rotate_left
           (intro w hSw
            (try dsimp only at hSw)
            (go_simp <;> with_reducible rfl)))
      try simp only [Act.put, List.getElem_toArray, List.getElem_cons_zero, List.getElem_cons_succ, List.setIfInBounds_toArray, List.set_cons_zero, List.set_cons_succ]
      first
        | (refine wpAnyH_take (i := 3) (v := undef) rfl (by kernel_rfl) (by kernel_rfl) (by kernel_rfl) (fun _ _ _ h => h) (Or.inr ⟨by rfl, rfl⟩) (by assumption) ?_)
        | (refine wpAnyH_take (i := 3) (v := ?_) rfl (by kernel_rfl) (by kernel_rfl) (by kernel_rfl) (fun _ _ _ h => h) (Or.inl ⟨by rfl, ?_⟩) (by assumption) ?_
           rotate_left
           (intro w hSw
            (try dsimp only at hSw)
            (go_simp <;> with_reducible rfl)))
      try simp only [Act.put, List.getElem_toArray, List.getElem_cons_zero, List.getElem_cons_succ, List.setIfInBounds_toArray, List.set_cons_zero, List.set_cons_succ]
      first
        | (refine wpAnyH_take (i := 4) (v := undef) rfl (by kernel_rfl) (by kernel_rfl) (by kernel_rfl) (fun _ _ _ h => h) (Or.inr ⟨by rfl, rfl⟩) (by assumption) ?_)
        | (refine wpAnyH_take (i := 4) (v := ?_) rfl (by kernel_rfl) (by kernel_rfl) (by kernel_rfl) (fun _ _ _ h => h) (Or.inl ⟨by rfl, ?_⟩) (by assumption) ?_
           rotate_left
           (intro w hSw
            (try dsimp only at hSw)
            (go_simp <;> with_reducible rfl)))
      try simp only [Act.put, List.getElem_toArray, List.getElem_cons_zero, List.getElem_cons_succ, List.setIfInBounds_toArray, List.set_cons_zero, List.set_cons_succ]
      first
        | (refine wpAnyH_take (i := 5) (v := undef) rfl (by kernel_rfl) (by kernel_rfl) (by kernel_rfl) (fun _ _ _ h => h) (Or.inr ⟨by rfl, rfl⟩) (by assumption) ?_)
        | (refine wpAnyH_take (i := 5) (v := ?_) rfl (by kernel_rfl) (by kernel_rfl) (by kernel_rfl) (fun _ _ _ h => h) (Or.inl ⟨by rfl, ?_⟩) (by assumption) ?_
           rotate_left
           (intro w hSw
            (try dsimp only at hSw)
            (go_simp <;> with_reducible rfl)))
      try simp only [Act.put, List.getElem_toArray, List.getElem_cons_zero, List.getElem_cons_succ, List.setIfInBounds_toArray, List.set_cons_zero, List.set_cons_succ]
      first
        | (refine wpAnyH_take (i := 6) (v := undef) rfl (by kernel_rfl) (by kernel_rfl) (by kernel_rfl) (fun _ _ _ h => h) (Or.inr ⟨by rfl, rfl⟩) (by assumption) ?_)
        | (refine wpAnyH_take (i := 6) (v := ?_) rfl (by kernel_rfl) (by kernel_rfl) (by kernel_rfl) (fun _ _ _ h => h) (Or.inl ⟨by rfl, ?_⟩) (by assumption) ?_
           rotate_left
           (intro w hSw
            (try dsimp only at hSw)
            (go_simp <;> with_reducible rfl)))
      try simp only [Act.put, List.getElem_toArray, List.getElem_cons_zero, List.getElem_cons_succ, List.setIfInBounds_toArray, List.set_cons_zero, List.set_cons_succ]
      first
        | (refine wpAnyH_take (i := 7) (v := undef) rfl (by kernel_rfl) (by kernel_rfl) (by kernel_rfl) (fun _ _ _ h => h) (Or.inr ⟨by rfl, rfl⟩) (by assumption) ?_)
        | (refine wpAnyH_take (i := 7) (v := ?_) rfl (by kernel_rfl) (by kernel_rfl) (by kernel_rfl) (fun _ _ _ h => h) (Or.inl ⟨by rfl, ?_⟩) (by assumption) ?_
           rotate_left
           (intro w hSw
            (try dsimp only at hSw)
            (go_simp <;> with_reducible rfl)))
      try simp only [Act.put, List.getElem_toArray, List.getElem_cons_zero, List.getElem_cons_succ, List.setIfInBounds_toArray, List.set_cons_zero, List.set_cons_succ]
      first
        | (refine wpAnyH_take (i := 8) (v := undef) rfl (by kernel_rfl) (by kernel_rfl) (by kernel_rfl) (fun _ _ _ h => h) (Or.inr ⟨by rfl, rfl⟩) (by assumption) ?_)
        | (refine wpAnyH_take (i := 8) (v := ?_) rfl (by kernel_rfl) (by kernel_rfl) (by kernel_rfl) (fun _ _ _ h => h) (Or.inl ⟨by rfl, ?_⟩) (by assumption) ?_
           rotate_left
           (intro w hSw
            (try dsimp only at hSw)
            (go_simp <;> with_reducible rfl)))
      try simp only [Act.put, List.getElem_toArray, List.getElem_cons_zero, List.getElem_cons_succ, List.setIfInBounds_toArray, List.set_cons_zero, List.set_cons_succ]
      refine wpAnyH_done (by kernel_rfl) ?_ _
      have F9 := hide GR.out.drew
      go_wp2_with fail
      go_roundw
      case rel => exact ⟨i + 1, by omega, by go_num, F9⟩
      case measure => simp [intOf]; omega
    · have hif : i = RN.length := by omega
      have i2 : decide (i < RN.length) = false := by simp [hlt]
      have WGG := GR.out
      clear L1 L2
      obtain ⟨p0_9, p1_9, p2_9, p3_9, q0_9, q1_9, q2_9, q3_9, r0_9, r1_9, r2_9, r3_9, r4_9, t0_9, t1_9, t2_9, t3_9, t4_9⟩ := HC.out
      have p0_10 := WGG.cell (fun h => h) p0_9
      have p1_10 := WGG.cell (fun h => h) p1_9
      have p2_10 := WGG.cell (fun h => h) p2_9
      have p3_10 := WGG.cell (fun h => h) p3_9
      have q0_10 := WGG.cell (fun h => h) q0_9
      have q1_10 := WGG.cell (fun h => h) q1_9
      have q2_10 := WGG.cell (fun h => h) q2_9
      have q3_10 := WGG.cell (fun h => h) q3_9
      have r0_10 := WGG.cell (fun h => h) r0_9
      have r1_10 := WGG.cell (fun h => h) r1_9
      have r2_10 := WGG.cell (fun h => h) r2_9
      have r3_10 := WGG.cell (fun h => h) r3_9
      have r4_10 := WGG.cell (fun h => h) r4_9
      have t0_10 := WGG.cell (fun h => h) t0_9
      have t1_10 := WGG.cell (fun h => h) t1_9
      have t2_10 := WGG.cell (fun h => h) t2_9
      have t3_10 := WGG.cell (fun h => h) t3_9
      have t4_10 := WGG.cell (fun h => h) t4_9
      have NA_10 := hide (NA_9.out.chg WGG (fun _ _ h => h))
      have NB_10 := hide (NB_9.out.chg WGG (fun _ _ h => h))
      have WX_10 := hide (WX_9.out.chg WGG (fun _ _ h => h))
      have NX_10 := hide (NX_9.out.chg WGG (fun _ _ h => h))
      have WY_10 := hide (WY_9.out.chg WGG (fun _ _ h => h))
      have NY_10 := hide (NY_9.out.chg WGG (fun _ _ h => h))
      have GM_10 := hide (GM_9.out.trans WGG)
      clear p0_9 p1_9 p2_9 p3_9 q0_9 q1_9 q2_9 q3_9 r0_9 r1_9 r2_9 r3_9 r4_9 t0_9 t1_9 t2_9 t3_9 t4_9 NA_9 NB_9 WX_9 NX_9 WY_9 NY_9 GM_9
      clear WGG GR
      subst hif
      go_upto_region 12 with fail
      clear i2 HC
      have eL : (L == L) = true := by simp
      have eI : (I == I) = true := by simp
      refine wp_region_held_drew (S := (fun w' => w'.cell? ⟨P, 0, none⟩ = some (.int .i64 a0) ∧ w'.cell? ⟨P, 1, none⟩ = some (.string a1) ∧ w'.cell? ⟨P, 2, none⟩ = some (.int .i64 a2) ∧ w'.cell? ⟨P, 3, none⟩ = some (.slice aa a3.len ac) ∧ w'.cell? ⟨Q, 0, none⟩ = some (.int .i64 b0) ∧ w'.cell? ⟨Q, 1, none⟩ = some (.string b1) ∧ w'.cell? ⟨Q, 2, none⟩ = some (.int .i64 b2) ∧ w'.cell? ⟨Q, 3, none⟩ = some (.slice ba b3.len bc) ∧ w'.cell? ⟨U, 0, none⟩ = some (.int .i64 x0) ∧ w'.cell? ⟨U, 1, none⟩ = some (.slice xa x1.length xc) ∧ w'.cell? ⟨U, 2, none⟩ = some (.slice xe x2.len xf) ∧ w'.cell? ⟨U, 3, none⟩ = some (.int .i64 x3) ∧ w'.cell? ⟨U, 4, none⟩ = some (.int .i64 x4) ∧ w'.cell? ⟨V, 0, none⟩ = some (.int .i64 y0) ∧ w'.cell? ⟨V, 1, none⟩ = some (.slice ya y1.length yc) ∧ w'.cell? ⟨V, 2, none⟩ = some (.slice ye y2.len yf) ∧ w'.cell? ⟨V, 3, none⟩ = some (.int .i64 y3) ∧ w'.cell? ⟨V, 4, none⟩ = some (.int .i64 y4))) (by kernel_rfl) (by go_keep) (fun hHeld => ?_)
      have WD := (Chg.refl (fun _ => False) wr).drew
      have p0_11 := WD.cell (fun h => h) p0_10
      have p1_11 := WD.cell (fun h => h) p1_10
      have p2_11 := WD.cell (fun h => h) p2_10
      have p3_11 := WD.cell (fun h => h) p3_10
      have q0_11 := WD.cell (fun h => h) q0_10
      have q1_11 := WD.cell (fun h => h) q1_10
      have q2_11 := WD.cell (fun h => h) q2_10
      have q3_11 := WD.cell (fun h => h) q3_10
      have r0_11 := WD.cell (fun h => h) r0_10
      have r1_11 := WD.cell (fun h => h) r1_10
      have r2_11 := WD.cell (fun h => h) r2_10
      have r3_11 := WD.cell (fun h => h) r3_10
      have r4_11 := WD.cell (fun h => h) r4_10
      have t0_11 := WD.cell (fun h => h) t0_10
      have t1_11 := WD.cell (fun h => h) t1_10
      have t2_11 := WD.cell (fun h => h) t2_10
      have t3_11 := WD.cell (fun h => h) t3_10
      have t4_11 := WD.cell (fun h => h) t4_10
      have NA_11 := hide (NA_10.out.chg WD (fun _ _ h => h))
      have NB_11 := hide (NB_10.out.chg WD (fun _ _ h => h))
      have WX_11 := hide (WX_10.out.chg WD (fun _ _ h => h))
      have NX_11 := hide (NX_10.out.chg WD (fun _ _ h => h))
      have WY_11 := hide (WY_10.out.chg WD (fun _ _ h => h))
      have NY_11 := hide (NY_10.out.chg WD (fun _ _ h => h))
      have GM_11 := hide (GM_10.out.trans WD)
      clear p0_10 p1_10 p2_10 p3_10 q0_10 q1_10 q2_10 q3_10 r0_10 r1_10 r2_10 r3_10 r4_10 t0_10 t1_10 t2_10 t3_10 t4_10 NA_10 NB_10 WX_10 NX_10 WY_10 NY_10 GM_10
      clear WD
      refine wpAnyH_ready (rs := [0]) (by kernel_rfl) (by simp) ?_
      refine AllReadyH.cons (i := 0) (o := _) rfl (fun K hK => ?_) ?_
      rotate_left
      · exact AllReadyH.nil
      go_simp
      refine (known_any _).mono ?_
      rintro e wc6 ⟨rfl, g⟩
      have WG := g
      have p0_12 := WG.cell (fun h => h) p0_11
      have p1_12 := WG.cell (fun h => h) p1_11
      have p2_12 := WG.cell (fun h => h) p2_11
      have p3_12 := WG.cell (fun h => h) p3_11
      have q0_12 := WG.cell (fun h => h) q0_11
      have q1_12 := WG.cell (fun h => h) q1_11
      have q2_12 := WG.cell (fun h => h) q2_11
      have q3_12 := WG.cell (fun h => h) q3_11
      have r0_12 := WG.cell (fun h => h) r0_11
      have r1_12 := WG.cell (fun h => h) r1_11
      have r2_12 := WG.cell (fun h => h) r2_11
      have r3_12 := WG.cell (fun h => h) r3_11
      have r4_12 := WG.cell (fun h => h) r4_11
      have t0_12 := WG.cell (fun h => h) t0_11
      have t1_12 := WG.cell (fun h => h) t1_11
      have t2_12 := WG.cell (fun h => h) t2_11
      have t3_12 := WG.cell (fun h => h) t3_11
      have t4_12 := WG.cell (fun h => h) t4_11
      have NA_12 := hide (NA_11.out.chg WG (fun _ _ h => h))
      have NB_12 := hide (NB_11.out.chg WG (fun _ _ h => h))
      have WX_12 := hide (WX_11.out.chg WG (fun _ _ h => h))
      have NX_12 := hide (NX_11.out.chg WG (fun _ _ h => h))
      have WY_12 := hide (WY_11.out.chg WG (fun _ _ h => h))
      have NY_12 := hide (NY_11.out.chg WG (fun _ _ h => h))
      have GM_12 := hide (GM_11.out.trans WG)
      clear p0_11 p1_11 p2_11 p3_11 q0_11 q1_11 q2_11 q3_11 r0_11 r1_11 r2_11 r3_11 r4_11 t0_11 t1_11 t2_11 t3_11 t4_11 NA_11 NB_11 WX_11 NX_11 WY_11 NY_11 GM_11
      clear WG
      try go_simp
      refine hK.out _ _ ⟨p0_12, p1_12, p2_12, p3_12, q0_12, q1_12, q2_12, q3_12, r0_12, r1_12, r2_12, r3_12, r4_12, t0_12, t1_12, t2_12, t3_12, t4_12⟩ (fun hHeld => ?_)
      clear hK K
      try simp only [Act.put, List.getElem_toArray, List.getElem_cons_zero, List.getElem_cons_succ, List.setIfInBounds_toArray, List.set_cons_zero, List.set_cons_succ]
      first
        | (refine wpAnyH_take (i := 1) (v := undef) rfl (by kernel_rfl) (by kernel_rfl) (by kernel_rfl) (fun _ _ _ h => h) (Or.inr ⟨by rfl, rfl⟩) (by assumption) ?_)
        | (refine wpAnyH_take (i := 1) (v := ?_) rfl (by kernel_rfl) (by kernel_rfl) (by kernel_rfl) (fun _ _ _ h => h) (Or.inl ⟨by rfl, ?_⟩) (by assumption) ?_
           rotate_left
           (intro w hSw
            (try dsimp only at hSw)
            (go_simp <;> with_reducible rfl)))
      try simp only [Act.put, List.getElem_toArray, List.getElem_cons_zero, List.getElem_cons_succ, List.setIfInBounds_toArray, List.set_cons_zero, List.set_cons_succ]
      first
        | (refine wpAnyH_take (i := 2) (v := undef) rfl (by kernel_rfl) (by kernel_rfl) (by kernel_rfl) (fun _ _ _ h => h) (Or.inr ⟨by rfl, rfl⟩) (by assumption) ?_)
        | (refine wpAnyH_take (i := 2) (v := ?_) rfl (by kernel_rfl) (by kernel_rfl) (by kernel_rfl) (fun _ _ _ h => h) (Or.inl ⟨by rfl, ?_⟩) (by assumption) ?_
           rotate_left
           (intro w hSw
            (try dsimp only at hSw)
            (go_simp <;> with_reducible rfl)))
      try simp only [Act.put, List.getElem_toArray, List.getElem_cons_zero, List.getElem_cons_succ, List.setIfInBounds_toArray, List.set_cons_zero, List.set_cons_succ]
      first
        | (refine wpAnyH_take (i := 4) (v := undef) rfl (by kernel_rfl) (by kernel_rfl) (by kernel_rfl) (fun _ _ _ h => h) (Or.inr ⟨by rfl, rfl⟩) (by assumption) ?_)
        | (refine wpAnyH_take (i := 4) (v := ?_) rfl (by kernel_rfl) (by kernel_rfl) (by kernel_rfl) (fun _ _ _ h => h) (Or.inl ⟨by rfl, ?_⟩) (by assumption) ?_
           rotate_left
           (intro w hSw
            (try dsimp only at hSw)
            (go_simp <;> with_reducible rfl)))
      try simp only [Act.put, List.getElem_toArray, List.getElem_cons_zero, List.getElem_cons_succ, List.setIfInBounds_toArray, List.set_cons_zero, List.set_cons_succ]
      first
        | (refine wpAnyH_take (i := 7) (v := undef) rfl (by kernel_rfl) (by kernel_rfl) (by kernel_rfl) (fun _ _ _ h => h) (Or.inr ⟨by rfl, rfl⟩) (by assumption) ?_)
        | (refine wpAnyH_take (i := 7) (v := ?_) rfl (by kernel_rfl) (by kernel_rfl) (by kernel_rfl) (fun _ _ _ h => h) (Or.inl ⟨by rfl, ?_⟩) (by assumption) ?_
           rotate_left
           (intro w hSw
            (try dsimp only at hSw)
            (go_simp <;> with_reducible rfl)))
      try simp only [Act.put, List.getElem_toArray, List.getElem_cons_zero, List.getElem_cons_succ, List.setIfInBounds_toArray, List.set_cons_zero, List.set_cons_succ]
      first
        | (refine wpAnyH_take (i := 8) (v := undef) rfl (by kernel_rfl) (by kernel_rfl) (by kernel_rfl) (fun _ _ _ h => h) (Or.inr ⟨by rfl, rfl⟩) (by assumption) ?_)
        | (refine wpAnyH_take (i := 8) (v := ?_) rfl (by kernel_rfl) (by kernel_rfl) (by kernel_rfl) (fun _ _ _ h => h) (Or.inl ⟨by rfl, ?_⟩) (by assumption) ?_
           rotate_left
           (intro w hSw
            (try dsimp only at hSw)
            (go_simp <;> with_reducible rfl)))
      try simp only [Act.put, List.getElem_toArray, List.getElem_cons_zero, List.getElem_cons_succ, List.setIfInBounds_toArray, List.set_cons_zero, List.set_cons_succ]
      refine wpAnyH_ready (rs := [3]) (by kernel_rfl) (by simp) ?_
      refine AllReadyH.cons (i := 3) (o := _) rfl (fun K hK => ?_) ?_
      rotate_left
      · exact AllReadyH.nil
      go_simp
      refine (pto_any a3 KK.out.1.1.1.1 KK.out.1.1.1.2 a0 a1 a2 _ (fun x => x < w.heap.size) _ (fun x hx => Nat.lt_of_lt_of_le hx GM_12.out.size) NA_12.out).mono ?_
      rintro e wc7 ⟨⟨v1, rfl, hv1⟩, g⟩
      have WG := g
      have p0_13 := WG.cell (fun h => h) p0_12
      have p1_13 := WG.cell (fun h => h) p1_12
      have p2_13 := WG.cell (fun h => h) p2_12
      have p3_13 := WG.cell (fun h => h) p3_12
      have q0_13 := WG.cell (fun h => h) q0_12
      have q1_13 := WG.cell (fun h => h) q1_12
      have q2_13 := WG.cell (fun h => h) q2_12
      have q3_13 := WG.cell (fun h => h) q3_12
      have r0_13 := WG.cell (fun h => h) r0_12
      have r1_13 := WG.cell (fun h => h) r1_12
      have r2_13 := WG.cell (fun h => h) r2_12
      have r3_13 := WG.cell (fun h => h) r3_12
      have r4_13 := WG.cell (fun h => h) r4_12
      have t0_13 := WG.cell (fun h => h) t0_12
      have t1_13 := WG.cell (fun h => h) t1_12
      have t2_13 := WG.cell (fun h => h) t2_12
      have t3_13 := WG.cell (fun h => h) t3_12
      have t4_13 := WG.cell (fun h => h) t4_12
      have NA_13 := hide (NA_12.out.chg WG (fun _ _ h => h))
      have NB_13 := hide (NB_12.out.chg WG (fun _ _ h => h))
      have WX_13 := hide (WX_12.out.chg WG (fun _ _ h => h))
      have NX_13 := hide (NX_12.out.chg WG (fun _ _ h => h))
      have WY_13 := hide (WY_12.out.chg WG (fun _ _ h => h))
      have NY_13 := hide (NY_12.out.chg WG (fun _ _ h => h))
      have GM_13 := hide (GM_12.out.trans WG)
      clear p0_12 p1_12 p2_12 p3_12 q0_12 q1_12 q2_12 q3_12 r0_12 r1_12 r2_12 r3_12 r4_12 t0_12 t1_12 t2_12 t3_12 t4_12 NA_12 NB_12 WX_12 NX_12 WY_12 NY_12 GM_12
      obtain ⟨z1a, z1c, rfl, _⟩ := id hv1
      have NV1 := hide (hv1.up (Y := fun x => x < wc7.heap.size) (fun x hx => hx.2))
      clear hv1
      clear WG
      try go_simp
      refine hK.out _ _ ⟨p0_13, p1_13, p2_13, p3_13, q0_13, q1_13, q2_13, q3_13, r0_13, r1_13, r2_13, r3_13, r4_13, t0_13, t1_13, t2_13, t3_13, t4_13⟩ (fun hHeld => ?_)
      clear hK K
      try simp only [Act.put, List.getElem_toArray, List.getElem_cons_zero, List.getElem_cons_succ, List.setIfInBounds_toArray, List.set_cons_zero, List.set_cons_succ]
      refine wpAnyH_ready (rs := [5]) (by kernel_rfl) (by simp) ?_
      refine AllReadyH.cons (i := 5) (o := _) rfl (fun K hK => ?_) ?_
      rotate_left
      · exact AllReadyH.nil
      go_simp
      refine (pto_any b3 KK.out.1.2.1.1 KK.out.1.2.1.2 b0 b1 b2 _ (fun x => x < w.heap.size) _ (fun x hx => Nat.lt_of_lt_of_le hx GM_13.out.size) NB_13.out).mono ?_
      rintro e wc8 ⟨⟨v2, rfl, hv2⟩, g⟩
      have WG := g
      have NV1 := hide ((NV1.out.chg WG (fun _ _ h => h)).up (Y := fun x => x < wc8.heap.size) (fun x hx => Nat.lt_of_lt_of_le hx WG.size))
      have p0_14 := WG.cell (fun h => h) p0_13
      have p1_14 := WG.cell (fun h => h) p1_13
      have p2_14 := WG.cell (fun h => h) p2_13
      have p3_14 := WG.cell (fun h => h) p3_13
      have q0_14 := WG.cell (fun h => h) q0_13
      have q1_14 := WG.cell (fun h => h) q1_13
      have q2_14 := WG.cell (fun h => h) q2_13
      have q3_14 := WG.cell (fun h => h) q3_13
      have r0_14 := WG.cell (fun h => h) r0_13
      have r1_14 := WG.cell (fun h => h) r1_13
      have r2_14 := WG.cell (fun h => h) r2_13
      have r3_14 := WG.cell (fun h => h) r3_13
      have r4_14 := WG.cell (fun h => h) r4_13
      have t0_14 := WG.cell (fun h => h) t0_13
      have t1_14 := WG.cell (fun h => h) t1_13
      have t2_14 := WG.cell (fun h => h) t2_13
      have t3_14 := WG.cell (fun h => h) t3_13
      have t4_14 := WG.cell (fun h => h) t4_13
      have NA_14 := hide (NA_13.out.chg WG (fun _ _ h => h))
      have NB_14 := hide (NB_13.out.chg WG (fun _ _ h => h))
      have WX_14 := hide (WX_13.out.chg WG (fun _ _ h => h))
      have NX_14 := hide (NX_13.out.chg WG (fun _ _ h => h))
      have WY_14 := hide (WY_13.out.chg WG (fun _ _ h => h))
      have NY_14 := hide (NY_13.out.chg WG (fun _ _ h => h))
      have GM_14 := hide (GM_13.out.trans WG)
      clear p0_13 p1_13 p2_13 p3_13 q0_13 q1_13 q2_13 q3_13 r0_13 r1_13 r2_13 r3_13 r4_13 t0_13 t1_13 t2_13 t3_13 t4_13 NA_13 NB_13 WX_13 NX_13 WY_13 NY_13 GM_13
      obtain ⟨z2a, z2c, rfl, _⟩ := id hv2
      have NV2 := hide (hv2.up (Y := fun x => x < wc8.heap.size) (fun x hx => hx.2))
      clear hv2
      clear WG
      try go_simp
      refine hK.out _ _ ⟨p0_14, p1_14, p2_14, p3_14, q0_14, q1_14, q2_14, q3_14, r0_14, r1_14, r2_14, r3_14, r4_14, t0_14, t1_14, t2_14, t3_14, t4_14⟩ (fun hHeld => ?_)
      clear hK K
      try simp only [Act.put, List.getElem_toArray, List.getElem_cons_zero, List.getElem_cons_succ, List.setIfInBounds_toArray, List.set_cons_zero, List.set_cons_succ]
      refine wpAnyH_ready (rs := [6]) (by kernel_rfl) (by simp) ?_
      refine AllReadyH.cons (i := 6) (o := _) rfl (fun K hK => ?_) ?_
      rotate_left
      · exact AllReadyH.nil
      go_simp
      refine (equal_any (a0, a1, a2, a3) (b0, b1, b2, b3) KK.out.1.1.1 KK.out.1.2.1 _ _ (fun x => x < wc8.heap.size) _ (fun x hx => hx) ⟨_, _, rfl, NV1.out⟩ ⟨_, _, rfl, NV2.out⟩).mono ?_
      rintro e wc9 ⟨rfl, g⟩
      rw [HL.out]
      have WG := g
      have p0_15 := WG.cell (fun h => h) p0_14
      have p1_15 := WG.cell (fun h => h) p1_14
      have p2_15 := WG.cell (fun h => h) p2_14
      have p3_15 := WG.cell (fun h => h) p3_14
      have q0_15 := WG.cell (fun h => h) q0_14
      have q1_15 := WG.cell (fun h => h) q1_14
      have q2_15 := WG.cell (fun h => h) q2_14
      have q3_15 := WG.cell (fun h => h) q3_14
      have r0_15 := WG.cell (fun h => h) r0_14
      have r1_15 := WG.cell (fun h => h) r1_14
      have r2_15 := WG.cell (fun h => h) r2_14
      have r3_15 := WG.cell (fun h => h) r3_14
      have r4_15 := WG.cell (fun h => h) r4_14
      have t0_15 := WG.cell (fun h => h) t0_14
      have t1_15 := WG.cell (fun h => h) t1_14
      have t2_15 := WG.cell (fun h => h) t2_14
      have t3_15 := WG.cell (fun h => h) t3_14
      have t4_15 := WG.cell (fun h => h) t4_14
      have NA_15 := hide (NA_14.out.chg WG (fun _ _ h => h))
      have NB_15 := hide (NB_14.out.chg WG (fun _ _ h => h))
      have WX_15 := hide (WX_14.out.chg WG (fun _ _ h => h))
      have NX_15 := hide (NX_14.out.chg WG (fun _ _ h => h))
      have WY_15 := hide (WY_14.out.chg WG (fun _ _ h => h))
      have NY_15 := hide (NY_14.out.chg WG (fun _ _ h => h))
      have GM_15 := hide (GM_14.out.trans WG)
      clear p0_14 p1_14 p2_14 p3_14 q0_14 q1_14 q2_14 q3_14 r0_14 r1_14 r2_14 r3_14 r4_14 t0_14 t1_14 t2_14 t3_14 t4_14 NA_14 NB_14 WX_14 NX_14 WY_14 NY_14 GM_14
      clear WG
      try go_simp
      refine hK.out _ _ ⟨p0_15, p1_15, p2_15, p3_15, q0_15, q1_15, q2_15, q3_15, r0_15, r1_15, r2_15, r3_15, r4_15, t0_15, t1_15, t2_15, t3_15, t4_15⟩ (fun hHeld => ?_)
      clear hK K
      try simp only [Act.put, List.getElem_toArray, List.getElem_cons_zero, List.getElem_cons_succ, List.setIfInBounds_toArray, List.set_cons_zero, List.set_cons_succ]
      refine wpAnyH_ready (rs := [9]) (by kernel_rfl) (by simp) ?_
      refine AllReadyH.cons (i := 9) (o := _) rfl (fun K hK => ?_) ?_
      rotate_left
      · exact AllReadyH.nil
      go_simp
      refine (plike_any false (a0, a1, a2, a3) (b0, b1, b2, b3) KK.out.1.1.1 KK.out.1.2.1 _ _ (fun x => x < w.heap.size) _ (fun x hx => Nat.lt_of_lt_of_le hx GM_15.out.size) ⟨_, _, rfl, NA_15.out⟩ ⟨_, _, rfl, NB_15.out⟩).mono ?_
      rintro e wc10 ⟨rfl, g⟩
      rw [HL.out]
      have WG := g
      have p0_16 := WG.cell (fun h => h) p0_15
      have p1_16 := WG.cell (fun h => h) p1_15
      have p2_16 := WG.cell (fun h => h) p2_15
      have p3_16 := WG.cell (fun h => h) p3_15
      have q0_16 := WG.cell (fun h => h) q0_15
      have q1_16 := WG.cell (fun h => h) q1_15
      have q2_16 := WG.cell (fun h => h) q2_15
      have q3_16 := WG.cell (fun h => h) q3_15
      have r0_16 := WG.cell (fun h => h) r0_15
      have r1_16 := WG.cell (fun h => h) r1_15
      have r2_16 := WG.cell (fun h => h) r2_15
      have r3_16 := WG.cell (fun h => h) r3_15
      have r4_16 := WG.cell (fun h => h) r4_15
      have t0_16 := WG.cell (fun h => h) t0_15
      have t1_16 := WG.cell (fun h => h) t1_15
      have t2_16 := WG.cell (fun h => h) t2_15
      have t3_16 := WG.cell (fun h => h) t3_15
      have t4_16 := WG.cell (fun h => h) t4_15
      have NA_16 := hide (NA_15.out.chg WG (fun _ _ h => h))
      have NB_16 := hide (NB_15.out.chg WG (fun _ _ h => h))
      have WX_16 := hide (WX_15.out.chg WG (fun _ _ h => h))
      have NX_16 := hide (NX_15.out.chg WG (fun _ _ h => h))
      have WY_16 := hide (WY_15.out.chg WG (fun _ _ h => h))
      have NY_16 := hide (NY_15.out.chg WG (fun _ _ h => h))
      have GM_16 := hide (GM_15.out.trans WG)
      clear p0_15 p1_15 p2_15 p3_15 q0_15 q1_15 q2_15 q3_15 r0_15 r1_15 r2_15 r3_15 r4_15 t0_15 t1_15 t2_15 t3_15 t4_15 NA_15 NB_15 WX_15 NX_15 WY_15 NY_15 GM_15
      clear NV1 NV2
      clear WG
      try go_simp
      refine hK.out _ _ ⟨p0_16, p1_16, p2_16, p3_16, q0_16, q1_16, q2_16, q3_16, r0_16, r1_16, r2_16, r3_16, r4_16, t0_16, t1_16, t2_16, t3_16, t4_16⟩ (fun hHeld => ?_)
      clear hK K
      try simp only [Act.put, List.getElem_toArray, List.getElem_cons_zero, List.getElem_cons_succ, List.setIfInBounds_toArray, List.set_cons_zero, List.set_cons_succ]
      first
        | (refine wpAnyH_take (i := 10) (v := undef) rfl (by kernel_rfl) (by kernel_rfl) (by kernel_rfl) (fun _ _ _ h => h) (Or.inr ⟨by rfl, rfl⟩) (by assumption) ?_)
        | (refine wpAnyH_take (i := 10) (v := ?_) rfl (by kernel_rfl) (by kernel_rfl) (by kernel_rfl) (fun _ _ _ h => h) (Or.inl ⟨by rfl, ?_⟩) (by assumption) ?_
           rotate_left
           (intro w hSw
            (try dsimp only at hSw)
            (go_simp <;> with_reducible rfl)))
      try simp only [Act.put, List.getElem_toArray, List.getElem_cons_zero, List.getElem_cons_succ, List.setIfInBounds_toArray, List.set_cons_zero, List.set_cons_succ]
      first
        | (refine wpAnyH_take (i := 11) (v := undef) rfl (by kernel_rfl) (by kernel_rfl) (by kernel_rfl) (fun _ _ _ h => h) (Or.inr ⟨by rfl, rfl⟩) (by assumption) ?_)
        | (refine wpAnyH_take (i := 11) (v := ?_) rfl (by kernel_rfl) (by kernel_rfl) (by kernel_rfl) (fun _ _ _ h => h) (Or.inl ⟨by rfl, ?_⟩) (by assumption) ?_
           rotate_left
           (intro w hSw
            (try dsimp only at hSw)
            (go_simp <;> with_reducible rfl)))
      try simp only [Act.put, List.getElem_toArray, List.getElem_cons_zero, List.getElem_cons_succ, List.setIfInBounds_toArray, List.set_cons_zero, List.set_cons_succ]
      first
        | (refine wpAnyH_take (i := 12) (v := undef) rfl (by kernel_rfl) (by kernel_rfl) (by kernel_rfl) (fun _ _ _ h => h) (Or.inr ⟨by rfl, rfl⟩) (by assumption) ?_)
        | (refine wpAnyH_take (i := 12) (v := ?_) rfl (by kernel_rfl) (by kernel_rfl) (by kernel_rfl) (fun _ _ _ h => h) (Or.inl ⟨by rfl, ?_⟩) (by assumption) ?_
           rotate_left
           (intro w hSw
            (try dsimp only at hSw)
            (go_simp <;> with_reducible rfl)))
      try simp only [Act.put, List.getElem_toArray, List.getElem_cons_zero, List.getElem_cons_succ, List.setIfInBounds_toArray, List.set_cons_zero, List.set_cons_succ]
      first
        | (refine wpAnyH_take (i := 13) (v := undef) rfl (by kernel_rfl) (by kernel_rfl) (by kernel_rfl) (fun _ _ _ h => h) (Or.inr ⟨by rfl, rfl⟩) (by assumption) ?_)
        | (refine wpAnyH_take (i := 13) (v := ?_) rfl (by kernel_rfl) (by kernel_rfl) (by kernel_rfl) (fun _ _ _ h => h) (Or.inl ⟨by rfl, ?_⟩) (by assumption) ?_
           rotate_left
           (intro w hSw
            (try dsimp only at hSw)
            (go_simp <;> with_reducible rfl)))
      try simp only [Act.put, List.getElem_toArray, List.getElem_cons_zero, List.getElem_cons_succ, List.setIfInBounds_toArray, List.set_cons_zero, List.set_cons_succ]
      first
        | (refine wpAnyH_take (i := 15) (v := undef) rfl (by kernel_rfl) (by kernel_rfl) (by kernel_rfl) (fun _ _ _ h => h) (Or.inr ⟨by rfl, rfl⟩) (by assumption) ?_)
        | (refine wpAnyH_take (i := 15) (v := ?_) rfl (by kernel_rfl) (by kernel_rfl) (by kernel_rfl) (fun _ _ _ h => h) (Or.inl ⟨by rfl, ?_⟩) (by assumption) ?_
           rotate_left
           (intro w hSw
            (try dsimp only at hSw)
            (go_simp <;> with_reducible rfl)))
      try simp only [Act.put, List.getElem_toArray, List.getElem_cons_zero, List.getElem_cons_succ, List.setIfInBounds_toArray, List.set_cons_zero, List.set_cons_succ]
      refine wpAnyH_ready (rs := [14]) (by kernel_rfl) (by simp) ?_
      refine AllReadyH.cons (i := 14) (o := _) rfl (fun K hK => ?_) ?_
      rotate_left
      · exact AllReadyH.nil
      go_simp
      refine (pto_any a3 KK.out.1.1.1.1 KK.out.1.1.1.2 a0 a1 a2 _ (fun x => x < w.heap.size) _ (fun x hx => Nat.lt_of_lt_of_le hx GM_16.out.size) NA_16.out).mono ?_
      rintro e wc11 ⟨⟨v3, rfl, hv3⟩, g⟩
      have WG := g
      have p0_17 := WG.cell (fun h => h) p0_16
      have p1_17 := WG.cell (fun h => h) p1_16
      have p2_17 := WG.cell (fun h => h) p2_16
      have p3_17 := WG.cell (fun h => h) p3_16
      have q0_17 := WG.cell (fun h => h) q0_16
      have q1_17 := WG.cell (fun h => h) q1_16
      have q2_17 := WG.cell (fun h => h) q2_16
      have q3_17 := WG.cell (fun h => h) q3_16
      have r0_17 := WG.cell (fun h => h) r0_16
      have r1_17 := WG.cell (fun h => h) r1_16
      have r2_17 := WG.cell (fun h => h) r2_16
      have r3_17 := WG.cell (fun h => h) r3_16
      have r4_17 := WG.cell (fun h => h) r4_16
      have t0_17 := WG.cell (fun h => h) t0_16
      have t1_17 := WG.cell (fun h => h) t1_16
      have t2_17 := WG.cell (fun h => h) t2_16
      have t3_17 := WG.cell (fun h => h) t3_16
      have t4_17 := WG.cell (fun h => h) t4_16
      have NA_17 := hide (NA_16.out.chg WG (fun _ _ h => h))
      have NB_17 := hide (NB_16.out.chg WG (fun _ _ h => h))
      have WX_17 := hide (WX_16.out.chg WG (fun _ _ h => h))
      have NX_17 := hide (NX_16.out.chg WG (fun _ _ h => h))
      have WY_17 := hide (WY_16.out.chg WG (fun _ _ h => h))
      have NY_17 := hide (NY_16.out.chg WG (fun _ _ h => h))
      have GM_17 := hide (GM_16.out.trans WG)
      clear p0_16 p1_16 p2_16 p3_16 q0_16 q1_16 q2_16 q3_16 r0_16 r1_16 r2_16 r3_16 r4_16 t0_16 t1_16 t2_16 t3_16 t4_16 NA_16 NB_16 WX_16 NX_16 WY_16 NY_16 GM_16
      obtain ⟨z3a, z3c, rfl, _⟩ := id hv3
      have NV3 := hide (hv3.up (Y := fun x => x < wc11.heap.size) (fun x hx => hx.2))
      clear hv3
      clear WG
      try go_simp
      refine hK.out _ _ ⟨p0_17, p1_17, p2_17, p3_17, q0_17, q1_17, q2_17, q3_17, r0_17, r1_17, r2_17, r3_17, r4_17, t0_17, t1_17, t2_17, t3_17, t4_17⟩ (fun hHeld => ?_)
      clear hK K
      try simp only [Act.put, List.getElem_toArray, List.getElem_cons_zero, List.getElem_cons_succ, List.setIfInBounds_toArray, List.set_cons_zero, List.set_cons_succ]
      refine wpAnyH_ready (rs := [16]) (by kernel_rfl) (by simp) ?_
      refine AllReadyH.cons (i := 16) (o := _) rfl (fun K hK => ?_) ?_
      rotate_left
      · exact AllReadyH.nil
      go_simp
      refine (pto_any a3 KK.out.1.1.1.1 KK.out.1.1.1.2 a0 a1 a2 _ (fun x => x < w.heap.size) _ (fun x hx => Nat.lt_of_lt_of_le hx GM_17.out.size) NA_17.out).mono ?_
      rintro e wc12 ⟨⟨v4, rfl, hv4⟩, g⟩
      have WG := g
      have NV3 := hide ((NV3.out.chg WG (fun _ _ h => h)).up (Y := fun x => x < wc12.heap.size) (fun x hx => Nat.lt_of_lt_of_le hx WG.size))
      have p0_18 := WG.cell (fun h => h) p0_17
      have p1_18 := WG.cell (fun h => h) p1_17
      have p2_18 := WG.cell (fun h => h) p2_17
      have p3_18 := WG.cell (fun h => h) p3_17
      have q0_18 := WG.cell (fun h => h) q0_17
      have q1_18 := WG.cell (fun h => h) q1_17
      have q2_18 := WG.cell (fun h => h) q2_17
      have q3_18 := WG.cell (fun h => h) q3_17
      have r0_18 := WG.cell (fun h => h) r0_17
      have r1_18 := WG.cell (fun h => h) r1_17
      have r2_18 := WG.cell (fun h => h) r2_17
      have r3_18 := WG.cell (fun h => h) r3_17
      have r4_18 := WG.cell (fun h => h) r4_17
      have t0_18 := WG.cell (fun h => h) t0_17
      have t1_18 := WG.cell (fun h => h) t1_17
      have t2_18 := WG.cell (fun h => h) t2_17
      have t3_18 := WG.cell (fun h => h) t3_17
      have t4_18 := WG.cell (fun h => h) t4_17
      have NA_18 := hide (NA_17.out.chg WG (fun _ _ h => h))
      have NB_18 := hide (NB_17.out.chg WG (fun _ _ h => h))
      have WX_18 := hide (WX_17.out.chg WG (fun _ _ h => h))
      have NX_18 := hide (NX_17.out.chg WG (fun _ _ h => h))
      have WY_18 := hide (WY_17.out.chg WG (fun _ _ h => h))
      have NY_18 := hide (NY_17.out.chg WG (fun _ _ h => h))
      have GM_18 := hide (GM_17.out.trans WG)
      clear p0_17 p1_17 p2_17 p3_17 q0_17 q1_17 q2_17 q3_17 r0_17 r1_17 r2_17 r3_17 r4_17 t0_17 t1_17 t2_17 t3_17 t4_17 NA_17 NB_17 WX_17 NX_17 WY_17 NY_17 GM_17
      obtain ⟨z4a, z4c, rfl, _⟩ := id hv4
      have NV4 := hide (hv4.up (Y := fun x => x < wc12.heap.size) (fun x hx => hx.2))
      clear hv4
      clear WG
      try go_simp
      refine hK.out _ _ ⟨p0_18, p1_18, p2_18, p3_18, q0_18, q1_18, q2_18, q3_18, r0_18, r1_18, r2_18, r3_18, r4_18, t0_18, t1_18, t2_18, t3_18, t4_18⟩ (fun hHeld => ?_)
      clear hK K
      try simp only [Act.put, List.getElem_toArray, List.getElem_cons_zero, List.getElem_cons_succ, List.setIfInBounds_toArray, List.set_cons_zero, List.set_cons_succ]
      refine wpAnyH_ready (rs := [17]) (by kernel_rfl) (by simp) ?_
      refine AllReadyH.cons (i := 17) (o := _) rfl (fun K hK => ?_) ?_
      rotate_left
      · exact AllReadyH.nil
      go_simp
      refine (equal_any (a0, a1, a2, a3) (a0, a1, a2, a3) KK.out.1.1.1 KK.out.1.1.1 _ _ (fun x => x < wc12.heap.size) _ (fun x hx => hx) ⟨_, _, rfl, NV3.out⟩ ⟨_, _, rfl, NV4.out⟩).mono ?_
      rintro e wc13 ⟨rfl, g⟩
      rw [likeN_refl]
      have WG := g
      have p0_19 := WG.cell (fun h => h) p0_18
      have p1_19 := WG.cell (fun h => h) p1_18
      have p2_19 := WG.cell (fun h => h) p2_18
      have p3_19 := WG.cell (fun h => h) p3_18
      have q0_19 := WG.cell (fun h => h) q0_18
      have q1_19 := WG.cell (fun h => h) q1_18
      have q2_19 := WG.cell (fun h => h) q2_18
      have q3_19 := WG.cell (fun h => h) q3_18
      have r0_19 := WG.cell (fun h => h) r0_18
      have r1_19 := WG.cell (fun h => h) r1_18
      have r2_19 := WG.cell (fun h => h) r2_18
      have r3_19 := WG.cell (fun h => h) r3_18
      have r4_19 := WG.cell (fun h => h) r4_18
      have t0_19 := WG.cell (fun h => h) t0_18
      have t1_19 := WG.cell (fun h => h) t1_18
      have t2_19 := WG.cell (fun h => h) t2_18
      have t3_19 := WG.cell (fun h => h) t3_18
      have t4_19 := WG.cell (fun h => h) t4_18
      have NA_19 := hide (NA_18.out.chg WG (fun _ _ h => h))
      have NB_19 := hide (NB_18.out.chg WG (fun _ _ h => h))
      have WX_19 := hide (WX_18.out.chg WG (fun _ _ h => h))
      have NX_19 := hide (NX_18.out.chg WG (fun _ _ h => h))
      have WY_19 := hide (WY_18.out.chg WG (fun _ _ h => h))
      have NY_19 := hide (NY_18.out.chg WG (fun _ _ h => h))
      have GM_19 := hide (GM_18.out.trans WG)
      clear p0_18 p1_18 p2_18 p3_18 q0_18 q1_18 q2_18 q3_18 r0_18 r1_18 r2_18 r3_18 r4_18 t0_18 t1_18 t2_18 t3_18 t4_18 NA_18 NB_18 WX_18 NX_18 WY_18 NY_18 GM_18
      clear WG
      try go_simp
      refine hK.out _ _ ⟨p0_19, p1_19, p2_19, p3_19, q0_19, q1_19, q2_19, q3_19, r0_19, r1_19, r2_19, r3_19, r4_19, t0_19, t1_19, t2_19, t3_19, t4_19⟩ (fun hHeld => ?_)
      clear hK K
      try simp only [Act.put, List.getElem_toArray, List.getElem_cons_zero, List.getElem_cons_succ, List.setIfInBounds_toArray, List.set_cons_zero, List.set_cons_succ]
      first
        | (refine wpAnyH_take (i := 18) (v := undef) rfl (by kernel_rfl) (by kernel_rfl) (by kernel_rfl) (fun _ _ _ h => h) (Or.inr ⟨by rfl, rfl⟩) (by assumption) ?_)
        | (refine wpAnyH_take (i := 18) (v := ?_) rfl (by kernel_rfl) (by kernel_rfl) (by kernel_rfl) (fun _ _ _ h => h) (Or.inl ⟨by rfl, ?_⟩) (by assumption) ?_
           rotate_left
           (intro w hSw
            (try dsimp only at hSw)
            (go_simp <;> with_reducible rfl)))
      try simp only [Act.put, List.getElem_toArray, List.getElem_cons_zero, List.getElem_cons_succ, List.setIfInBounds_toArray, List.set_cons_zero, List.set_cons_succ]
      first
        | (refine wpAnyH_take (i := 19) (v := undef) rfl (by kernel_rfl) (by kernel_rfl) (by kernel_rfl) (fun _ _ _ h => h) (Or.inr ⟨by rfl, rfl⟩) (by assumption) ?_)
        | (refine wpAnyH_take (i := 19) (v := ?_) rfl (by kernel_rfl) (by kernel_rfl) (by kernel_rfl) (fun _ _ _ h => h) (Or.inl ⟨by rfl, ?_⟩) (by assumption) ?_
           rotate_left
           (intro w hSw
            (try dsimp only at hSw)
            (go_simp <;> with_reducible rfl)))
      try simp only [Act.put, List.getElem_toArray, List.getElem_cons_zero, List.getElem_cons_succ, List.setIfInBounds_toArray, List.set_cons_zero, List.set_cons_succ]
      first
        | (refine wpAnyH_take (i := 20) (v := undef) rfl (by kernel_rfl) (by kernel_rfl) (by kernel_rfl) (fun _ _ _ h => h) (Or.inr ⟨by rfl, rfl⟩) (by assumption) ?_)
        | (refine wpAnyH_take (i := 20) (v := ?_) rfl (by kernel_rfl) (by kernel_rfl) (by kernel_rfl) (fun _ _ _ h => h) (Or.inl ⟨by rfl, ?_⟩) (by assumption) ?_
           rotate_left
           (intro w hSw
            (try dsimp only at hSw)
            (go_simp <;> with_reducible rfl)))
      try simp only [Act.put, List.getElem_toArray, List.getElem_cons_zero, List.getElem_cons_succ, List.setIfInBounds_toArray, List.set_cons_zero, List.set_cons_succ]
      first
        | (refine wpAnyH_take (i := 23) (v := undef) rfl (by kernel_rfl) (by kernel_rfl) (by kernel_rfl) (fun _ _ _ h => h) (Or.inr ⟨by rfl, rfl⟩) (by assumption) ?_)
        | (refine wpAnyH_take (i := 23) (v := ?_) rfl (by kernel_rfl) (by kernel_rfl) (by kernel_rfl) (fun _ _ _ h => h) (Or.inl ⟨by rfl, ?_⟩) (by assumption) ?_
           rotate_left
           (intro w hSw
            (try dsimp only at hSw)
            (go_simp <;> with_reducible rfl)))
      try simp only [Act.put, List.getElem_toArray, List.getElem_cons_zero, List.getElem_cons_succ, List.setIfInBounds_toArray, List.set_cons_zero, List.set_cons_succ]
      refine wpAnyH_ready (rs := [21]) (by kernel_rfl) (by simp) ?_
      refine AllReadyH.cons (i := 21) (o := _) rfl (fun K hK => ?_) ?_
      rotate_left
      · exact AllReadyH.nil
      go_simp
      refine (pto_any a3 KK.out.1.1.1.1 KK.out.1.1.1.2 a0 a1 a2 _ (fun x => x < w.heap.size) _ (fun x hx => Nat.lt_of_lt_of_le hx GM_19.out.size) NA_19.out).mono ?_
      rintro e wc14 ⟨⟨v5, rfl, hv5⟩, g⟩
      have WG := g
      have p0_20 := WG.cell (fun h => h) p0_19
      have p1_20 := WG.cell (fun h => h) p1_19
      have p2_20 := WG.cell (fun h => h) p2_19
      have p3_20 := WG.cell (fun h => h) p3_19
      have q0_20 := WG.cell (fun h => h) q0_19
      have q1_20 := WG.cell (fun h => h) q1_19
      have q2_20 := WG.cell (fun h => h) q2_19
      have q3_20 := WG.cell (fun h => h) q3_19
      have r0_20 := WG.cell (fun h => h) r0_19
      have r1_20 := WG.cell (fun h => h) r1_19
      have r2_20 := WG.cell (fun h => h) r2_19
      have r3_20 := WG.cell (fun h => h) r3_19
      have r4_20 := WG.cell (fun h => h) r4_19
      have t0_20 := WG.cell (fun h => h) t0_19
      have t1_20 := WG.cell (fun h => h) t1_19
      have t2_20 := WG.cell (fun h => h) t2_19
      have t3_20 := WG.cell (fun h => h) t3_19
      have t4_20 := WG.cell (fun h => h) t4_19
      have NA_20 := hide (NA_19.out.chg WG (fun _ _ h => h))
      have NB_20 := hide (NB_19.out.chg WG (fun _ _ h => h))
      have WX_20 := hide (WX_19.out.chg WG (fun _ _ h => h))
      have NX_20 := hide (NX_19.out.chg WG (fun _ _ h => h))
      have WY_20 := hide (WY_19.out.chg WG (fun _ _ h => h))
      have NY_20 := hide (NY_19.out.chg WG (fun _ _ h => h))
      have GM_20 := hide (GM_19.out.trans WG)
      clear p0_19 p1_19 p2_19 p3_19 q0_19 q1_19 q2_19 q3_19 r0_19 r1_19 r2_19 r3_19 r4_19 t0_19 t1_19 t2_19 t3_19 t4_19 NA_19 NB_19 WX_19 NX_19 WY_19 NY_19 GM_19
      obtain ⟨z5a, z5c, rfl, _⟩ := id hv5
      have NV5 := hide (hv5.up (Y := fun x => x < wc14.heap.size) (fun x hx => hx.2))
      clear hv5
      clear NV3 NV4
      clear WG
      try go_simp
      refine hK.out _ _ ⟨p0_20, p1_20, p2_20, p3_20, q0_20, q1_20, q2_20, q3_20, r0_20, r1_20, r2_20, r3_20, r4_20, t0_20, t1_20, t2_20, t3_20, t4_20⟩ (fun hHeld => ?_)
      clear hK K
      try simp only [Act.put, List.getElem_toArray, List.getElem_cons_zero, List.getElem_cons_succ, List.setIfInBounds_toArray, List.set_cons_zero, List.set_cons_succ]
      refine wpAnyH_ready (rs := [22]) (by kernel_rfl) (by simp) ?_
      refine AllReadyH.cons (i := 22) (o := _) rfl (fun K hK => ?_) ?_
      rotate_left
      · exact AllReadyH.nil
      go_simp
      refine (pdepth_any a3 (by have := KK.out.1.1.2; omega) a0 a1 a2 _ _ _ (fun x hx => hx) NV5.out).mono ?_
      rintro e wc15 ⟨rfl, g⟩
      rw [HDD.out]
      have WG := g
      have p0_21 := WG.cell (fun h => h) p0_20
      have p1_21 := WG.cell (fun h => h) p1_20
      have p2_21 := WG.cell (fun h => h) p2_20
      have p3_21 := WG.cell (fun h => h) p3_20
      have q0_21 := WG.cell (fun h => h) q0_20
      have q1_21 := WG.cell (fun h => h) q1_20
      have q2_21 := WG.cell (fun h => h) q2_20
      have q3_21 := WG.cell (fun h => h) q3_20
      have r0_21 := WG.cell (fun h => h) r0_20
      have r1_21 := WG.cell (fun h => h) r1_20
      have r2_21 := WG.cell (fun h => h) r2_20
      have r3_21 := WG.cell (fun h => h) r3_20
      have r4_21 := WG.cell (fun h => h) r4_20
      have t0_21 := WG.cell (fun h => h) t0_20
      have t1_21 := WG.cell (fun h => h) t1_20
      have t2_21 := WG.cell (fun h => h) t2_20
      have t3_21 := WG.cell (fun h => h) t3_20
      have t4_21 := WG.cell (fun h => h) t4_20
      have NA_21 := hide (NA_20.out.chg WG (fun _ _ h => h))
      have NB_21 := hide (NB_20.out.chg WG (fun _ _ h => h))
      have WX_21 := hide (WX_20.out.chg WG (fun _ _ h => h))
      have NX_21 := hide (NX_20.out.chg WG (fun _ _ h => h))
      have WY_21 := hide (WY_20.out.chg WG (fun _ _ h => h))
      have NY_21 := hide (NY_20.out.chg WG (fun _ _ h => h))
      have GM_21 := hide (GM_20.out.trans WG)
      clear p0_20 p1_20 p2_20 p3_20 q0_20 q1_20 q2_20 q3_20 r0_20 r1_20 r2_20 r3_20 r4_20 t0_20 t1_20 t2_20 t3_20 t4_20 NA_20 NB_20 WX_20 NX_20 WY_20 NY_20 GM_20
      clear NV5
      clear WG
      try go_simp
      refine hK.out _ _ ⟨p0_21, p1_21, p2_21, p3_21, q0_21, q1_21, q2_21, q3_21, r0_21, r1_21, r2_21, r3_21, r4_21, t0_21, t1_21, t2_21, t3_21, t4_21⟩ (fun hHeld => ?_)
      clear hK K
      try simp only [Act.put, List.getElem_toArray, List.getElem_cons_zero, List.getElem_cons_succ, List.setIfInBounds_toArray, List.set_cons_zero, List.set_cons_succ]
      refine wpAnyH_ready (rs := [24]) (by kernel_rfl) (by simp) ?_
      refine AllReadyH.cons (i := 24) (o := _) rfl (fun K hK => ?_) ?_
      rotate_left
      · exact AllReadyH.nil
      go_simp
      refine (rdepth_any a3 (by have := KK.out.1.1.2; omega) a0 a1 a2 _ (fun x => x < w.heap.size) _ (fun x hx => Nat.lt_of_lt_of_le hx GM_21.out.size) NA_21.out).mono ?_
      rintro e wc16 ⟨rfl, g⟩
      rw [HDD.out]
      have WG := g
      have p0_22 := WG.cell (fun h => h) p0_21
      have p1_22 := WG.cell (fun h => h) p1_21
      have p2_22 := WG.cell (fun h => h) p2_21
      have p3_22 := WG.cell (fun h => h) p3_21
      have q0_22 := WG.cell (fun h => h) q0_21
      have q1_22 := WG.cell (fun h => h) q1_21
      have q2_22 := WG.cell (fun h => h) q2_21
      have q3_22 := WG.cell (fun h => h) q3_21
      have r0_22 := WG.cell (fun h => h) r0_21
      have r1_22 := WG.cell (fun h => h) r1_21
      have r2_22 := WG.cell (fun h => h) r2_21
      have r3_22 := WG.cell (fun h => h) r3_21
      have r4_22 := WG.cell (fun h => h) r4_21
      have t0_22 := WG.cell (fun h => h) t0_21
      have t1_22 := WG.cell (fun h => h) t1_21
      have t2_22 := WG.cell (fun h => h) t2_21
      have t3_22 := WG.cell (fun h => h) t3_21
      have t4_22 := WG.cell (fun h => h) t4_21
      have NA_22 := hide (NA_21.out.chg WG (fun _ _ h => h))
      have NB_22 := hide (NB_21.out.chg WG (fun _ _ h => h))
      have WX_22 := hide (WX_21.out.chg WG (fun _ _ h => h))
      have NX_22 := hide (NX_21.out.chg WG (fun _ _ h => h))
      have WY_22 := hide (WY_21.out.chg WG (fun _ _ h => h))
      have NY_22 := hide (NY_21.out.chg WG (fun _ _ h => h))
      have GM_22 := hide (GM_21.out.trans WG)
      clear p0_21 p1_21 p2_21 p3_21 q0_21 q1_21 q2_21 q3_21 r0_21 r1_21 r2_21 r3_21 r4_21 t0_21 t1_21 t2_21 t3_21 t4_21 NA_21 NB_21 WX_21 NX_21 WY_21 NY_21 GM_21
      clear WG
      try go_simp
      refine hK.out _ _ ⟨p0_22, p1_22, p2_22, p3_22, q0_22, q1_22, q2_22, q3_22, r0_22, r1_22, r2_22, r3_22, r4_22, t0_22, t1_22, t2_22, t3_22, t4_22⟩ (fun hHeld => ?_)
      clear hK K
      try simp only [Act.put, List.getElem_toArray, List.getElem_cons_zero, List.getElem_cons_succ, List.setIfInBounds_toArray, List.set_cons_zero, List.set_cons_succ]
      first
        | (refine wpAnyH_take (i := 25) (v := undef) rfl (by kernel_rfl) (by kernel_rfl) (by kernel_rfl) (fun _ _ _ h => h) (Or.inr ⟨by rfl, rfl⟩) (by assumption) ?_)
        | (refine wpAnyH_take (i := 25) (v := ?_) rfl (by kernel_rfl) (by kernel_rfl) (by kernel_rfl) (fun _ _ _ h => h) (Or.inl ⟨by rfl, ?_⟩) (by assumption) ?_
           rotate_left
           (intro w hSw
            (try dsimp only at hSw)
            (go_simp <;> with_reducible rfl)))
      try simp only [Act.put, List.getElem_toArray, List.getElem_cons_zero, List.getElem_cons_succ, List.setIfInBounds_toArray, List.set_cons_zero, List.set_cons_succ]
      first
        | (refine wpAnyH_take (i := 26) (v := undef) rfl (by kernel_rfl) (by kernel_rfl) (by kernel_rfl) (fun _ _ _ h => h) (Or.inr ⟨by rfl, rfl⟩) (by assumption) ?_)
        | (refine wpAnyH_take (i := 26) (v := ?_) rfl (by kernel_rfl) (by kernel_rfl) (by kernel_rfl) (fun _ _ _ h => h) (Or.inl ⟨by rfl, ?_⟩) (by assumption) ?_
           rotate_left
           (intro w hSw
            (try dsimp only at hSw)
            (go_simp <;> with_reducible rfl)))
      try simp only [Act.put, List.getElem_toArray, List.getElem_cons_zero, List.getElem_cons_succ, List.setIfInBounds_toArray, List.set_cons_zero, List.set_cons_succ]
      first
        | (refine wpAnyH_take (i := 27) (v := undef) rfl (by kernel_rfl) (by kernel_rfl) (by kernel_rfl) (fun _ _ _ h => h) (Or.inr ⟨by rfl, rfl⟩) (by assumption) ?_)
        | (refine wpAnyH_take (i := 27) (v := ?_) rfl (by kernel_rfl) (by kernel_rfl) (by kernel_rfl) (fun _ _ _ h => h) (Or.inl ⟨by rfl, ?_⟩) (by assumption) ?_
           rotate_left
           (intro w hSw
            (try dsimp only at hSw)
            (go_simp <;> with_reducible rfl)))
      try simp only [Act.put, List.getElem_toArray, List.getElem_cons_zero, List.getElem_cons_succ, List.setIfInBounds_toArray, List.set_cons_zero, List.set_cons_succ]
      first
        | (refine wpAnyH_take (i := 28) (v := undef) rfl (by kernel_rfl) (by kernel_rfl) (by kernel_rfl) (fun _ _ _ h => h) (Or.inr ⟨by rfl, rfl⟩) (by assumption) ?_)
        | (refine wpAnyH_take (i := 28) (v := ?_) rfl (by kernel_rfl) (by kernel_rfl) (by kernel_rfl) (fun _ _ _ h => h) (Or.inl ⟨by rfl, ?_⟩) (by assumption) ?_
           rotate_left
           (intro w hSw
            (try dsimp only at hSw)
            (go_simp <;> with_reducible rfl)))
      try simp only [Act.put, List.getElem_toArray, List.getElem_cons_zero, List.getElem_cons_succ, List.setIfInBounds_toArray, List.set_cons_zero, List.set_cons_succ]
      first
        | (refine wpAnyH_take (i := 30) (v := undef) rfl (by kernel_rfl) (by kernel_rfl) (by kernel_rfl) (fun _ _ _ h => h) (Or.inr ⟨by rfl, rfl⟩) (by assumption) ?_)
        | (refine wpAnyH_take (i := 30) (v := ?_) rfl (by kernel_rfl) (by kernel_rfl) (by kernel_rfl) (fun _ _ _ h => h) (Or.inl ⟨by rfl, ?_⟩) (by assumption) ?_
           rotate_left
           (intro w hSw
            (try dsimp only at hSw)
            (go_simp <;> with_reducible rfl)))
      try simp only [Act.put, List.getElem_toArray, List.getElem_cons_zero, List.getElem_cons_succ, List.setIfInBounds_toArray, List.set_cons_zero, List.set_cons_succ]
      first
        | (refine wpAnyH_take (i := 33) (v := undef) rfl (by kernel_rfl) (by kernel_rfl) (by kernel_rfl) (fun _ _ _ h => h) (Or.inr ⟨by rfl, rfl⟩) (by assumption) ?_)
        | (refine wpAnyH_take (i := 33) (v := ?_) rfl (by kernel_rfl) (by kernel_rfl) (by kernel_rfl) (fun _ _ _ h => h) (Or.inl ⟨by rfl, ?_⟩) (by assumption) ?_
           rotate_left
           (intro w hSw
            (try dsimp only at hSw)
            (go_simp <;> with_reducible rfl)))
      try simp only [Act.put, List.getElem_toArray, List.getElem_cons_zero, List.getElem_cons_succ, List.setIfInBounds_toArray, List.set_cons_zero, List.set_cons_succ]
      first
        | (refine wpAnyH_take (i := 34) (v := undef) rfl (by kernel_rfl) (by kernel_rfl) (by kernel_rfl) (fun _ _ _ h => h) (Or.inr ⟨by rfl, rfl⟩) (by assumption) ?_)
        | (refine wpAnyH_take (i := 34) (v := ?_) rfl (by kernel_rfl) (by kernel_rfl) (by kernel_rfl) (fun _ _ _ h => h) (Or.inl ⟨by rfl, ?_⟩) (by assumption) ?_
           rotate_left
           (intro w hSw
            (try dsimp only at hSw)
            (go_simp <;> with_reducible rfl)))
      try simp only [Act.put, List.getElem_toArray, List.getElem_cons_zero, List.getElem_cons_succ, List.setIfInBounds_toArray, List.set_cons_zero, List.set_cons_succ]
      refine wpAnyH_ready (rs := [29]) (by kernel_rfl) (by simp) ?_
      refine AllReadyH.cons (i := 29) (o := _) rfl (fun K hK => ?_) ?_
      rotate_left
      · exact AllReadyH.nil
      go_simp
      refine (ptoi_any x2 KK.out.2.1.2.1 KK.out.2.1.2.2 x0 x3 x4 _ _ _ _ (fun x => x < w.heap.size) _ (fun x hx => Nat.lt_of_lt_of_le hx GM_22.out.size) NX_22.out).mono ?_
      rintro e wc17 ⟨⟨v6, rfl, hv6⟩, g⟩
      have WG := g
      have p0_23 := WG.cell (fun h => h) p0_22
      have p1_23 := WG.cell (fun h => h) p1_22
      have p2_23 := WG.cell (fun h => h) p2_22
      have p3_23 := WG.cell (fun h => h) p3_22
      have q0_23 := WG.cell (fun h => h) q0_22
      have q1_23 := WG.cell (fun h => h) q1_22
      have q2_23 := WG.cell (fun h => h) q2_22
      have q3_23 := WG.cell (fun h => h) q3_22
      have r0_23 := WG.cell (fun h => h) r0_22
      have r1_23 := WG.cell (fun h => h) r1_22
      have r2_23 := WG.cell (fun h => h) r2_22
      have r3_23 := WG.cell (fun h => h) r3_22
      have r4_23 := WG.cell (fun h => h) r4_22
      have t0_23 := WG.cell (fun h => h) t0_22
      have t1_23 := WG.cell (fun h => h) t1_22
      have t2_23 := WG.cell (fun h => h) t2_22
      have t3_23 := WG.cell (fun h => h) t3_22
      have t4_23 := WG.cell (fun h => h) t4_22
      have NA_23 := hide (NA_22.out.chg WG (fun _ _ h => h))
      have NB_23 := hide (NB_22.out.chg WG (fun _ _ h => h))
      have WX_23 := hide (WX_22.out.chg WG (fun _ _ h => h))
      have NX_23 := hide (NX_22.out.chg WG (fun _ _ h => h))
      have WY_23 := hide (WY_22.out.chg WG (fun _ _ h => h))
      have NY_23 := hide (NY_22.out.chg WG (fun _ _ h => h))
      have GM_23 := hide (GM_22.out.trans WG)
      clear p0_22 p1_22 p2_22 p3_22 q0_22 q1_22 q2_22 q3_22 r0_22 r1_22 r2_22 r3_22 r4_22 t0_22 t1_22 t2_22 t3_22 t4_22 NA_22 NB_22 WX_22 NX_22 WY_22 NY_22 GM_22
      obtain ⟨z6a, z6c, rfl, _⟩ := id hv6
      have NV6 := hide (hv6.up (Y := fun x => x < wc17.heap.size) (fun x hx => hx.2))
      clear hv6
      have WV6 := hide (WX_23.out.up (Y := fun x => x < wc17.heap.size) (fun x hx => Nat.lt_of_lt_of_le hx GM_23.out.size))
      clear WG
      try go_simp
      refine hK.out _ _ ⟨p0_23, p1_23, p2_23, p3_23, q0_23, q1_23, q2_23, q3_23, r0_23, r1_23, r2_23, r3_23, r4_23, t0_23, t1_23, t2_23, t3_23, t4_23⟩ (fun hHeld => ?_)
      clear hK K
      try simp only [Act.put, List.getElem_toArray, List.getElem_cons_zero, List.getElem_cons_succ, List.setIfInBounds_toArray, List.set_cons_zero, List.set_cons_succ]
      refine wpAnyH_ready (rs := [31]) (by kernel_rfl) (by simp) ?_
      refine AllReadyH.cons (i := 31) (o := _) rfl (fun K hK => ?_) ?_
      rotate_left
      · exact AllReadyH.nil
      go_simp
      refine (ptoi_any y2 KK.out.2.2.2.1 KK.out.2.2.2.2 y0 y3 y4 _ _ _ _ (fun x => x < w.heap.size) _ (fun x hx => Nat.lt_of_lt_of_le hx GM_23.out.size) NY_23.out).mono ?_
      rintro e wc18 ⟨⟨v7, rfl, hv7⟩, g⟩
      have WG := g
      have NV6 := hide ((NV6.out.chg WG (fun _ _ h => h)).up (Y := fun x => x < wc18.heap.size) (fun x hx => Nat.lt_of_lt_of_le hx WG.size))
      have WV6 := hide ((WV6.out.chg WG (fun _ _ h => h)).up (Y := fun x => x < wc18.heap.size) (fun x hx => Nat.lt_of_lt_of_le hx WG.size))
      have p0_24 := WG.cell (fun h => h) p0_23
      have p1_24 := WG.cell (fun h => h) p1_23
      have p2_24 := WG.cell (fun h => h) p2_23
      have p3_24 := WG.cell (fun h => h) p3_23
      have q0_24 := WG.cell (fun h => h) q0_23
      have q1_24 := WG.cell (fun h => h) q1_23
      have q2_24 := WG.cell (fun h => h) q2_23
      have q3_24 := WG.cell (fun h => h) q3_23
      have r0_24 := WG.cell (fun h => h) r0_23
      have r1_24 := WG.cell (fun h => h) r1_23
      have r2_24 := WG.cell (fun h => h) r2_23
      have r3_24 := WG.cell (fun h => h) r3_23
      have r4_24 := WG.cell (fun h => h) r4_23
      have t0_24 := WG.cell (fun h => h) t0_23
      have t1_24 := WG.cell (fun h => h) t1_23
      have t2_24 := WG.cell (fun h => h) t2_23
      have t3_24 := WG.cell (fun h => h) t3_23
      have t4_24 := WG.cell (fun h => h) t4_23
      have NA_24 := hide (NA_23.out.chg WG (fun _ _ h => h))
      have NB_24 := hide (NB_23.out.chg WG (fun _ _ h => h))
      have WX_24 := hide (WX_23.out.chg WG (fun _ _ h => h))
      have NX_24 := hide (NX_23.out.chg WG (fun _ _ h => h))
      have WY_24 := hide (WY_23.out.chg WG (fun _ _ h => h))
      have NY_24 := hide (NY_23.out.chg WG (fun _ _ h => h))
      have GM_24 := hide (GM_23.out.trans WG)
      clear p0_23 p1_23 p2_23 p3_23 q0_23 q1_23 q2_23 q3_23 r0_23 r1_23 r2_23 r3_23 r4_23 t0_23 t1_23 t2_23 t3_23 t4_23 NA_23 NB_23 WX_23 NX_23 WY_23 NY_23 GM_23
      obtain ⟨z7a, z7c, rfl, _⟩ := id hv7
      have NV7 := hide (hv7.up (Y := fun x => x < wc18.heap.size) (fun x hx => hx.2))
      clear hv7
      have WV7 := hide (WY_24.out.up (Y := fun x => x < wc18.heap.size) (fun x hx => Nat.lt_of_lt_of_le hx GM_24.out.size))
      clear WG
      try go_simp
      refine hK.out _ _ ⟨p0_24, p1_24, p2_24, p3_24, q0_24, q1_24, q2_24, q3_24, r0_24, r1_24, r2_24, r3_24, r4_24, t0_24, t1_24, t2_24, t3_24, t4_24⟩ (fun hHeld => ?_)
      clear hK K
      try simp only [Act.put, List.getElem_toArray, List.getElem_cons_zero, List.getElem_cons_succ, List.setIfInBounds_toArray, List.set_cons_zero, List.set_cons_succ]
      refine wpAnyH_ready (rs := [32]) (by kernel_rfl) (by simp) ?_
      refine AllReadyH.cons (i := 32) (o := _) rfl (fun K hK => ?_) ?_
      rotate_left
      · exact AllReadyH.nil
      go_simp
      refine (same_item x0 y0 x1 y1 x2 y2 x3 y3 x4 y4 KK.out.2.1 KK.out.2.2 _ _ _ _ _ _ (fun x hx => hx) WV6.out WV7.out NV6.out NV7.out).mono ?_
      rintro e wc19 ⟨rfl, g⟩
      rw [HI.out]
      have WG := g
      have p0_25 := WG.cell (fun h => h) p0_24
      have p1_25 := WG.cell (fun h => h) p1_24
      have p2_25 := WG.cell (fun h => h) p2_24
      have p3_25 := WG.cell (fun h => h) p3_24
      have q0_25 := WG.cell (fun h => h) q0_24
      have q1_25 := WG.cell (fun h => h) q1_24
      have q2_25 := WG.cell (fun h => h) q2_24
      have q3_25 := WG.cell (fun h => h) q3_24
      have r0_25 := WG.cell (fun h => h) r0_24
      have r1_25 := WG.cell (fun h => h) r1_24
      have r2_25 := WG.cell (fun h => h) r2_24
      have r3_25 := WG.cell (fun h => h) r3_24
      have r4_25 := WG.cell (fun h => h) r4_24
      have t0_25 := WG.cell (fun h => h) t0_24
      have t1_25 := WG.cell (fun h => h) t1_24
      have t2_25 := WG.cell (fun h => h) t2_24
      have t3_25 := WG.cell (fun h => h) t3_24
      have t4_25 := WG.cell (fun h => h) t4_24
      have NA_25 := hide (NA_24.out.chg WG (fun _ _ h => h))
      have NB_25 := hide (NB_24.out.chg WG (fun _ _ h => h))
      have WX_25 := hide (WX_24.out.chg WG (fun _ _ h => h))
      have NX_25 := hide (NX_24.out.chg WG (fun _ _ h => h))
      have WY_25 := hide (WY_24.out.chg WG (fun _ _ h => h))
      have NY_25 := hide (NY_24.out.chg WG (fun _ _ h => h))
      have GM_25 := hide (GM_24.out.trans WG)
      clear p0_24 p1_24 p2_24 p3_24 q0_24 q1_24 q2_24 q3_24 r0_24 r1_24 r2_24 r3_24 r4_24 t0_24 t1_24 t2_24 t3_24 t4_24 NA_24 NB_24 WX_24 NX_24 WY_24 NY_24 GM_24
      clear NV6 WV6 NV7 WV7
      clear WG
      try go_simp
      refine hK.out _ _ ⟨p0_25, p1_25, p2_25, p3_25, q0_25, q1_25, q2_25, q3_25, r0_25, r1_25, r2_25, r3_25, r4_25, t0_25, t1_25, t2_25, t3_25, t4_25⟩ (fun hHeld => ?_)
      clear hK K
      try simp only [Act.put, List.getElem_toArray, List.getElem_cons_zero, List.getElem_cons_succ, List.setIfInBounds_toArray, List.set_cons_zero, List.set_cons_succ]
      refine wpAnyH_ready (rs := [35]) (by kernel_rfl) (by simp) ?_
      refine AllReadyH.cons (i := 35) (o := _) rfl (fun K hK => ?_) ?_
      rotate_left
      · exact AllReadyH.nil
      go_simp
      refine (plikei_all false x0 y0 x1 y1 x2 y2 x3 y3 x4 y4 KK.out.2.1.1 KK.out.2.2.1 KK.out.2.1.2.1 KK.out.2.1.2.2 KK.out.2.2.2.1 KK.out.2.2.2.2 _ _ _ _ (fun x => x < w.heap.size) _ (fun x hx => Nat.lt_of_lt_of_le hx GM_25.out.size) WX_25.out WY_25.out NX_25.out NY_25.out).mono ?_
      rintro e wc20 ⟨rfl, g⟩
      rw [HI.out]
      have WG := g
      have p0_26 := WG.cell (fun h => h) p0_25
      have p1_26 := WG.cell (fun h => h) p1_25
      have p2_26 := WG.cell (fun h => h) p2_25
      have p3_26 := WG.cell (fun h => h) p3_25
      have q0_26 := WG.cell (fun h => h) q0_25
      have q1_26 := WG.cell (fun h => h) q1_25
      have q2_26 := WG.cell (fun h => h) q2_25
      have q3_26 := WG.cell (fun h => h) q3_25
      have r0_26 := WG.cell (fun h => h) r0_25
      have r1_26 := WG.cell (fun h => h) r1_25
      have r2_26 := WG.cell (fun h => h) r2_25
      have r3_26 := WG.cell (fun h => h) r3_25
      have r4_26 := WG.cell (fun h => h) r4_25
      have t0_26 := WG.cell (fun h => h) t0_25
      have t1_26 := WG.cell (fun h => h) t1_25
      have t2_26 := WG.cell (fun h => h) t2_25
      have t3_26 := WG.cell (fun h => h) t3_25
      have t4_26 := WG.cell (fun h => h) t4_25
      have NA_26 := hide (NA_25.out.chg WG (fun _ _ h => h))
      have NB_26 := hide (NB_25.out.chg WG (fun _ _ h => h))
      have WX_26 := hide (WX_25.out.chg WG (fun _ _ h => h))
      have NX_26 := hide (NX_25.out.chg WG (fun _ _ h => h))
      have WY_26 := hide (WY_25.out.chg WG (fun _ _ h => h))
      have NY_26 := hide (NY_25.out.chg WG (fun _ _ h => h))
      have GM_26 := hide (GM_25.out.trans WG)
      clear p0_25 p1_25 p2_25 p3_25 q0_25 q1_25 q2_25 q3_25 r0_25 r1_25 r2_25 r3_25 r4_25 t0_25 t1_25 t2_25 t3_25 t4_25 NA_25 NB_25 WX_25 NX_25 WY_25 NY_25 GM_25
      clear WG
      try go_simp
      refine hK.out _ _ ⟨p0_26, p1_26, p2_26, p3_26, q0_26, q1_26, q2_26, q3_26, r0_26, r1_26, r2_26, r3_26, r4_26, t0_26, t1_26, t2_26, t3_26, t4_26⟩ (fun hHeld => ?_)
      clear hK K
      try simp only [Act.put, List.getElem_toArray, List.getElem_cons_zero, List.getElem_cons_succ, List.setIfInBounds_toArray, List.set_cons_zero, List.set_cons_succ]
      first
        | (refine wpAnyH_take (i := 36) (v := undef) rfl (by kernel_rfl) (by kernel_rfl) (by kernel_rfl) (fun _ _ _ h => h) (Or.inr ⟨by rfl, rfl⟩) (by assumption) ?_)
        | (refine wpAnyH_take (i := 36) (v := ?_) rfl (by kernel_rfl) (by kernel_rfl) (by kernel_rfl) (fun _ _ _ h => h) (Or.inl ⟨by rfl, ?_⟩) (by assumption) ?_
           rotate_left
           (intro w hSw
            (try dsimp only at hSw)
            (go_simp <;> with_reducible rfl)))
      try simp only [Act.put, List.getElem_toArray, List.getElem_cons_zero, List.getElem_cons_succ, List.setIfInBounds_toArray, List.set_cons_zero, List.set_cons_succ]
      first
        | (refine wpAnyH_take (i := 37) (v := undef) rfl (by kernel_rfl) (by kernel_rfl) (by kernel_rfl) (fun _ _ _ h => h) (Or.inr ⟨by rfl, rfl⟩) (by assumption) ?_)
        | (refine wpAnyH_take (i := 37) (v := ?_) rfl (by kernel_rfl) (by kernel_rfl) (by kernel_rfl) (fun _ _ _ h => h) (Or.inl ⟨by rfl, ?_⟩) (by assumption) ?_
           rotate_left
           (intro w hSw
            (try dsimp only at hSw)
            (go_simp <;> with_reducible rfl)))
      try simp only [Act.put, List.getElem_toArray, List.getElem_cons_zero, List.getElem_cons_succ, List.setIfInBounds_toArray, List.set_cons_zero, List.set_cons_succ]
      first
        | (refine wpAnyH_take (i := 38) (v := undef) rfl (by kernel_rfl) (by kernel_rfl) (by kernel_rfl) (fun _ _ _ h => h) (Or.inr ⟨by rfl, rfl⟩) (by assumption) ?_)
        | (refine wpAnyH_take (i := 38) (v := ?_) rfl (by kernel_rfl) (by kernel_rfl) (by kernel_rfl) (fun _ _ _ h => h) (Or.inl ⟨by rfl, ?_⟩) (by assumption) ?_
           rotate_left
           (intro w hSw
            (try dsimp only at hSw)
            (go_simp <;> with_reducible rfl)))
      try simp only [Act.put, List.getElem_toArray, List.getElem_cons_zero, List.getElem_cons_succ, List.setIfInBounds_toArray, List.set_cons_zero, List.set_cons_succ]
      first
        | (refine wpAnyH_take (i := 39) (v := undef) rfl (by kernel_rfl) (by kernel_rfl) (by kernel_rfl) (fun _ _ _ h => h) (Or.inr ⟨by rfl, rfl⟩) (by assumption) ?_)
        | (refine wpAnyH_take (i := 39) (v := ?_) rfl (by kernel_rfl) (by kernel_rfl) (by kernel_rfl) (fun _ _ _ h => h) (Or.inl ⟨by rfl, ?_⟩) (by assumption) ?_
           rotate_left
           (intro w hSw
            (try dsimp only at hSw)
            (go_simp <;> with_reducible rfl)))
      try simp only [Act.put, List.getElem_toArray, List.getElem_cons_zero, List.getElem_cons_succ, List.setIfInBounds_toArray, List.set_cons_zero, List.set_cons_succ]
      first
        | (refine wpAnyH_take (i := 41) (v := undef) rfl (by kernel_rfl) (by kernel_rfl) (by kernel_rfl) (fun _ _ _ h => h) (Or.inr ⟨by rfl, rfl⟩) (by assumption) ?_)
        | (refine wpAnyH_take (i := 41) (v := ?_) rfl (by kernel_rfl) (by kernel_rfl) (by kernel_rfl) (fun _ _ _ h => h) (Or.inl ⟨by rfl, ?_⟩) (by assumption) ?_
           rotate_left
           (intro w hSw
            (try dsimp only at hSw)
            (go_simp <;> with_reducible rfl)))
      try simp only [Act.put, List.getElem_toArray, List.getElem_cons_zero, List.getElem_cons_succ, List.setIfInBounds_toArray, List.set_cons_zero, List.set_cons_succ]
      refine wpAnyH_ready (rs := [40]) (by kernel_rfl) (by simp) ?_
      refine AllReadyH.cons (i := 40) (o := _) rfl (fun K hK => ?_) ?_
      rotate_left
      · exact AllReadyH.nil
      go_simp
      refine (ptoi_any x2 KK.out.2.1.2.1 KK.out.2.1.2.2 x0 x3 x4 _ _ _ _ (fun x => x < w.heap.size) _ (fun x hx => Nat.lt_of_lt_of_le hx GM_26.out.size) NX_26.out).mono ?_
      rintro e wc21 ⟨⟨v8, rfl, hv8⟩, g⟩
      have WG := g
      have p0_27 := WG.cell (fun h => h) p0_26
      have p1_27 := WG.cell (fun h => h) p1_26
      have p2_27 := WG.cell (fun h => h) p2_26
      have p3_27 := WG.cell (fun h => h) p3_26
      have q0_27 := WG.cell (fun h => h) q0_26
      have q1_27 := WG.cell (fun h => h) q1_26
      have q2_27 := WG.cell (fun h => h) q2_26
      have q3_27 := WG.cell (fun h => h) q3_26
      have r0_27 := WG.cell (fun h => h) r0_26
      have r1_27 := WG.cell (fun h => h) r1_26
      have r2_27 := WG.cell (fun h => h) r2_26
      have r3_27 := WG.cell (fun h => h) r3_26
      have r4_27 := WG.cell (fun h => h) r4_26
      have t0_27 := WG.cell (fun h => h) t0_26
      have t1_27 := WG.cell (fun h => h) t1_26
      have t2_27 := WG.cell (fun h => h) t2_26
      have t3_27 := WG.cell (fun h => h) t3_26
      have t4_27 := WG.cell (fun h => h) t4_26
      have NA_27 := hide (NA_26.out.chg WG (fun _ _ h => h))
      have NB_27 := hide (NB_26.out.chg WG (fun _ _ h => h))
      have WX_27 := hide (WX_26.out.chg WG (fun _ _ h => h))
      have NX_27 := hide (NX_26.out.chg WG (fun _ _ h => h))
      have WY_27 := hide (WY_26.out.chg WG (fun _ _ h => h))
      have NY_27 := hide (NY_26.out.chg WG (fun _ _ h => h))
      have GM_27 := hide (GM_26.out.trans WG)
      clear p0_26 p1_26 p2_26 p3_26 q0_26 q1_26 q2_26 q3_26 r0_26 r1_26 r2_26 r3_26 r4_26 t0_26 t1_26 t2_26 t3_26 t4_26 NA_26 NB_26 WX_26 NX_26 WY_26 NY_26 GM_26
      obtain ⟨z8a, z8c, rfl, _⟩ := id hv8
      have NV8 := hide (hv8.up (Y := fun x => x < wc21.heap.size) (fun x hx => hx.2))
      clear hv8
      have WV8 := hide (WX_27.out.up (Y := fun x => x < wc21.heap.size) (fun x hx => Nat.lt_of_lt_of_le hx GM_27.out.size))
      clear WG
      try go_simp
      refine hK.out _ _ ⟨p0_27, p1_27, p2_27, p3_27, q0_27, q1_27, q2_27, q3_27, r0_27, r1_27, r2_27, r3_27, r4_27, t0_27, t1_27, t2_27, t3_27, t4_27⟩ (fun hHeld => ?_)
      clear hK K
      try simp only [Act.put, List.getElem_toArray, List.getElem_cons_zero, List.getElem_cons_succ, List.setIfInBounds_toArray, List.set_cons_zero, List.set_cons_succ]
      refine wpAnyH_ready (rs := [42]) (by kernel_rfl) (by simp) ?_
      refine AllReadyH.cons (i := 42) (o := _) rfl (fun K hK => ?_) ?_
      rotate_left
      · exact AllReadyH.nil
      go_simp
      refine (ptoi_any x2 KK.out.2.1.2.1 KK.out.2.1.2.2 x0 x3 x4 _ _ _ _ (fun x => x < w.heap.size) _ (fun x hx => Nat.lt_of_lt_of_le hx GM_27.out.size) NX_27.out).mono ?_
      rintro e wc22 ⟨⟨v9, rfl, hv9⟩, g⟩
      have WG := g
      have NV8 := hide ((NV8.out.chg WG (fun _ _ h => h)).up (Y := fun x => x < wc22.heap.size) (fun x hx => Nat.lt_of_lt_of_le hx WG.size))
      have WV8 := hide ((WV8.out.chg WG (fun _ _ h => h)).up (Y := fun x => x < wc22.heap.size) (fun x hx => Nat.lt_of_lt_of_le hx WG.size))
      have p0_28 := WG.cell (fun h => h) p0_27
      have p1_28 := WG.cell (fun h => h) p1_27
      have p2_28 := WG.cell (fun h => h) p2_27
      have p3_28 := WG.cell (fun h => h) p3_27
      have q0_28 := WG.cell (fun h => h) q0_27
      have q1_28 := WG.cell (fun h => h) q1_27
      have q2_28 := WG.cell (fun h => h) q2_27
      have q3_28 := WG.cell (fun h => h) q3_27
      have r0_28 := WG.cell (fun h => h) r0_27
      have r1_28 := WG.cell (fun h => h) r1_27
      have r2_28 := WG.cell (fun h => h) r2_27
      have r3_28 := WG.cell (fun h => h) r3_27
      have r4_28 := WG.cell (fun h => h) r4_27
      have t0_28 := WG.cell (fun h => h) t0_27
      have t1_28 := WG.cell (fun h => h) t1_27
      have t2_28 := WG.cell (fun h => h) t2_27
      have t3_28 := WG.cell (fun h => h) t3_27
      have t4_28 := WG.cell (fun h => h) t4_27
      have NA_28 := hide (NA_27.out.chg WG (fun _ _ h => h))
      have NB_28 := hide (NB_27.out.chg WG (fun _ _ h => h))
      have WX_28 := hide (WX_27.out.chg WG (fun _ _ h => h))
      have NX_28 := hide (NX_27.out.chg WG (fun _ _ h => h))
      have WY_28 := hide (WY_27.out.chg WG (fun _ _ h => h))
      have NY_28 := hide (NY_27.out.chg WG (fun _ _ h => h))
      have GM_28 := hide (GM_27.out.trans WG)
      clear p0_27 p1_27 p2_27 p3_27 q0_27 q1_27 q2_27 q3_27 r0_27 r1_27 r2_27 r3_27 r4_27 t0_27 t1_27 t2_27 t3_27 t4_27 NA_27 NB_27 WX_27 NX_27 WY_27 NY_27 GM_27
      obtain ⟨z9a, z9c, rfl, _⟩ := id hv9
      have NV9 := hide (hv9.up (Y := fun x => x < wc22.heap.size) (fun x hx => hx.2))
      clear hv9
      have WV9 := hide (WX_28.out.up (Y := fun x => x < wc22.heap.size) (fun x hx => Nat.lt_of_lt_of_le hx GM_28.out.size))
      clear WG
      try go_simp
      refine hK.out _ _ ⟨p0_28, p1_28, p2_28, p3_28, q0_28, q1_28, q2_28, q3_28, r0_28, r1_28, r2_28, r3_28, r4_28, t0_28, t1_28, t2_28, t3_28, t4_28⟩ (fun hHeld => ?_)
      clear hK K
      try simp only [Act.put, List.getElem_toArray, List.getElem_cons_zero, List.getElem_cons_succ, List.setIfInBounds_toArray, List.set_cons_zero, List.set_cons_succ]
      refine wpAnyH_ready (rs := [43]) (by kernel_rfl) (by simp) ?_
      refine AllReadyH.cons (i := 43) (o := _) rfl (fun K hK => ?_) ?_
      rotate_left
      · exact AllReadyH.nil
      go_simp
      refine (same_item x0 x0 x1 x1 x2 x2 x3 x3 x4 x4 KK.out.2.1 KK.out.2.1 _ _ _ _ _ _ (fun x hx => hx) WV8.out WV9.out NV8.out NV9.out).mono ?_
      rintro e wc23 ⟨rfl, g⟩
      rw [likeI_refl]
      have WG := g
      have p0_29 := WG.cell (fun h => h) p0_28
      have p1_29 := WG.cell (fun h => h) p1_28
      have p2_29 := WG.cell (fun h => h) p2_28
      have p3_29 := WG.cell (fun h => h) p3_28
      have q0_29 := WG.cell (fun h => h) q0_28
      have q1_29 := WG.cell (fun h => h) q1_28
      have q2_29 := WG.cell (fun h => h) q2_28
      have q3_29 := WG.cell (fun h => h) q3_28
      have r0_29 := WG.cell (fun h => h) r0_28
      have r1_29 := WG.cell (fun h => h) r1_28
      have r2_29 := WG.cell (fun h => h) r2_28
      have r3_29 := WG.cell (fun h => h) r3_28
      have r4_29 := WG.cell (fun h => h) r4_28
      have t0_29 := WG.cell (fun h => h) t0_28
      have t1_29 := WG.cell (fun h => h) t1_28
      have t2_29 := WG.cell (fun h => h) t2_28
      have t3_29 := WG.cell (fun h => h) t3_28
      have t4_29 := WG.cell (fun h => h) t4_28
      have NA_29 := hide (NA_28.out.chg WG (fun _ _ h => h))
      have NB_29 := hide (NB_28.out.chg WG (fun _ _ h => h))
      have WX_29 := hide (WX_28.out.chg WG (fun _ _ h => h))
      have NX_29 := hide (NX_28.out.chg WG (fun _ _ h => h))
      have WY_29 := hide (WY_28.out.chg WG (fun _ _ h => h))
      have NY_29 := hide (NY_28.out.chg WG (fun _ _ h => h))
      have GM_29 := hide (GM_28.out.trans WG)
      clear p0_28 p1_28 p2_28 p3_28 q0_28 q1_28 q2_28 q3_28 r0_28 r1_28 r2_28 r3_28 r4_28 t0_28 t1_28 t2_28 t3_28 t4_28 NA_28 NB_28 WX_28 NX_28 WY_28 NY_28 GM_28
      clear NV8 WV8 NV9 WV9
      clear WG
      try go_simp
      refine hK.out _ _ ⟨p0_29, p1_29, p2_29, p3_29, q0_29, q1_29, q2_29, q3_29, r0_29, r1_29, r2_29, r3_29, r4_29, t0_29, t1_29, t2_29, t3_29, t4_29⟩ (fun hHeld => ?_)
      clear hK K
      try simp only [Act.put, List.getElem_toArray, List.getElem_cons_zero, List.getElem_cons_succ, List.setIfInBounds_toArray, List.set_cons_zero, List.set_cons_succ]
      first
        | (refine wpAnyH_take (i := 44) (v := undef) rfl (by kernel_rfl) (by kernel_rfl) (by kernel_rfl) (fun _ _ _ h => h) (Or.inr ⟨by rfl, rfl⟩) (by assumption) ?_)
        | (refine wpAnyH_take (i := 44) (v := ?_) rfl (by kernel_rfl) (by kernel_rfl) (by kernel_rfl) (fun _ _ _ h => h) (Or.inl ⟨by rfl, ?_⟩) (by assumption) ?_
           rotate_left
           (intro w hSw
            (try dsimp only at hSw)
            (go_simp <;> with_reducible rfl)))
      try simp only [Act.put, List.getElem_toArray, List.getElem_cons_zero, List.getElem_cons_succ, List.setIfInBounds_toArray, List.set_cons_zero, List.set_cons_succ]
      first
        | (refine wpAnyH_take (i := 45) (v := undef) rfl (by kernel_rfl) (by kernel_rfl) (by kernel_rfl) (fun _ _ _ h => h) (Or.inr ⟨by rfl, rfl⟩) (by assumption) ?_)
        | (refine wpAnyH_take (i := 45) (v := ?_) rfl (by kernel_rfl) (by kernel_rfl) (by kernel_rfl) (fun _ _ _ h => h) (Or.inl ⟨by rfl, ?_⟩) (by assumption) ?_
           rotate_left
           (intro w hSw
            (try dsimp only at hSw)
            (go_simp <;> with_reducible rfl)))
      try simp only [Act.put, List.getElem_toArray, List.getElem_cons_zero, List.getElem_cons_succ, List.setIfInBounds_toArray, List.set_cons_zero, List.set_cons_succ]
      refine wpAnyH_done (by kernel_rfl) ?_ _
      go_wp2_with fail
      go_ret
      exact ⟨rfl, GM_29.out⟩
end Go.Proofs.Ytboeeaekhijboaa
namespace Go.Proofs.Ytboeeaekhijboaa
open Go.RowKit
set_option linter.unusedVariables false
theorem parts_below (w : World) {v0 v1 v2 v3 : Value} (n : Nd) (h0 : NodeIs w v0 n) (m : Nd) (h1 : NodeIs w v1 m) (x : It) (h2 : ItemIs w v2 x) (y : It) (h3 : ItemIs w v3 y) :
    Calls Try.prog 7 #[v0, v1, v2, v3] w fun e w' => e = .returned (.bool true) ∧ Below w.heap.size w w' :=
  (parts_walk n m x y v0 v1 v2 v3 w h0 h1 h2 h3).mono fun e w' h => ⟨h.1, h.2.below (Nat.le_refl _) (fun _ h => h.elim)⟩
end Go.Proofs.Ytboeeaekhijboaa
