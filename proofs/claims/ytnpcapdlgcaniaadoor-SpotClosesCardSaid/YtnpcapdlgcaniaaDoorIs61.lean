/- term.is: is a term of a type? -/
import Derived.Test.YtnpcapdlgcaniaaDoorTypeOf33
import Derived.Test.YtnpcapdlgcaniaaDoorEqual34
namespace Go.Proofs.YtnpcapdlgcaniaaDoor
open Go.RowKit
set_option linter.unusedVariables false
set_option linter.unusedSimpArgs false

/-- are a row's terms of a row's types? -/
def isRow (cs ms : Fs) : Fs → Tms → Fs → Bool
  | _, .nil, .nil => true
  | _, .nil, .cons _ _ _ => false
  | _, .cons _ _ _ _ _, .nil => false
  | ctx, .cons b k i a r, .cons pf pb rf => (decide (b = pf) && (match headG cs ms (ctx.app b) k i with
      | none => false
      | some p => (p.2 == pb) && (decide (p.1.len = a.len) && isRow cs ms (ctx.app b) a p.1))) && isRow cs ms ctx r rf
/-- is a term of a type? -/
def isOne (cs ms ctx : Fs) (t : Tm) (p : Fs × Int) : Bool := decide (t.bs = p.1) && (match headG cs ms (ctx.app t.bs) t.kd t.ix with
      | none => false
      | some q => (q.2 == p.2) && (decide (q.1.len = t.ag.len) && isRow cs ms (ctx.app t.bs) t.ag q.1))
theorem isRow_iff (cs ms ctx : Fs) : ∀ (f : Tms) (g : Fs), isRow cs ms ctx f g = true ↔ f.len = g.len ∧ ∀ j (h1 : j < f.toL.length) (h2 : j < g.toL.length), isOne cs ms ctx f.toL[j] g.toL[j] = true
  | .nil, .nil => by simp [isRow, Tms.len, Fs.len, Tms.toL]
  | .nil, .cons _ _ _ => by simp [isRow, Tms.len, Fs.len]
  | .cons _ _ _ _ _, .nil => by simp [isRow, Tms.len, Fs.len]
  | .cons b k i a r, .cons pf pb rf => by
    have ih := isRow_iff cs ms ctx r rf
    have e : isRow cs ms ctx (.cons b k i a r) (.cons pf pb rf) = (isOne cs ms ctx (b, k, i, a) (pf, pb) && isRow cs ms ctx r rf) := by
      simp only [isRow, isOne, Tm.bs, Tm.kd, Tm.ix, Tm.ag]
    rw [e, Bool.and_eq_true, ih]
    constructor
    · rintro ⟨h1, h2, h3⟩
      refine ⟨by simp only [Tms.len, Fs.len, h2], fun j i1 i2 => ?_⟩
      cases j with
      | zero => exact h1
      | succ j => exact h3 j (by simpa [Tms.toL] using i1) (by simpa [Fs.toL] using i2)
    · rintro ⟨h1, h2⟩
      refine ⟨h2 0 (by simp [Tms.toL]) (by simp [Fs.toL]), by simpa [Tms.len, Fs.len] using h1, fun j i1 i2 => ?_⟩
      exact h2 (j + 1) (by simpa [Tms.toL] using i1) (by simpa [Fs.toL] using i2)
theorem Fs.kid_get {f : Fs} {p : Fs × Int} {j : Nat} {h : j < f.toL.length} (e : f.toL[j] = p) : p.1.size < f.size := by rw [← e]; exact Fs.kid_size f j h
theorem headG_size {cs ms ctx : Fs} {k i : Int} {p : Fs × Int} (h : headG cs ms ctx k i = some p) : p.1.size ≤ cs.size + ms.size + ctx.size := by
  unfold headG at h
  split at h
  · have := Fs.at_size h; omega
  split at h
  · have := Fs.at_size h; omega
  split at h
  · split at h
    · cases h
    · have := Fs.at_size h; omega
  · cases h

def IsC (cs ms : Fs) (f : Tms) : Prop := ∀ (n : Int) (ctx b : Fs) (k i : Int) (pf : Fs) (pb : Int) (ca : Option Addr) (cc : Nat) (ma : Option Addr) (mc : Nat) (vx vb v vp : Value) (w : World),
    ctx.size + b.size + f.size ≤ 40000 → In64' i → TOk f → pf.size ≤ 1000000 → Ts w (fun x => x < w.heap.size) (.slice ca cs.len cc) cs → Ts w (fun x => x < w.heap.size) (.slice ma ms.len mc) ms → Ts w (fun x => x < w.heap.size) vx ctx →
    Ts w (fun x => x < w.heap.size) vb b → Tr w (fun x => x < w.heap.size) v f → Ts w (fun x => x < w.heap.size) vp pf →
    Calls Tryd.prog 61 #[wldV n ca cs.len cc ma ms.len mc, vx, .agg #[vb, .int .i64 k, .int .i64 i, v], .agg #[vp, .int .i64 pb]] w fun e w' => e = .returned (.bool (isOne cs ms ctx (b, k, i, f) (pf, pb))) ∧ Chg (fun _ => False) w w'
/-- what the loop keeps -/
def IsInv (cs ms inn : Fs) (w5 wr : World) (f : Tms) (g : Fs) (j : Nat) : Prop := Hid (Chg (fun _ => False) w5 wr) ∧ Hid (∀ m (h1 : m < f.toL.length) (h2 : m < g.toL.length), m < j → isOne cs ms inn f.toL[m] g.toL[m] = true)

set_option maxRecDepth 100000 in
set_option maxHeartbeats 32000000 in
theorem is_step (cs ms : Fs) (hcs : cs.size ≤ 40000) (hms : ms.size ≤ 40000) (N : Nat) (ih : ∀ (f : Tms), f.size < N → IsC cs ms f) (f : Tms) (hf : f.size ≤ N) : IsC cs ms f := by
  intro n ctx b k i pf pb ca cc ma mc vx vb v vp w hsz hi htk hps h1 h2 h3 h4 h5 h6
  obtain ⟨xa, xc, rfl, _⟩ := id h3
  obtain ⟨ba, bc, rfl, _⟩ := id h4
  obtain ⟨a, cap, rfl, _⟩ := id h5
  obtain ⟨pa, pc, rfl, _⟩ := id h6
  obtain ⟨OUT, hOUT⟩ : ∃ OUT, isOne cs ms ctx (b, k, i, f) (pf, pb) = OUT := ⟨_, rfl⟩
  have HOUT : Hid (OUT = (decide (b = pf) && (match headG cs ms (ctx.app b) k i with
      | none => false
      | some q => (q.2 == pb) && (decide (q.1.len = f.len) && isRow cs ms (ctx.app b) f q.1)))) := hide hOUT.symm
  rw [hOUT]
  clear hOUT
  have hbl := Fs.len_size b
  have hxl := Fs.len_size ctx
  have hcl := Fs.len_size cs
  have hml := Fs.len_size ms
  have hal := Fs.app_len ctx b
  have has := Fs.app_size ctx b
  have htl := Tms.toL_len f
  have hflen := Tms.len_size f
  have W1 := al w (.cells #[.int .i64 n, .slice ca cs.len cc, .slice ma ms.len mc] 66)
  have B1 := blk_new w (.cells #[.int .i64 n, .slice ca cs.len cc, .slice ma ms.len mc] 66)
  have W2 := al (w.alloc (.cells #[.int .i64 n, .slice ca cs.len cc, .slice ma ms.len mc] 66)) (.cells #[.slice ba b.len bc, .int .i64 k, .int .i64 i, .slice a f.len cap] 35)
  have B2 := blk_new (w.alloc (.cells #[.int .i64 n, .slice ca cs.len cc, .slice ma ms.len mc] 66)) (.cells #[.slice ba b.len bc, .int .i64 k, .int .i64 i, .slice a f.len cap] 35)
  have W3 := al ((w.alloc (.cells #[.int .i64 n, .slice ca cs.len cc, .slice ma ms.len mc] 66)).alloc (.cells #[.slice ba b.len bc, .int .i64 k, .int .i64 i, .slice a f.len cap] 35)) (.cells #[.slice pa pf.len pc, .int .i64 pb] 73)
  have B3 := blk_new ((w.alloc (.cells #[.int .i64 n, .slice ca cs.len cc, .slice ma ms.len mc] 66)).alloc (.cells #[.slice ba b.len bc, .int .i64 k, .int .i64 i, .slice a f.len cap] 35)) (.cells #[.slice pa pf.len pc, .int .i64 pb] 73)
  rw [al_sz] at B2
  rw [al_sz, al_sz] at B3
  have GG := hide ((W1.trans W2).trans W3)
  have b1 := hide (W3.blk (fun h => h) (W2.blk (fun h => h) B1))
  have b2 := hide (W3.blk (fun h => h) B2)
  have b3 := hide B3
  have H1 := hide (h1.all GG.out)
  have H2 := hide (h2.all GG.out)
  have H3 := hide (h3.all GG.out)
  have H4 := hide (h4.all GG.out)
  have H5 := hide (h5.all GG.out)
  have H6 := hide (h6.all GG.out)
  have HI := hide hi
  have HA := hide (And.intro hal has)
  have IH := hide ih
  have HF := hide hf
  have HSZ := hide hsz
  have HTK := hide htk
  have hfb : f.len ≤ 1000000 := by omega
  clear W1 W2 W3 B1 B2 B3 h1 h2 h3 h4 h5 h6 hi hal has ih hf hsz htk hflen
  obtain ⟨P, hP⟩ : ∃ P, w.heap.size = P := ⟨_, rfl⟩
  have HP := hide hP
  rw [hP] at b1 b2 b3
  go_enter Tryd.func61, Tryd.ntmps61
  go_upto_region 1 with fail
  try rw [hP]
  clear hP
  generalize ((w.alloc (.cells #[.int .i64 n, .slice ca cs.len cc, .slice ma ms.len mc] 66)).alloc (.cells #[.slice ba b.len bc, .int .i64 k, .int .i64 i, .slice a f.len cap] 35)).alloc (.cells #[.slice pa pf.len pc, .int .i64 pb] 73) = w1 at *
  have x0 := blk_cell b2.out 0
  have y0 := blk_cell b3.out 0
  simp only [List.getElem?_toArray, List.getElem?_cons_zero, List.getElem?_cons_succ] at x0 y0
  have EQ := hide (eqf_any b pf (by have := HSZ.out; omega) hps (.slice ba b.len bc) (.slice pa pf.len pc) _ w1 (fun x h => h) H4.out H6.out)
  obtain ⟨D, hD⟩ : ∃ D, decide (b = pf) = D := ⟨_, rfl⟩
  rw [hD] at EQ
  have HO2 : Hid (OUT = (D && (match headG cs ms (ctx.app b) k i with
      | none => false
      | some q => (q.2 == pb) && (decide (q.1.len = f.len) && isRow cs ms (ctx.app b) f q.1)))) := hide (by rw [HOUT.out, hD])
  clear hD HOUT
  cases D
  · obtain rfl : OUT = false := by rw [HO2.out, Bool.false_and]
    go_wp2_with fail
    refine EQ.out.mono ?_
    rintro e w6 ⟨rfl, g6⟩
    have G6 := hide (GG.out.trans g6)
    clear g6
    go_wp2_with fail
    go_ret
    exact ⟨rfl, G6.out⟩
  have HO3 : Hid (OUT = (match headG cs ms (ctx.app b) k i with
      | none => false
      | some q => (q.2 == pb) && (decide (q.1.len = f.len) && isRow cs ms (ctx.app b) f q.1))) := hide (by rw [HO2.out, Bool.true_and])
  clear HO2
  go_wp2_with fail
  refine EQ.out.mono ?_
  rintro e w2 ⟨rfl, g2⟩
  have G2 := hide (GG.out.trans g2)
  have b1' := hide (g2.blk (fun h => h) b1.out)
  have b2' := hide (g2.blk (fun h => h) b2.out)
  have b3' := hide (g2.blk (fun h => h) b3.out)
  have H1' := hide (H1.out.all g2)
  have H2' := hide (H2.out.all g2)
  have H3' := hide (H3.out.all g2)
  have H4' := hide (H4.out.all g2)
  have H5' := hide (H5.out.all g2)
  clear x0 y0 g2 H1 H2 H3 H4 H5 H6 b1 b2 b3 GG EQ
  go_upto_region 3 with fail
  have x0 := blk_cell b2'.out 0
  simp only [List.getElem?_toArray, List.getElem?_cons_zero] at x0
  have WI := hide (within_any ctx b (by have := HSZ.out; omega) (by have := HSZ.out; omega) (.slice xa ctx.len xc) (.slice ba b.len bc) _ w2 (fun x h => h) H3'.out H4'.out)
  go_wp2_with fail
  refine WI.out.mono ?_
  rintro e w3 ⟨⟨v', rfl, tv⟩, g3⟩
  obtain ⟨ia, ic, rfl, _⟩ := id tv
  have TI := hide (tv.of_newX g3)
  have G3 := hide (G2.out.trans g3)
  have b1 := hide (g3.blk (fun h => h) b1'.out)
  have b2 := hide (g3.blk (fun h => h) b2'.out)
  have b3 := hide (g3.blk (fun h => h) b3'.out)
  have H1 := hide (H1'.out.all g3)
  have H2 := hide (H2'.out.all g3)
  have H5 := hide (H5'.out.all g3)
  clear x0 g3 tv H1' H2' H3' H4' H5' b1' b2' b3' G2 WI
  go_upto_region 4 with fail
  have x0 := blk_cell b1.out 0
  have x1 := blk_cell b1.out 1
  have x2 := blk_cell b1.out 2
  have y1 := blk_cell b2.out 1
  have y2 := blk_cell b2.out 2
  simp only [List.getElem?_toArray, List.getElem?_cons_zero, List.getElem?_cons_succ] at x0 x1 x2 y1 y2
  obtain ⟨R, hR⟩ : ∃ R, headG cs ms (ctx.app b) k i = R := ⟨_, rfl⟩
  have HE := hide (head_any n cs ms (ctx.app b) k i HI.out (by omega) (by omega) (by have := HA.out.1; have := HSZ.out; omega) ca cc ma mc _ (fun x => x < w3.heap.size) w3 (fun _ h => h) H1.out H2.out TI.out)
  rw [hR] at HE HO3
  have HR := hide hR
  clear hR
  obtain ⟨⟨d1, d2⟩, hD⟩ : ∃ D, R.getD (.nil, 0) = D := ⟨_, rfl⟩
  obtain ⟨rb, hrb⟩ : ∃ rb, R.isSome = rb := ⟨_, rfl⟩
  rw [hD, hrb] at HE
  have HD := hide hD
  have HRB := hide hrb
  clear hD hrb
  go_wp2_with fail
  refine HE.out.mono ?_
  rintro e w4 ⟨⟨v', rfl, tv⟩, g4⟩
  obtain ⟨va, vc, rfl, ts⟩ := tv
  dsimp only at ts ⊢
  have GA := al w4 (.cells #[.slice va d1.len vc, .int .i64 d2] 73)
  have bo := blk_new w4 (.cells #[.slice va d1.len vc, .int .i64 d2] 73)
  have g5 := g4.trans GA
  have G5 := hide (G3.out.trans g5)
  have b1' := hide (g5.blk (fun h => h) b1.out)
  have b2' := hide (g5.blk (fun h => h) b2.out)
  have b3' := hide (g5.blk (fun h => h) b3.out)
  have H1' := hide (H1.out.all g5)
  have H2' := hide (H2.out.all g5)
  have TI' := hide (TI.out.all g5)
  have H5' := hide (H5.out.all g5)
  have TD := hide ((ts.up (fun x hx => Nat.lt_of_lt_of_le hx g4.size)).all GA)
  have BO := hide bo
  clear x0 x1 x2 y1 y2 ts g4 GA bo g5 H1 H2 TI H5 b1 b2 b3 G3 HE
  go_upto_region 5 with fail
  obtain ⟨O, hO⟩ : ∃ O, w4.heap.size = O := ⟨_, rfl⟩
  rw [hO] at BO
  try rw [hO]
  clear hO
  generalize w4.alloc (.cells #[.slice va d1.len vc, .int .i64 d2] 73) = w5 at *
  have o0 := blk_cell BO.out 0
  have o1 := blk_cell BO.out 1
  have p1 := blk_cell b3'.out 1
  have q3 := blk_cell b2'.out 3
  simp only [List.getElem?_toArray, List.getElem?_cons_zero, List.getElem?_cons_succ] at o0 o1 p1 q3
  cases R with
  | none =>
    obtain rfl : rb = false := HRB.out.symm
    obtain rfl : OUT = false := HO3.out
    go_wp2_with fail
    go_ret
    exact ⟨rfl, G5.out⟩
  | some p =>
  obtain rfl : rb = true := HRB.out.symm
  obtain ⟨r1, r2⟩ := p
  have hd : (d1, d2) = (r1, r2) := HD.out.symm
  injection hd with hd1 hd2
  subst hd1 hd2
  have HO4 : Hid (OUT = ((d2 == pb) && (decide (d1.len = f.len) && isRow cs ms (ctx.app b) f d1))) := hide HO3.out
  clear HO3 HD HRB
  by_cases k1 : ¬ d2 = pb
  · have k1b : (d2 != pb) = true := by simp [k1]
    obtain rfl : OUT = false := by rw [HO4.out]; simp [k1]
    clear k1
    go_wp2_with fail
    go_ret
    exact ⟨rfl, G5.out⟩
  replace k1 := Decidable.not_not.1 k1
  have k1b : (d2 != pb) = false := by simp [k1]
  have HO5 : Hid (OUT = (decide (d1.len = f.len) && isRow cs ms (ctx.app b) f d1)) := hide (by rw [HO4.out]; simp [k1])
  clear k1 HO4
  by_cases k2 : ¬ d1.len = f.len
  · have k2b : ((d1.len : Int) != (f.len : Int)) = true := by simp; omega
    obtain rfl : OUT = false := by rw [HO5.out]; simp [k2]
    clear k2
    go_wp2_with fail
    go_ret
    exact ⟨rfl, G5.out⟩
  replace k2 := Decidable.not_not.1 k2
  have k2b : ((d1.len : Int) != (f.len : Int)) = false := by simp; omega
  have HO6 : Hid (isRow cs ms (ctx.app b) f d1 = OUT) := hide (by rw [HO5.out]; simp [k2])
  have E4 := hide k2
  clear k2 HO5
  have hpl := hide (headG_size HR.out)
  have htd := Fs.toL_len d1
  go_wp2_with fail
  clear o0 o1 p1 q3 k1b k2b
  clear hpl
  have HK := hide (headG_size HR.out)
  go_loopw [53] (fun iv wr => ∃ (j : Nat), j ≤ f.len ∧ iv = .int .i64 j ∧ Hid (IsInv cs ms (ctx.app b) w5 wr f d1 j)) (fun iv _ => f.len - (intOf iv).toNat)
  case atStart => exact ⟨0, Nat.zero_le _, rfl, hide ⟨hide (Chg.refl _ _), hide (fun m _ _ h => absurd h (Nat.not_lt_zero _))⟩⟩
  case round =>
    obtain ⟨j, hj, rfl, hIN⟩ := hrel
    obtain ⟨hC, hM⟩ := hIN.out
    clear hIN
    by_cases hlt : j < f.len
    · have hjt : j < f.toL.length := by omega
      have hjd : j < d1.toL.length := by have := E4.out; omega
      obtain ⟨la, lc, hlv, hl⟩ := H5'.out
      rcases hl with h0 | ⟨ga, goff, rfl, hg, hl⟩
      · subst h0; exact absurd hlt (Nat.not_lt_zero _)
      injection hlv with e1 e2 e3
      subst e1
      clear e2 e3
      obtain ⟨ma', mc', hmv, hm⟩ := TD.out
      rcases hm with h0 | ⟨gb, boff, rfl, hg', hm⟩
      · subst h0; exact absurd hjd (Nat.not_lt_zero _)
      injection hmv with e1 e2 e3
      subst e1
      clear e2 e3
      obtain ⟨⟨vs, c0, tb⟩, c1, c2, vr, c3, tr⟩ := tlies_get hl j hjt
      obtain ⟨⟨vq, k0, tq⟩, k1⟩ := lies_get hm j hjd
      obtain ⟨sa, sc, rfl, _⟩ := id tb
      obtain ⟨sd, se, rfl, _⟩ := id tr
      obtain ⟨qa, qc, rfl, _⟩ := id tq
      have hks := Tms.kid_sum f j hjt
      have htk := tok_get HTK.out j hjt
      have hkq := Fs.kid_size d1 j hjd
      dsimp only [Tm.bs, Tm.kd, Tm.ix, Tm.ag] at c0 c1 c2 c3 tb tr hks htk
      have WC := hC.out
      have i1 : (0 : Int) ≤ (j : Int) := by omega
      have i2 : (j : Int) < (f.len : Int) := by omega
      have i3 : (j : Int) < (d1.len : Int) := by have := E4.out; omega
      have KI := hide (fun w' (gg : Chg (fun _ => False) w5 w') => IH.out (f.toL[j]).2.2.2 (by have := HF.out; omega) n (ctx.app b) (f.toL[j]).1 (f.toL[j]).2.1 (f.toL[j]).2.2.1 (d1.toL[j]).1 (d1.toL[j]).2 ca cc ma mc (.slice ia (ctx.app b).len ic) _ _ _ w' (by have := HA.out.2; have := HSZ.out; omega) htk.2.1 htk.2.2.2 (by have := HK.out; have := HA.out.2; have := HSZ.out; dsimp only at *; omega)
        (H1'.out.all gg) (H2'.out.all gg) (TI'.out.all gg) (tb.all gg) (tr.all gg) (tq.all gg))
      have d0 := WC.cell (fun h => h) c0
      have d1' := WC.cell (fun h => h) c1
      have d2' := WC.cell (fun h => h) c2
      have d3 := WC.cell (fun h => h) c3
      have HG := hide (fun (h : isOne cs ms (ctx.app b) f.toL[j] d1.toL[j] = false) => (show false = OUT by
        cases hR : OUT with
        | false => rfl
        | true =>
          have h1 := ((isRow_iff cs ms (ctx.app b) f d1).1 (HO6.out.trans hR)).2 j hjt hjd
          rw [h] at h1
          exact h1))
      have HT := hide (fun (h : isOne cs ms (ctx.app b) f.toL[j] d1.toL[j] = true) => show (∀ m (h1 : m < f.toL.length) (h2 : m < d1.toL.length), m < j + 1 → isOne cs ms (ctx.app b) f.toL[m] d1.toL[m] = true) from fun m h1 h2 h3 => by
        by_cases e : m < j
        · exact hM.out m h1 h2 e
        · have : m = j := by omega
          subst this
          exact h)
      have HCC := hide hC.out
      have GK0 := hide (WC.cell (fun h => h) k0)
      have GK1 := hide (WC.cell (fun h => h) k1)
      obtain ⟨L, hL⟩ : ∃ L, isOne cs ms (ctx.app b) f.toL[j] d1.toL[j] = L := ⟨_, rfl⟩
      rw [hL] at HG HT
      have HL := hide hL
      clear hl hm c0 c1 c2 c3 k0 k1 tb tr tq hks htk hkq WC hM hC hL
      generalize hsub : f.toL[j] = s at *
      generalize hqub : d1.toL[j] = q at *
      obtain ⟨s0, s1, s2, s3⟩ := s
      obtain ⟨q0, q1⟩ := q
      dsimp only at d0 d1' d2' d3 KI HL GK0 GK1
      clear hsub hqub
      have GA := al wr (.cells #[.slice sa s0.len sc, .int .i64 s1, .int .i64 s2, .slice sd s3.len se] 35)
      have BS := hide (blk_new wr (.cells #[.slice sa s0.len sc, .int .i64 s1, .int .i64 s2, .slice sd s3.len se] 35))
      have HCA := hide (HCC.out.trans GA)
      have k0 := GA.cell (fun h => h) GK0.out
      have k1 := GA.cell (fun h => h) GK1.out
      clear GA HCC GK0 GK1
      go_upto_region 10 with fail
      obtain ⟨B, hB⟩ : ∃ B, wr.heap.size = B := ⟨_, rfl⟩
      rw [hB] at BS
      try rw [hB]
      clear hB d0 d1' d2' d3
      generalize wr.alloc (.cells #[.slice sa s0.len sc, .int .i64 s1, .int .i64 s2, .slice sd s3.len se] 35) = w6 at *
      have h0 : w6.cell? ⟨P, 0, none⟩ = some (.int .i64 n) := blk_cell (HCA.out.blk (fun h => h) b1'.out) 0
      have h1 : w6.cell? ⟨P, 1, none⟩ = some (.slice ca cs.len cc) := blk_cell (HCA.out.blk (fun h => h) b1'.out) 1
      have h2 : w6.cell? ⟨P, 2, none⟩ = some (.slice ma ms.len mc) := blk_cell (HCA.out.blk (fun h => h) b1'.out) 2
      have z0 : w6.cell? ⟨B, 0, none⟩ = some (.slice sa s0.len sc) := blk_cell BS.out 0
      have z1 : w6.cell? ⟨B, 1, none⟩ = some (.int .i64 s1) := blk_cell BS.out 1
      have z2 : w6.cell? ⟨B, 2, none⟩ = some (.int .i64 s2) := blk_cell BS.out 2
      have z3 : w6.cell? ⟨B, 3, none⟩ = some (.slice sd s3.len se) := blk_cell BS.out 3
      have o0 : w6.cell? ⟨O, 0, none⟩ = some (.slice (some ⟨gb, boff, none⟩) d1.len vc) := blk_cell (HCA.out.blk (fun h => h) BO.out) 0
      go_cut [67] (fun s67 wx => s67 = .bool (!L) ∧ Hid (Chg (fun _ => False) w6 wx))
      case first =>
        refine wp_region_held_drew (S := (fun w' => w'.cell? ⟨P, 0, none⟩ = some (.int .i64 n) ∧ w'.cell? ⟨P, 1, none⟩ = some (.slice ca cs.len cc) ∧ w'.cell? ⟨P, 2, none⟩ = some (.slice ma ms.len mc) ∧ w'.cell? ⟨B, 0, none⟩ = some (.slice sa s0.len sc) ∧ w'.cell? ⟨B, 1, none⟩ = some (.int .i64 s1) ∧ w'.cell? ⟨B, 2, none⟩ = some (.int .i64 s2) ∧ w'.cell? ⟨B, 3, none⟩ = some (.slice sd s3.len se) ∧ w'.cell? ⟨O, 0, none⟩ = some (.slice (some ⟨gb, boff, none⟩) d1.len vc) ∧ w'.cell? ⟨gb, boff + j * 2, none⟩ = some (.slice qa q0.len qc) ∧ w'.cell? ⟨gb, boff + j * 2 + 1, none⟩ = some (.int .i64 q1))) (by kernel_rfl) (by go_keep) (fun hHeld => ?_)
        first
          | (refine wpAnyH_take (i := 0) (v := undef) rfl (by kernel_rfl) (by kernel_rfl) (by kernel_rfl) (fun _ _ _ h => h) (Or.inr ⟨by rfl, rfl⟩) (by assumption) ?_)
          | (refine wpAnyH_take (i := 0) (v := ?_) rfl (by kernel_rfl) (by kernel_rfl) (by kernel_rfl) (fun _ _ _ h => h) (Or.inl ⟨by rfl, ?_⟩) (by assumption) ?_
             rotate_left
             (intro w hSw
              (try dsimp only at hSw)
              (go_simp <;> with_reducible rfl)))
        try simp only [Act.put, List.getElem_toArray, List.getElem_cons_zero, List.getElem_cons_succ, List.setIfInBounds_toArray, List.set_cons_zero, List.set_cons_succ]
        first
          | (refine wpAnyH_take (i := 1) (v := undef) rfl (by kernel_rfl) (by kernel_rfl) (by kernel_rfl) (fun _ _ _ h => h) (Or.inr ⟨by rfl, rfl⟩) (by assumption) ?_)
          | (refine wpAnyH_take (i := 1) (v := ?_) rfl (by kernel_rfl) (by kernel_rfl) (by kernel_rfl) (fun _ _ _ h => h) (Or.inl ⟨by rfl, ?_⟩) (by assumption) ?_
             rotate_left
             (intro w hSw
              (try dsimp only at hSw)
              (go_simp <;> with_reducible rfl)))
        try simp only [Act.put, List.getElem_toArray, List.getElem_cons_zero, List.getElem_cons_succ, List.setIfInBounds_toArray, List.set_cons_zero, List.set_cons_succ]
        first
          | (refine wpAnyH_take (i := 2) (v := undef) rfl (by kernel_rfl) (by kernel_rfl) (by kernel_rfl) (fun _ _ _ h => h) (Or.inr ⟨by rfl, rfl⟩) (by assumption) ?_)
          | (refine wpAnyH_take (i := 2) (v := ?_) rfl (by kernel_rfl) (by kernel_rfl) (by kernel_rfl) (fun _ _ _ h => h) (Or.inl ⟨by rfl, ?_⟩) (by assumption) ?_
             rotate_left
             (intro w hSw
              (try dsimp only at hSw)
              (go_simp <;> with_reducible rfl)))
        try simp only [Act.put, List.getElem_toArray, List.getElem_cons_zero, List.getElem_cons_succ, List.setIfInBounds_toArray, List.set_cons_zero, List.set_cons_succ]
        first
          | (refine wpAnyH_take (i := 3) (v := undef) rfl (by kernel_rfl) (by kernel_rfl) (by kernel_rfl) (fun _ _ _ h => h) (Or.inr ⟨by rfl, rfl⟩) (by assumption) ?_)
          | (refine wpAnyH_take (i := 3) (v := ?_) rfl (by kernel_rfl) (by kernel_rfl) (by kernel_rfl) (fun _ _ _ h => h) (Or.inl ⟨by rfl, ?_⟩) (by assumption) ?_
             rotate_left
             (intro w hSw
              (try dsimp only at hSw)
              (go_simp <;> with_reducible rfl)))
        try simp only [Act.put, List.getElem_toArray, List.getElem_cons_zero, List.getElem_cons_succ, List.setIfInBounds_toArray, List.set_cons_zero, List.set_cons_succ]
        first
          | (refine wpAnyH_take (i := 4) (v := undef) rfl (by kernel_rfl) (by kernel_rfl) (by kernel_rfl) (fun _ _ _ h => h) (Or.inr ⟨by rfl, rfl⟩) (by assumption) ?_)
          | (refine wpAnyH_take (i := 4) (v := ?_) rfl (by kernel_rfl) (by kernel_rfl) (by kernel_rfl) (fun _ _ _ h => h) (Or.inl ⟨by rfl, ?_⟩) (by assumption) ?_
             rotate_left
             (intro w hSw
              (try dsimp only at hSw)
              (go_simp <;> with_reducible rfl)))
        try simp only [Act.put, List.getElem_toArray, List.getElem_cons_zero, List.getElem_cons_succ, List.setIfInBounds_toArray, List.set_cons_zero, List.set_cons_succ]
        first
          | (refine wpAnyH_take (i := 5) (v := undef) rfl (by kernel_rfl) (by kernel_rfl) (by kernel_rfl) (fun _ _ _ h => h) (Or.inr ⟨by rfl, rfl⟩) (by assumption) ?_)
          | (refine wpAnyH_take (i := 5) (v := ?_) rfl (by kernel_rfl) (by kernel_rfl) (by kernel_rfl) (fun _ _ _ h => h) (Or.inl ⟨by rfl, ?_⟩) (by assumption) ?_
             rotate_left
             (intro w hSw
              (try dsimp only at hSw)
              (go_simp <;> with_reducible rfl)))
        try simp only [Act.put, List.getElem_toArray, List.getElem_cons_zero, List.getElem_cons_succ, List.setIfInBounds_toArray, List.set_cons_zero, List.set_cons_succ]
        first
          | (refine wpAnyH_take (i := 6) (v := undef) rfl (by kernel_rfl) (by kernel_rfl) (by kernel_rfl) (fun _ _ _ h => h) (Or.inr ⟨by rfl, rfl⟩) (by assumption) ?_)
          | (refine wpAnyH_take (i := 6) (v := ?_) rfl (by kernel_rfl) (by kernel_rfl) (by kernel_rfl) (fun _ _ _ h => h) (Or.inl ⟨by rfl, ?_⟩) (by assumption) ?_
             rotate_left
             (intro w hSw
              (try dsimp only at hSw)
              (go_simp <;> with_reducible rfl)))
        try simp only [Act.put, List.getElem_toArray, List.getElem_cons_zero, List.getElem_cons_succ, List.setIfInBounds_toArray, List.set_cons_zero, List.set_cons_succ]
        first
          | (refine wpAnyH_take (i := 7) (v := undef) rfl (by kernel_rfl) (by kernel_rfl) (by kernel_rfl) (fun _ _ _ h => h) (Or.inr ⟨by rfl, rfl⟩) (by assumption) ?_)
          | (refine wpAnyH_take (i := 7) (v := ?_) rfl (by kernel_rfl) (by kernel_rfl) (by kernel_rfl) (fun _ _ _ h => h) (Or.inl ⟨by rfl, ?_⟩) (by assumption) ?_
             rotate_left
             (intro w hSw
              (try dsimp only at hSw)
              (go_simp <;> with_reducible rfl)))
        try simp only [Act.put, List.getElem_toArray, List.getElem_cons_zero, List.getElem_cons_succ, List.setIfInBounds_toArray, List.set_cons_zero, List.set_cons_succ]
        refine wpAnyH_ready (rs := [8]) (by kernel_rfl) (by simp) ?_
        refine AllReadyH.cons (i := 8) (o := _) rfl (fun K hK => ?_) ?_
        rotate_left
        · exact AllReadyH.nil
        go_simp
        have GC : Hid (Chg (fun _ => False) w6 w6.drew) := hide (Chg.refl (fun _ => False) w6).drew
        refine (KI.out w6.drew (HCA.out.trans GC.out)).mono ?_
        rintro e w7 ⟨rfl, g'⟩
        rw [HL.out]
        have h0 := g'.cell (fun h => h) h0
        have h1 := g'.cell (fun h => h) h1
        have h2 := g'.cell (fun h => h) h2
        have z0 := g'.cell (fun h => h) z0
        have z1 := g'.cell (fun h => h) z1
        have z2 := g'.cell (fun h => h) z2
        have z3 := g'.cell (fun h => h) z3
        have o0 := g'.cell (fun h => h) o0
        have k0 := g'.cell (fun h => h) k0
        have k1 := g'.cell (fun h => h) k1
        have GW : Hid (Chg (fun _ => False) w6 w7) := hide (GC.out.trans g')
        clear g' GC
        go_simp
        refine hK.out _ _ ⟨h0, h1, h2, z0, z1, z2, z3, o0, k0, k1⟩ (fun hHeld => ?_)
        clear hK K
        try simp only [Act.put, List.getElem_toArray, List.getElem_cons_zero, List.getElem_cons_succ, List.setIfInBounds_toArray, List.set_cons_zero, List.set_cons_succ]
        first
          | (refine wpAnyH_take (i := 9) (v := undef) rfl (by kernel_rfl) (by kernel_rfl) (by kernel_rfl) (fun _ _ _ h => h) (Or.inr ⟨by rfl, rfl⟩) (by assumption) ?_)
          | (refine wpAnyH_take (i := 9) (v := ?_) rfl (by kernel_rfl) (by kernel_rfl) (by kernel_rfl) (fun _ _ _ h => h) (Or.inl ⟨by rfl, ?_⟩) (by assumption) ?_
             rotate_left
             (intro w hSw
              (try dsimp only at hSw)
              (go_simp <;> with_reducible rfl)))
        try simp only [Act.put, List.getElem_toArray, List.getElem_cons_zero, List.getElem_cons_succ, List.setIfInBounds_toArray, List.set_cons_zero, List.set_cons_succ]
        refine wpAnyH_done (by kernel_rfl) ?_ _
        go_wp2_with fail
        go_meet
        exact ⟨rfl, GW⟩
      case rest =>
      obtain ⟨rfl, GO⟩ := hcut
      generalize wc = w7 at *
      have HC7 := hide (HCA.out.trans GO.out)
      clear h0 h1 h2 z0 z1 z2 z3 o0 k0 k1 KI HCA GO
      cases L
      · obtain rfl : false = OUT := HG.out rfl
        have GF := hide (G5.out.trans HC7.out)
        clear HG HT
        go_wp2_with fail
        go_ret
        exact ⟨rfl, GF.out⟩
      · have F9 : Hid (IsInv cs ms (ctx.app b) w5 w7 f d1 (j + 1)) := hide ⟨HC7, hide (HT.out rfl)⟩
        clear HG HT
        go_wp2_with fail
        go_roundw
        case rel => exact ⟨j + 1, by omega, by go_num, F9⟩
        case measure => simp [intOf]; omega
    · have hif : j = f.len := by omega
      obtain rfl : true = OUT := by
        rw [← HO6.out]
        exact ((isRow_iff cs ms (ctx.app b) f d1).2 ⟨E4.out.symm, fun m h1 h2 => hM.out m h1 h2 (by omega)⟩).symm
      have GF := hide (G5.out.trans hC.out)
      have i2 : ¬ (j : Int) < (f.len : Int) := by omega
      clear hM hC hlt
      go_wp2_with fail
      go_ret
      exact ⟨rfl, GF.out⟩
theorem is_all (cs ms : Fs) (hcs : cs.size ≤ 40000) (hms : ms.size ≤ 40000) (N : Nat) : ∀ (f : Tms), f.size ≤ N → IsC cs ms f := by
  induction N with
  | zero => exact fun f hf => is_step cs ms hcs hms 0 (fun g h => absurd h (Nat.not_lt_zero _)) f hf
  | succ N ih => exact fun f hf => is_step cs ms hcs hms (N + 1) (fun g h => ih g (by omega)) f hf
/-- term.is -/
theorem is_any (cs ms : Fs) (hcs : cs.size ≤ 40000) (hms : ms.size ≤ 40000) (f : Tms) : IsC cs ms f := is_all cs ms hcs hms f.size f (Nat.le_refl _)
end Go.Proofs.YtnpcapdlgcaniaaDoor
