/- spot.Open. -/
import Derived.Test.YtnpcapdlgcaniaaDoorCapT
import Derived.Test.YtnpcapdlgcaniaaDoorCutF
namespace Go.Proofs.YtnpcapdlgcaniaaDoor
open Go.RowKit
set_option linter.unusedVariables false
set_option linter.unusedSimpArgs false

/-- what Open gives: the term, the binders, the error -/
def openG (t : Tm) (n : Int) : Tm × Fs × Int := if 0 ≤ n ∧ n ≤ t.bs.len then ((t.bs.from n.toNat, t.kd, t.ix, t.ag), t.bs.to n.toNat, 0) else ((.nil, 0, 0, .nil), .nil, 1)

set_option maxRecDepth 100000 in
set_option maxHeartbeats 16000000 in
theorem open_any (t : Tm) (ok : TmOk t) (n : Int) (v : Value) (w : World) (hv : TV w (fun x => x < w.heap.size) v t) :
    Calls Tryd.prog 32 #[v, .int .i64 n] w fun e w' =>
      (∃ v' l, e = .returned (.tuple #[v', l, .int .i64 (openG t n).2.2]) ∧ TV w' (fun x => x < w'.heap.size) v' (openG t n).1 ∧ Ts w' (fun x => x < w'.heap.size) l (openG t n).2.1) ∧ Chg (fun _ => False) w w' := by
  obtain ⟨b, k, i, f⟩ := t
  obtain ⟨ba, bc, a, cap, rfl, h1, h2⟩ := id hv
  dsimp only [Tm.bs, Tm.kd, Tm.ix, Tm.ag] at *
  obtain ⟨RES, hRES⟩ : ∃ RES, openG (b, k, i, f) n = RES := ⟨_, rfl⟩
  rw [hRES]
  have HRES := hide hRES
  clear hRES
  have W1 := al w (.cells #[.slice ba b.len bc, .int .i64 k, .int .i64 i, .slice a f.len cap] 35)
  have B1 := blk_new w (.cells #[.slice ba b.len bc, .int .i64 k, .int .i64 i, .slice a f.len cap] 35)
  have W2 := al (w.alloc (.cells #[.slice ba b.len bc, .int .i64 k, .int .i64 i, .slice a f.len cap] 35)) (.cells #[.slice none 0 0, .int .i64 0, .int .i64 0, .slice none 0 0] 35)
  have B2 := blk_new (w.alloc (.cells #[.slice ba b.len bc, .int .i64 k, .int .i64 i, .slice a f.len cap] 35)) (.cells #[.slice none 0 0, .int .i64 0, .int .i64 0, .slice none 0 0] 35)
  rw [al_sz] at B2
  have GG := hide (W1.trans W2)
  have b1 := hide (W2.blk (fun h => h) B1)
  have b2 := hide B2
  have HV := hide (hv.all GG.out)
  have OK := hide ok
  have hbl := Fs.len_size b
  have hb4 : b.len ≤ 40000 := by have := ok.1; dsimp only [Tm.bs] at this; omega
  clear W1 W2 B1 B2 h1 h2 hv ok hbl
  obtain ⟨P, hP⟩ : ∃ P, w.heap.size = P := ⟨_, rfl⟩
  have HP := hide hP
  rw [hP] at b1 b2
  go_enter Tryd.func32, Tryd.ntmps32
  go_upto_region 1 with fail
  try rw [hP]
  clear hP
  generalize (w.alloc (.cells #[.slice ba b.len bc, .int .i64 k, .int .i64 i, .slice a f.len cap] 35)).alloc (.cells #[.slice none 0 0, .int .i64 0, .int .i64 0, .slice none 0 0] 35) = w1 at *
  have z0 : w1.cell? ⟨P, 0, none⟩ = some (.slice ba b.len bc) := blk_cell b1.out 0
  have z1 : w1.cell? ⟨P, 1, none⟩ = some (.int .i64 k) := blk_cell b1.out 1
  have z2 : w1.cell? ⟨P, 2, none⟩ = some (.int .i64 i) := blk_cell b1.out 2
  have z3 : w1.cell? ⟨P, 3, none⟩ = some (.slice a f.len cap) := blk_cell b1.out 3
  by_cases hn : 0 ≤ n ∧ n ≤ b.len
  · have EG : Hid (openG (b, k, i, f) n = ((b.from n.toNat, k, i, f), b.to n.toNat, 0)) := hide (by unfold openG; dsimp only [Tm.bs, Tm.kd, Tm.ix, Tm.ag]; rw [if_pos hn])
    obtain ⟨m, rfl⟩ : ∃ m : Nat, n = (m : Int) := ⟨n.toNat, by omega⟩
    obtain rfl : RES = ((b.from m, k, i, f), b.to m, 0) := by rw [← HRES.out, EG.out, Int.toNat_natCast]
    have hm : m ≤ b.len := by omega
    have n1 : ¬ (m : Int) < 0 := by omega
    have n2 : ¬ (b.len : Int) < (m : Int) := by omega
    clear EG hn
    have CP := hide (copy_cap (b, k, i, f) OK.out _ _ w1 (fun x h => h) HV.out)
    go_upto_region 3 with fail
    clear n1 n2
    go_wp2_with fail
    refine CP.out.mono ?_
    rintro e w2 ⟨⟨v', rfl, tv, cp⟩, g2⟩
    obtain ⟨r1, r2, r3, r4, rfl, t1, t2⟩ := tv
    dsimp only [Tm.bs, Tm.kd, Tm.ix, Tm.ag] at cp t1 t2 ⊢
    obtain ⟨ca, cl, cc, ecp, hcp, _⟩ := cp.fst
    injection ecp with e1 e2 e3
    subst e1 e2 e3
    have GA := al w2 (.cells #[.slice r1 b.len r2, .int .i64 k, .int .i64 i, .slice r3 f.len r4] 35)
    have bo := blk_new w2 (.cells #[.slice r1 b.len r2, .int .i64 k, .int .i64 i, .slice r3 f.len r4] 35)
    have G3 := hide (GG.out.trans (g2.trans GA))
    have b2' := hide ((g2.trans GA).blk (fun h => h) b2.out)
    have T1 := hide (t1.of_new.all GA)
    have T2 := hide (t2.up (Y := fun x => w1.heap.size ≤ x ∧ x < w2.heap.size) (fun x hx => hx))
    have T1b := hide ((ts_from t1 hcp m hm).chg GA (fun _ _ h => h))
    have T1c := hide ((ts_to t1 m m hm).chg GA (fun _ _ h => h))
    have T2b := hide (t2.chg GA (fun _ _ h => h))
    have SZ := hide (show w1.heap.size ≤ w2.heap.size from g2.size)
    have SG := hide (show w2.heap.size < (w2.alloc (.cells #[.slice r1 b.len r2, .int .i64 k, .int .i64 i, .slice r3 f.len r4] 35)).heap.size from blk_lt bo)
    have BO := hide bo
    have rf := run_from31 r1 b.len r2 m hcp hm
    have rt := run_to31 r1 b.len r2 m (by omega)
    have SB : Hid (P + 1 < w1.heap.size) := hide (blk_lt b2.out)
    clear t1 t2 cp g2 GA bo CP b1 b2 z0 z1 z2 z3 T1 T2
    go_upto_region 4 with fail
    obtain ⟨O, hO⟩ : ∃ O, w2.heap.size = O := ⟨_, rfl⟩
    rw [hO] at BO
    try rw [hO]
    have HO := hide hO
    clear hO
    generalize w2.alloc (.cells #[.slice r1 b.len r2, .int .i64 k, .int .i64 i, .slice r3 f.len r4] 35) = w3 at *
    have q0 := blk_cell BO.out 0
    have q1 := blk_cell BO.out 1
    have q2 := blk_cell BO.out 2
    have q3 := blk_cell BO.out 3
    have fq := blk_free BO.out 0
    simp only [List.getElem?_toArray, List.getElem?_cons_zero, List.getElem?_cons_succ] at q0 q1 q2 q3
    have S0 := blk_set BO.out 0 (.slice (dropA r1 r2 m) (b.len - m) (r2 - m))
    simp only [List.setIfInBounds_toArray, List.set_cons_zero, List.set_cons_succ] at S0
    have C0 := Chg.set w3 O 0 (.slice (dropA r1 r2 m) (b.len - m) (r2 - m))
    have BO2 := hide S0
    have CS := hide C0
    have nO : ¬ P + 1 = O := by have := SB.out; have := SZ.out; have := HO.out; omega
    have b3 := hide (C0.blk nO b2'.out)
    clear S0 C0
    go_upto_region 6 with fail
    clear rf rt
    generalize w3.setCell ⟨O, 0, none⟩ (.slice (dropA r1 r2 m) (b.len - m) (r2 - m)) = w4 at *
    clear q0 q1 q2 q3 fq
    have q0 := blk_cell BO2.out 0
    have q1 := blk_cell BO2.out 1
    have q2 := blk_cell BO2.out 2
    have q3 := blk_cell BO2.out 3
    simp only [List.getElem?_toArray, List.getElem?_cons_zero, List.getElem?_cons_succ] at q0 q1 q2 q3
    have sb0 := blk_cell b3.out 0
    have sf0 := blk_free b3.out 0
    have sb1 := blk_cell b3.out 1
    have sf1 := blk_free b3.out 1
    have sb2 := blk_cell b3.out 2
    have sf2 := blk_free b3.out 2
    have sb3 := blk_cell b3.out 3
    have sf3 := blk_free b3.out 3
    simp only [List.getElem?_toArray, List.getElem?_cons_zero, List.getElem?_cons_succ] at sb0 sb1 sb2 sb3
    have ST : Hid (((((w4.setCell ⟨(P + 1), 0, none⟩ (.slice (dropA r1 r2 m) (b.len - m) (r2 - m))).setCell ⟨(P + 1), 1, none⟩ (.int .i64 k)).setCell ⟨(P + 1), 2, none⟩ (.int .i64 i)).setCell ⟨(P + 1), 3, none⟩ (.slice r3 f.len r4)).heap[(P + 1)]? = some (.cells #[.slice (dropA r1 r2 m) (b.len - m) (r2 - m), .int .i64 k, .int .i64 i, .slice r3 f.len r4] 35) ∧ Chg (fun x => x = (P + 1)) w4 ((((w4.setCell ⟨(P + 1), 0, none⟩ (.slice (dropA r1 r2 m) (b.len - m) (r2 - m))).setCell ⟨(P + 1), 1, none⟩ (.int .i64 k)).setCell ⟨(P + 1), 2, none⟩ (.int .i64 i)).setCell ⟨(P + 1), 3, none⟩ (.slice r3 f.len r4))) := hide ⟨(blk_set (blk_set (blk_set (blk_set b3.out 0 (.slice (dropA r1 r2 m) (b.len - m) (r2 - m))) 1 (.int .i64 k)) 2 (.int .i64 i)) 3 (.slice r3 f.len r4)), ((((Chg.set w4 (P + 1) 0 (.slice (dropA r1 r2 m) (b.len - m) (r2 - m))).trans (Chg.set (w4.setCell ⟨(P + 1), 0, none⟩ (.slice (dropA r1 r2 m) (b.len - m) (r2 - m))) (P + 1) 1 (.int .i64 k))).trans (Chg.set ((w4.setCell ⟨(P + 1), 0, none⟩ (.slice (dropA r1 r2 m) (b.len - m) (r2 - m))).setCell ⟨(P + 1), 1, none⟩ (.int .i64 k)) (P + 1) 2 (.int .i64 i))).trans (Chg.set (((w4.setCell ⟨(P + 1), 0, none⟩ (.slice (dropA r1 r2 m) (b.len - m) (r2 - m))).setCell ⟨(P + 1), 1, none⟩ (.int .i64 k)).setCell ⟨(P + 1), 2, none⟩ (.int .i64 i)) (P + 1) 3 (.slice r3 f.len r4)))⟩
    have G4 := hide (G3.out.none.trans (CS.out.mono (T := fun x => P ≤ x) (fun x _ e => by have := SB.out; have := SZ.out; have := HO.out; omega)))
    have hl : Hid (∀ x, w1.heap.size ≤ x ∧ x < w2.heap.size → ¬ x = P + 1 ∧ ¬ x = O ∧ x < w3.heap.size) := hide (fun x hx => by have := SB.out; have := SZ.out; have := HO.out; have := SG.out; omega)
    have U1 := hide (((T1b.out.chg CS.out (fun x hx e => (hl.out x hx).2.1 e)).chg ST.out.2 (fun x hx e => (hl.out x hx).1 e)).up (Y := fun x => x < w3.heap.size) (fun x hx => (hl.out x hx).2.2))
    have U2 := hide (((T1c.out.chg CS.out (fun x hx e => (hl.out x hx).2.1 e)).chg ST.out.2 (fun x hx e => (hl.out x hx).1 e)).up (Y := fun x => x < w3.heap.size) (fun x hx => (hl.out x hx).2.2))
    have U3 := hide (((T2b.out.chg CS.out (fun x hx e => (hl.out x hx).2.1 e)).chg ST.out.2 (fun x hx e => (hl.out x hx).1 e)).up (Y := fun x => x < w3.heap.size) (fun x hx => (hl.out x hx).2.2))
    have SF := hide (Nat.le_trans CS.out.size ST.out.2.size)
    clear T1b T1c T2b hl G3
    go_wp2_with fail
    have u0 := blk_cell ST.out.1 0
    have u1 := blk_cell ST.out.1 1
    have u2 := blk_cell ST.out.1 2
    have u3 := blk_cell ST.out.1 3
    simp only [List.getElem?_toArray, List.getElem?_cons_zero, List.getElem?_cons_succ] at u0 u1 u2 u3
    refine bodyPost_ret (v := .tuple #[.agg #[.slice (dropA r1 r2 m) (b.len - m) (r2 - m), .int .i64 k, .int .i64 i, .slice r3 f.len r4], .slice r1 m m, .int .i64 0]) (by simp [results, Tryd.results32, go_sem, u0, u1, u2, u3]) rfl ?_
    have e1 := Fs.from_len b m
    exact ⟨⟨_, _, rfl, ⟨_, _, _, _, by dsimp only [Tm.bs, Tm.kd, Tm.ix, Tm.ag]; rw [e1], by dsimp only [Tm.bs]; rw [e1]; exact U1.out.up (fun x hx => Nat.lt_of_lt_of_le hx SF.out), U3.out.up (fun x hx => Nat.lt_of_lt_of_le hx SF.out)⟩, U2.out.up (fun x hx => Nat.lt_of_lt_of_le hx SF.out)⟩,
      (G4.out.trans (ST.out.2.mono (T := fun x => P ≤ x) (fun x _ e => by omega))).mono (fun x hx e => by have := HP.out; omega)⟩
  · have EG : Hid (openG (b, k, i, f) n = ((.nil, 0, 0, .nil), .nil, 1)) := hide (by unfold openG; dsimp only [Tm.bs, Tm.kd, Tm.ix, Tm.ag]; rw [if_neg hn])
    obtain rfl : RES = ((.nil, 0, 0, .nil), .nil, 1) := by rw [← HRES.out, EG.out]
    rcases (show n < 0 ∨ (b.len : Int) < n by omega) with n1 | n1
    · clear EG hn
      have sb0 := blk_cell b2.out 0
      have sf0 := blk_free b2.out 0
      have sb1 := blk_cell b2.out 1
      have sf1 := blk_free b2.out 1
      have sb2 := blk_cell b2.out 2
      have sf2 := blk_free b2.out 2
      have sb3 := blk_cell b2.out 3
      have sf3 := blk_free b2.out 3
      simp only [List.getElem?_toArray, List.getElem?_cons_zero, List.getElem?_cons_succ] at sb0 sb1 sb2 sb3
      have ST : Hid (((((w1.setCell ⟨(P + 1), 0, none⟩ (.slice none 0 0)).setCell ⟨(P + 1), 1, none⟩ (.int .i64 0)).setCell ⟨(P + 1), 2, none⟩ (.int .i64 0)).setCell ⟨(P + 1), 3, none⟩ (.slice none 0 0)).heap[(P + 1)]? = some (.cells #[.slice none 0 0, .int .i64 0, .int .i64 0, .slice none 0 0] 35) ∧ Chg (fun x => x = (P + 1)) w1 ((((w1.setCell ⟨(P + 1), 0, none⟩ (.slice none 0 0)).setCell ⟨(P + 1), 1, none⟩ (.int .i64 0)).setCell ⟨(P + 1), 2, none⟩ (.int .i64 0)).setCell ⟨(P + 1), 3, none⟩ (.slice none 0 0))) := hide ⟨(blk_set (blk_set (blk_set (blk_set b2.out 0 (.slice none 0 0)) 1 (.int .i64 0)) 2 (.int .i64 0)) 3 (.slice none 0 0)), ((((Chg.set w1 (P + 1) 0 (.slice none 0 0)).trans (Chg.set (w1.setCell ⟨(P + 1), 0, none⟩ (.slice none 0 0)) (P + 1) 1 (.int .i64 0))).trans (Chg.set ((w1.setCell ⟨(P + 1), 0, none⟩ (.slice none 0 0)).setCell ⟨(P + 1), 1, none⟩ (.int .i64 0)) (P + 1) 2 (.int .i64 0))).trans (Chg.set (((w1.setCell ⟨(P + 1), 0, none⟩ (.slice none 0 0)).setCell ⟨(P + 1), 1, none⟩ (.int .i64 0)).setCell ⟨(P + 1), 2, none⟩ (.int .i64 0)) (P + 1) 3 (.slice none 0 0)))⟩
      go_wp2_with fail
      have u0 := blk_cell ST.out.1 0
      have u1 := blk_cell ST.out.1 1
      have u2 := blk_cell ST.out.1 2
      have u3 := blk_cell ST.out.1 3
      simp only [List.getElem?_toArray, List.getElem?_cons_zero, List.getElem?_cons_succ] at u0 u1 u2 u3
      refine bodyPost_ret (v := .tuple #[.agg #[.slice none 0 0, .int .i64 0, .int .i64 0, .slice none 0 0], .slice none 0 0, .int .i64 1]) (by simp [results, Tryd.results32, go_sem, u0, u1, u2, u3]) rfl ?_
      exact ⟨⟨_, _, rfl, TV.zero _ _, Ts.nil _ _⟩, (GG.out.none.trans (ST.out.2.mono (T := fun x => P ≤ x) (fun x _ e => by omega))).mono (fun x hx e => by have := HP.out; omega)⟩
    · have n2 : ¬ n < 0 := by omega
      clear EG hn
      have sb0 := blk_cell b2.out 0
      have sf0 := blk_free b2.out 0
      have sb1 := blk_cell b2.out 1
      have sf1 := blk_free b2.out 1
      have sb2 := blk_cell b2.out 2
      have sf2 := blk_free b2.out 2
      have sb3 := blk_cell b2.out 3
      have sf3 := blk_free b2.out 3
      simp only [List.getElem?_toArray, List.getElem?_cons_zero, List.getElem?_cons_succ] at sb0 sb1 sb2 sb3
      have ST : Hid (((((w1.setCell ⟨(P + 1), 0, none⟩ (.slice none 0 0)).setCell ⟨(P + 1), 1, none⟩ (.int .i64 0)).setCell ⟨(P + 1), 2, none⟩ (.int .i64 0)).setCell ⟨(P + 1), 3, none⟩ (.slice none 0 0)).heap[(P + 1)]? = some (.cells #[.slice none 0 0, .int .i64 0, .int .i64 0, .slice none 0 0] 35) ∧ Chg (fun x => x = (P + 1)) w1 ((((w1.setCell ⟨(P + 1), 0, none⟩ (.slice none 0 0)).setCell ⟨(P + 1), 1, none⟩ (.int .i64 0)).setCell ⟨(P + 1), 2, none⟩ (.int .i64 0)).setCell ⟨(P + 1), 3, none⟩ (.slice none 0 0))) := hide ⟨(blk_set (blk_set (blk_set (blk_set b2.out 0 (.slice none 0 0)) 1 (.int .i64 0)) 2 (.int .i64 0)) 3 (.slice none 0 0)), ((((Chg.set w1 (P + 1) 0 (.slice none 0 0)).trans (Chg.set (w1.setCell ⟨(P + 1), 0, none⟩ (.slice none 0 0)) (P + 1) 1 (.int .i64 0))).trans (Chg.set ((w1.setCell ⟨(P + 1), 0, none⟩ (.slice none 0 0)).setCell ⟨(P + 1), 1, none⟩ (.int .i64 0)) (P + 1) 2 (.int .i64 0))).trans (Chg.set (((w1.setCell ⟨(P + 1), 0, none⟩ (.slice none 0 0)).setCell ⟨(P + 1), 1, none⟩ (.int .i64 0)).setCell ⟨(P + 1), 2, none⟩ (.int .i64 0)) (P + 1) 3 (.slice none 0 0)))⟩
      go_wp2_with fail
      have u0 := blk_cell ST.out.1 0
      have u1 := blk_cell ST.out.1 1
      have u2 := blk_cell ST.out.1 2
      have u3 := blk_cell ST.out.1 3
      simp only [List.getElem?_toArray, List.getElem?_cons_zero, List.getElem?_cons_succ] at u0 u1 u2 u3
      refine bodyPost_ret (v := .tuple #[.agg #[.slice none 0 0, .int .i64 0, .int .i64 0, .slice none 0 0], .slice none 0 0, .int .i64 1]) (by simp [results, Tryd.results32, go_sem, u0, u1, u2, u3]) rfl ?_
      exact ⟨⟨_, _, rfl, TV.zero _ _, Ts.nil _ _⟩, (GG.out.none.trans (ST.out.2.mono (T := fun x => P ≤ x) (fun x _ e => by omega))).mono (fun x hx e => by have := HP.out; omega)⟩
end Go.Proofs.YtnpcapdlgcaniaaDoor
