/- What is at a path: spot.At. -/
import Derived.Test.YtnpcapdlgcaniaaDoorClones
import Derived.Lib.SliceRun
namespace Go.Proofs.YtnpcapdlgcaniaaDoor
open Go.RowKit
set_option linter.unusedVariables false
set_option linter.unusedSimpArgs false

/-- the i-th argument -/
def Tm.sub (t : Tm) (i : Int) : Option Tm := if 0 ≤ i then t.ag.toL[i.toNat]? else none
/-- what is at a path, and the binders that were met, those ahead of them -/
def atG : Fs → Tm → List Int → Option (Tm × Fs)
  | acc, t, [] => some (t, acc)
  | acc, t, i :: p => match t.sub i with
    | none => none
    | some x => atG (acc.app x.bs) x p
/-- the error's number -/
def atE (r : Option (Tm × Fs)) : Int := if r.isSome then 0 else 10
theorem Tm.sub_none {t : Tm} {i : Int} (h : i < 0 ∨ (t.ag.len : Int) ≤ i) : t.sub i = none := by
  unfold Tm.sub
  rcases h with h | h
  · rw [if_neg (by omega)]
  · split
    · have := Tms.toL_len t.ag
      exact List.getElem?_eq_none (by omega)
    · rfl
theorem Tm.sub_some {t : Tm} {i : Nat} (h : i < t.ag.toL.length) : t.sub (i : Int) = some t.ag.toL[i] := by
  unfold Tm.sub
  rw [if_pos (by omega)]
  simp [h]
theorem sub_ok {t : Tm} (h : TmOk t) {i : Nat} (hi : i < t.ag.toL.length) : TmOk t.ag.toL[i] := by
  have h1 := tok_get h.2.2.2.1 i hi
  have h2 := Tms.kid_sum t.ag i hi
  exact ⟨h1.1, h1.2.1, h1.2.2.1, h1.2.2.2, by have := h.2.2.2.2; omega⟩
/-- what the loop keeps -/
def AtInv (w w1 wr : World) (P B : Nat) (X : Nat → Prop) (av : Value) (p : List Int) (j : Nat) (RES : Option (Tm × Fs)) : Prop :=
  ∃ (t : Tm) (acc : Fs) (ba : Option Addr) (bc : Nat) (a : Option Addr) (c : Nat), Hid (wr.heap[P]? = some (.cells #[.slice ba t.bs.len bc, .int .i64 t.kd, .int .i64 t.ix, .slice a t.ag.len c] 35)) ∧ Hid (Ts wr X (.slice ba t.bs.len bc) t.bs ∧ Tr wr X (.slice a t.ag.len c) t.ag) ∧
    Hid (OwnF wr B X av acc) ∧ Hid (atG acc t (p.drop j) = RES) ∧ Hid (TmOk t ∧ acc.size + t.ag.size ≤ 40000) ∧ Hid (Chg (fun x => x = P ∨ B ≤ x) w1 wr)

set_option maxRecDepth 100000 in
set_option maxHeartbeats 32000000 in
theorem at_any (t : Tm) (ok : TmOk t) (p : List Int) (hp : p.length ≤ 1000000) (v u : Value) (X : Nat → Prop) (w : World) (hX : ∀ x, X x → x < w.heap.size) (hv : TV w X v t) (hu : Il w X u p) :
    Calls Tryd.prog 12 #[v, u] w fun e w' => (∃ v' vl, e = .returned (.tuple #[v', vl, .int .i64 (atE (atG t.bs t p))]) ∧ TV w' (fun x => w.heap.size ≤ x ∧ x < w'.heap.size) v' (((atG t.bs t p).getD ((.nil, 0, 0, .nil), .nil)).1) ∧ Ts w' (fun x => w.heap.size ≤ x ∧ x < w'.heap.size) vl (((atG t.bs t p).getD ((.nil, 0, 0, .nil), .nil)).2)) ∧ Chg (fun _ => False) w w' := by
  obtain ⟨RES, hRES⟩ : ∃ RES, atG t.bs t p = RES := ⟨_, rfl⟩
  rw [hRES]
  have HRES := hide hRES
  clear hRES
  have OK := hide ok
  have HX := hide hX
  have HU := hide hu
  have HP := hide hp
  obtain ⟨b, k, i, f⟩ := t
  obtain ⟨ba, bc, a, cap, rfl, h1, h2⟩ := hv
  obtain ⟨ua, uc, rfl, _⟩ := id hu
  dsimp only [Tm.bs, Tm.kd, Tm.ix, Tm.ag] at h1 h2 ⊢
  have G1 := al w (.cells #[.slice ba b.len bc, .int .i64 k, .int .i64 i, .slice a f.len cap] 35)
  have b0 := blk_new w (.cells #[.slice ba b.len bc, .int .i64 k, .int .i64 i, .slice a f.len cap] 35)
  have G2 := al (w.alloc (.cells #[.slice ba b.len bc, .int .i64 k, .int .i64 i, .slice a f.len cap] 35)) (.cells #[.slice none 0 0, .int .i64 0, .int .i64 0, .slice none 0 0] 35)
  have b1 := blk_new (w.alloc (.cells #[.slice ba b.len bc, .int .i64 k, .int .i64 i, .slice a f.len cap] 35)) (.cells #[.slice none 0 0, .int .i64 0, .int .i64 0, .slice none 0 0] 35)
  have b0' := G2.blk (fun h => h) b0
  rw [al_sz] at b1
  have GG := hide (G1.trans G2)
  have BP := hide b0'
  have BR := hide b1
  have sz2 : ((w.alloc (.cells #[.slice ba b.len bc, .int .i64 k, .int .i64 i, .slice a f.len cap] 35)).alloc (.cells #[.slice none 0 0, .int .i64 0, .int .i64 0, .slice none 0 0] 35)).heap.size = w.heap.size + 2 := by rw [al_sz, al_sz]
  have SZ := hide sz2
  have T1 := hide (h1.chg GG.out (fun _ _ h => h))
  have T2 := hide (h2.chg GG.out (fun _ _ h => h))
  clear G1 G2 b0 b1 b0' sz2 h1 h2 hX hu hp ok
  go_enter Tryd.func12, Tryd.ntmps12
  go_upto_region 1 with fail
  generalize ((w.alloc (.cells #[.slice ba b.len bc, .int .i64 k, .int .i64 i, .slice a f.len cap] 35)).alloc (.cells #[.slice none 0 0, .int .i64 0, .int .i64 0, .slice none 0 0] 35)) = w1 at *
  obtain ⟨P, hP⟩ : ∃ P, w.heap.size = P := ⟨_, rfl⟩
  obtain ⟨R, hR⟩ : ∃ R, P + 1 = R := ⟨_, rfl⟩
  have hZ := SZ.out
  rw [hP] at BP BR hZ ⊢
  rw [hR] at BR ⊢
  have HO : Hid (w1.heap.size = R + 1 ∧ P < R ∧ w.heap.size = P) := hide (by refine ⟨by omega, by omega, hP⟩)
  have HXP := hide (fun x (h : X x) => (by have := HX.out x h; omega : x < P))
  clear hP hR SZ hZ
  have p0 : w1.cell? ⟨P, 0, none⟩ = some (.slice ba b.len bc) := blk_cell BP.out 0
  have CL := hide (tclone_any b (by have := OK.out.1; have := Fs.len_size b; dsimp only [Tm.bs] at *; omega) _ X w1 T1.out)
  go_wp2_with fail
  refine CL.out.mono ?_
  rintro e w2 ⟨⟨av, rfl, ho⟩, g2⟩
  have B2 := hide (g2.blk (fun h => h) BP.out)
  have T12 := hide (T1.out.chg g2 (fun _ _ h => h))
  have T22 := hide (T2.out.chg g2 (fun _ _ h => h))
  have G2 := hide g2
  have O2 : Hid (OwnF w2 w1.heap.size X av b) := hide ho
  have I0 : Hid (AtInv w w1 w2 P w1.heap.size X av p 0 RES) := hide ⟨(b, k, i, f), b, ba, bc, a, cap, B2, hide ⟨T12.out, T22.out⟩, O2, hide HRES.out, hide ⟨OK.out, OK.out.2.2.2.2⟩, hide g2.none⟩
  clear g2 ho CL p0 T1 T2 T12 T22 O2 B2 BP HRES OK
  go_wp2_with fail
  go_loopw [7, 15] (fun avv jv wr => ∃ (j : Nat), j ≤ p.length ∧ jv = .int .i64 j ∧ Hid (AtInv w w1 wr P w1.heap.size X avv p j RES)) (fun _ jv _ => p.length - (intOf jv).toNat)
  case atStart => exact ⟨0, Nat.zero_le _, rfl, I0⟩
  case round =>
    clear I0
    obtain ⟨j, hj, rfl, hIN⟩ := hrel
    obtain ⟨t, acc, ba, bc, a, c, BT, TT, OT, RT, OK, GR⟩ := hIN.out
    clear hIN
    have BRr := hide (GR.out.blk (by have := HO.out; omega) BR.out)
    by_cases hlt : j < p.length
    · have j1 : (0 : Int) ≤ (j : Int) := by omega
      have j2 : (j : Int) < (p.length : Int) := by omega
      have j3 : p.length ≤ 1000000 := HP.out
      obtain ⟨la, lc, hlv, hl⟩ := HU.out
      rcases hl with h0 | ⟨g, off, rfl, hg, hl⟩
      · subst h0; exact absurd hlt (Nat.not_lt_zero _)
      injection hlv with e1 e2 e3
      subst e1 e3
      have XS : ∀ x, X x → ¬ (x = P ∨ w1.heap.size ≤ x) := fun x hx e => by have := HXP.out x hx; have := HO.out; omega
      have XW : ∀ x, X x → ¬ (x = P ∨ R + 1 ≤ x) := fun x hx e => by have := HXP.out x hx; have := HO.out; omega
      have dp := GR.out.cell (XS g hg) (GG.out.cell (fun h => h) (hl j hlt))
      have RD : p.drop j = p[j] :: p.drop (j + 1) := List.drop_eq_getElem_cons hlt
      have RT2 : Hid (atG acc t (p[j] :: p.drop (j + 1)) = RES) := hide (by rw [← RD]; exact RT.out)
      clear hl RT RD
      generalize p[j] = n at *
      have q3 : wr.cell? ⟨P, 3, none⟩ = some (.slice a t.ag.len c) := blk_cell BT.out 3
      by_cases hb : n < 0 ∨ (t.ag.len : Int) ≤ n
      · have EN : Hid (RES = none) := hide (by rw [← RT2.out]; simp only [atG]; rw [Tm.sub_none hb])
        have BRb := BRr.out
        have x0 := blk_cell BRb 0
        have x1 := blk_cell BRb 1
        have x2 := blk_cell BRb 2
        have x3 := blk_cell BRb 3
        have xf0 := blk_free BRb 0
        have xf1 := blk_free BRb 1
        have xf2 := blk_free BRb 2
        have xf3 := blk_free BRb 3
        simp only [List.getElem?_toArray, List.getElem?_cons_zero, List.getElem?_cons_succ] at x0 x1 x2 x3
        have NS : Hid (((((wr.setCell ⟨R, 0, none⟩ (.slice none 0 0)).setCell ⟨R, 1, none⟩ (.int .i64 0)).setCell ⟨R, 2, none⟩ (.int .i64 0)).setCell ⟨R, 3, none⟩ (.slice none 0 0)).heap[R]? = some (.cells #[.slice none 0 0, .int .i64 0, .int .i64 0, .slice none 0 0] 35) ∧ Chg (fun x => x = R) wr ((((wr.setCell ⟨R, 0, none⟩ (.slice none 0 0)).setCell ⟨R, 1, none⟩ (.int .i64 0)).setCell ⟨R, 2, none⟩ (.int .i64 0)).setCell ⟨R, 3, none⟩ (.slice none 0 0))) := hide ⟨blk_set (blk_set (blk_set (blk_set BRb 0 (.slice none 0 0)) 1 (.int .i64 0)) 2 (.int .i64 0)) 3 (.slice none 0 0), (((Chg.set wr R 0 (.slice none 0 0)).trans (Chg.set _ R 1 (.int .i64 0))).trans (Chg.set _ R 2 (.int .i64 0))).trans (Chg.set _ R 3 (.slice none 0 0))⟩
        have GF : Hid (Chg (fun _ => False) w ((((wr.setCell ⟨R, 0, none⟩ (.slice none 0 0)).setCell ⟨R, 1, none⟩ (.int .i64 0)).setCell ⟨R, 2, none⟩ (.int .i64 0)).setCell ⟨R, 3, none⟩ (.slice none 0 0))) := hide ((((GG.out.mono (T := fun x => x = P ∨ R ≤ x) (fun x _ h => h.elim)).trans (GR.out.mono (fun x _ h => by have := HO.out; omega))).trans (NS.out.2.mono (fun x _ h => by omega))).mono (fun x hx e => by have := HO.out; omega))
        clear BRb GR TT OT OK RT2 XS XW BT
        rcases hb with hb | hb
        · have hd : decide (n < 0) = true := by simpa using hb
          clear hb
          go_wp2_with fail
          generalize ((((wr.setCell ⟨R, 0, none⟩ (.slice none 0 0)).setCell ⟨R, 1, none⟩ (.int .i64 0)).setCell ⟨R, 2, none⟩ (.int .i64 0)).setCell ⟨R, 3, none⟩ (.slice none 0 0)) = wF at *
          have r0 := blk_cell NS.out.1 0
          have r1 := blk_cell NS.out.1 1
          have r2 := blk_cell NS.out.1 2
          have r3 := blk_cell NS.out.1 3
          refine bodyPost_ret (v := .tuple #[.agg #[.slice none 0 0, .int .i64 0, .int .i64 0, .slice none 0 0], .slice none 0 0, .int .i64 10]) (by simp [results, Tryd.results12, go_sem, r0, r1, r2, r3]) rfl ?_
          exact ⟨⟨_, _, by rw [EN.out]; rfl, by rw [EN.out]; exact TV.zero _ _, by rw [EN.out]; exact Ts.nil _ _⟩, GF.out⟩
        · by_cases hb0 : n < 0
          · have hd : decide (n < 0) = true := by simpa using hb0
            clear hb hb0
            go_wp2_with fail
            generalize ((((wr.setCell ⟨R, 0, none⟩ (.slice none 0 0)).setCell ⟨R, 1, none⟩ (.int .i64 0)).setCell ⟨R, 2, none⟩ (.int .i64 0)).setCell ⟨R, 3, none⟩ (.slice none 0 0)) = wF at *
            have r0 := blk_cell NS.out.1 0
            have r1 := blk_cell NS.out.1 1
            have r2 := blk_cell NS.out.1 2
            have r3 := blk_cell NS.out.1 3
            refine bodyPost_ret (v := .tuple #[.agg #[.slice none 0 0, .int .i64 0, .int .i64 0, .slice none 0 0], .slice none 0 0, .int .i64 10]) (by simp [results, Tryd.results12, go_sem, r0, r1, r2, r3]) rfl ?_
            exact ⟨⟨_, _, by rw [EN.out]; rfl, by rw [EN.out]; exact TV.zero _ _, by rw [EN.out]; exact Ts.nil _ _⟩, GF.out⟩
          · have hd : decide (n < 0) = false := by simpa using hb0
            have hd2 : decide ((t.ag.len : Int) ≤ n) = true := by simpa using hb
            clear hb hb0
            go_wp2_with fail
            generalize ((((wr.setCell ⟨R, 0, none⟩ (.slice none 0 0)).setCell ⟨R, 1, none⟩ (.int .i64 0)).setCell ⟨R, 2, none⟩ (.int .i64 0)).setCell ⟨R, 3, none⟩ (.slice none 0 0)) = wF at *
            have r0 := blk_cell NS.out.1 0
            have r1 := blk_cell NS.out.1 1
            have r2 := blk_cell NS.out.1 2
            have r3 := blk_cell NS.out.1 3
            refine bodyPost_ret (v := .tuple #[.agg #[.slice none 0 0, .int .i64 0, .int .i64 0, .slice none 0 0], .slice none 0 0, .int .i64 10]) (by simp [results, Tryd.results12, go_sem, r0, r1, r2, r3]) rfl ?_
            exact ⟨⟨_, _, by rw [EN.out]; rfl, by rw [EN.out]; exact TV.zero _ _, by rw [EN.out]; exact Ts.nil _ _⟩, GF.out⟩
      · obtain ⟨m, rfl⟩ : ∃ m : Nat, n = (m : Int) := ⟨n.toNat, by omega⟩
        have hm : m < t.ag.len := by omega
        have hmt : m < t.ag.toL.length := by rw [Tms.toL_len]; exact hm
        have ES : Hid (atG (acc.app (t.ag.toL[m]).bs) t.ag.toL[m] (p.drop (j + 1)) = RES) := hide (by rw [← RT2.out]; simp only [atG]; rw [Tm.sub_some hmt])
        have OK2 := hide (sub_ok OK.out.1 hmt)
        have OS : Hid ((acc.app (t.ag.toL[m]).bs).size + (t.ag.toL[m]).ag.size ≤ 40000) := hide (by rw [Fs.app_size]; have := Tms.kid_sum t.ag m hmt; have := OK.out.2; omega)
        have OL : Hid (acc.len + (t.ag.toL[m]).bs.len ≤ 200000) := hide (by have h1 := OS.out; rw [Fs.app_size] at h1; have := Fs.len_size acc; have := Fs.len_size (t.ag.toL[m]).bs; omega)
        obtain ⟨la, lc, hlv, hl⟩ := TT.out.2
        rcases hl with h0 | ⟨g3, off3, rfl, hg3, hl⟩
        · rw [h0] at hm; exact absurd hm (Nat.not_lt_zero _)
        injection hlv with e1 e2 e3
        subst e1 e3
        obtain ⟨⟨vkb, c0, tb⟩, c1, c2, vi, c3, ti⟩ := tlies_get hl m hmt
        obtain ⟨kba, kbc, rfl, _⟩ := id tb
        obtain ⟨ka, kc, rfl, _⟩ := id ti
        have TB := hide tb
        have TI := hide ti
        have hd : decide ((m : Int) < 0) = false := by simp
        have m1 : (0 : Int) ≤ (m : Int) := by omega
        have m2 : (m : Int) < (t.ag.len : Int) := by omega
        have hd2 : decide ((t.ag.len : Int) ≤ (m : Int)) = false := by simp; omega
        clear hl tb ti hb RT2 hm
        dsimp only [Tm.bs, Tm.kd, Tm.ix, Tm.ag] at c0 c1 c2 c3 TB TI ES OK2 OS OL q3 m2 hd2
        generalize hsub : t.ag.toL[m] = s at *
        obtain ⟨s0, s1, s2, s3⟩ := s
        dsimp only at c0 c1 c2 c3 TB TI ES OS OL
        clear hsub
        have x0 := blk_cell BT.out 0
        have x1 := blk_cell BT.out 1
        have x2 := blk_cell BT.out 2
        have x3 := blk_cell BT.out 3
        have xf0 := blk_free BT.out 0
        have xf1 := blk_free BT.out 1
        have xf2 := blk_free BT.out 2
        have xf3 := blk_free BT.out 3
        simp only [List.getElem?_toArray, List.getElem?_cons_zero, List.getElem?_cons_succ] at x0 x1 x2 x3
        have NS : Hid (((((wr.setCell ⟨P, 0, none⟩ (.slice kba s0.len kbc)).setCell ⟨P, 1, none⟩ (.int .i64 s1)).setCell ⟨P, 2, none⟩ (.int .i64 s2)).setCell ⟨P, 3, none⟩ (.slice ka s3.len kc)).heap[P]? = some (.cells #[.slice kba s0.len kbc, .int .i64 s1, .int .i64 s2, .slice ka s3.len kc] 35) ∧ Chg (fun x => x = P) wr ((((wr.setCell ⟨P, 0, none⟩ (.slice kba s0.len kbc)).setCell ⟨P, 1, none⟩ (.int .i64 s1)).setCell ⟨P, 2, none⟩ (.int .i64 s2)).setCell ⟨P, 3, none⟩ (.slice ka s3.len kc))) := hide ⟨blk_set (blk_set (blk_set (blk_set BT.out 0 (.slice kba s0.len kbc)) 1 (.int .i64 s1)) 2 (.int .i64 s2)) 3 (.slice ka s3.len kc), (((Chg.set wr P 0 (.slice kba s0.len kbc)).trans (Chg.set _ P 1 (.int .i64 s1))).trans (Chg.set _ P 2 (.int .i64 s2))).trans (Chg.set _ P 3 (.slice ka s3.len kc))⟩
        have XP : ∀ x, X x → ¬ x = P := fun x hx e => by have := HXP.out x hx; omega
        have O3 := hide (OT.out.chg NS.out.2 (fun x hx e => by have := HO.out; omega) XP)
        have TB3 := hide (TB.out.chg NS.out.2 XP)
        have TI3 := hide (TI.out.chg NS.out.2 XP)
        have G3 : Hid (Chg (fun x => x = P ∨ w1.heap.size ≤ x) w1 ((((wr.setCell ⟨P, 0, none⟩ (.slice kba s0.len kbc)).setCell ⟨P, 1, none⟩ (.int .i64 s1)).setCell ⟨P, 2, none⟩ (.int .i64 s2)).setCell ⟨P, 3, none⟩ (.slice ka s3.len kc))) := hide (GR.out.trans (NS.out.2.mono (fun x _ h => Or.inl h)))
        obtain ⟨av2, w5, hr, O5, g5⟩ := O3.out.append TB3.out OL.out (by have := G3.out.size; exact this) (fun x hx => by have := HXP.out x hx; have := HO.out; omega) 31
        have B5 := hide (g5.blk (by have := HO.out; omega) NS.out.1)
        have X5 : ∀ x, X x → ¬ w1.heap.size ≤ x := fun x hx e => by have := HXP.out x hx; have := HO.out; omega
        have F9 : Hid (AtInv w w1 w5 P w1.heap.size X av2 p (j + 1) RES) := hide ⟨(s0, s1, s2, s3), acc.app s0, kba, kbc, ka, kc, B5, hide ⟨TB3.out.chg g5 X5, TI3.out.chg g5 X5⟩, hide O5, ES, hide ⟨OK2.out, OS.out⟩, hide (G3.out.trans (g5.mono (fun x _ h => Or.inr h)))⟩
        clear NS O3 TB3 TI3 G3 O5 g5 B5 X5 XP GR TT OT OK BT BRr XS XW
        go_wp2_with (at_builtin; refine Lib.wpList_append_run _ rfl _ _ _ _ rfl _ _ rfl rfl _ _ hr ?_)
        go_wp2_with fail
        go_roundw
        case rel => exact ⟨j + 1, by omega, by go_num, F9⟩
        case measure => simp [intOf]; omega
    · have hjf : j = p.length := by omega
      have ER : Hid (RES = some (t, acc)) := hide (by
        rw [← RT.out, hjf, List.drop_length]
        rfl)
      have j2 : decide (j < p.length) = false := by simp [hlt]
      have XR : ∀ x, X x → x < wr.heap.size := fun x hx => by have := HX.out x hx; have := GG.out.size; have := GR.out.size; omega
      have x0 := blk_cell BT.out 0
      have x1 := blk_cell BT.out 1
      have x2 := blk_cell BT.out 2
      have x3 := blk_cell BT.out 3
      simp only [List.getElem?_toArray, List.getElem?_cons_zero, List.getElem?_cons_succ] at x0 x1 x2 x3
      have CP := hide (copy_any t OK.out.1 (.agg #[.slice ba t.bs.len bc, .int .i64 t.kd, .int .i64 t.ix, .slice a t.ag.len c]) X wr XR ⟨ba, bc, a, c, rfl, TT.out.1, TT.out.2⟩)
      have fl0 := @field73_0
      have BRw := hide BRr.out
      have HACC : Hid (acc.size ≤ 40000) := hide (by have := OK.out.2; omega)
      have HB1 : Hid (w1.heap.size ≤ wr.heap.size) := hide GR.out.size
      clear RT TT BRr BT
      obtain ⟨t0, t1, t2, t3⟩ := t
      dsimp only [Tm.bs, Tm.kd, Tm.ix, Tm.ag] at *
      subst hjf
      go_wp2_with fail
      refine CP.out.mono ?_
      rintro e w5 ⟨⟨v', rfl, tv⟩, g5⟩
      obtain ⟨ca, cc, va, vc, rfl, _, _⟩ := id tv
      dsimp only [Tm.bs, Tm.kd, Tm.ix, Tm.ag]
      have TS5 := hide ((OT.out.chg g5 (fun _ _ h => h) (fun _ _ h => h)).ts)
      have AW := hide (arrow_any .nil acc (Nat.zero_le _) HACC.out (.slice none 0 0) _ 0 _ w5 (fun x hx => by rcases hx with hx | hx; exact Nat.lt_of_lt_of_le (XR x hx) g5.size; exact hx.2) (Ts.nil _ _) TS5.out)
      have BR5 := hide (g5.blk (fun h => h) BRw.out)
      have TV5 := hide tv
      have G5 := hide g5
      clear tv g5 CP TS5 OT BRw XR x0 x1 x2 x3
      go_wp2_with fail
      refine AW.out.mono ?_
      rintro e w6 ⟨⟨vl, rfl, tl⟩, g6⟩
      rw [Fs.app_nil] at tl
      obtain ⟨la, lc, rfl, _⟩ := id tl
      have BR6 := hide (g6.blk (fun h => h) BR5.out)
      have TV6 := hide ((TV5.out.chg g6 (fun _ _ h => h)).up (Y := fun x => wr.heap.size ≤ x ∧ x < w6.heap.size) (fun x hx => ⟨hx.1, Nat.lt_of_lt_of_le hx.2 g6.size⟩))
      have TL6 := hide (tl.up (Y := fun x => wr.heap.size ≤ x ∧ x < w6.heap.size) (fun x hx => ⟨Nat.le_trans G5.out.size hx.1, hx.2⟩))
      have G6 := hide (G5.out.trans g6)
      have y0 := blk_cell BR6.out 0
      have y1 := blk_cell BR6.out 1
      have y2 := blk_cell BR6.out 2
      have y3 := blk_cell BR6.out 3
      have yf0 := blk_free BR6.out 0
      have yf1 := blk_free BR6.out 1
      have yf2 := blk_free BR6.out 2
      have yf3 := blk_free BR6.out 3
      simp only [List.getElem?_toArray, List.getElem?_cons_zero, List.getElem?_cons_succ] at y0 y1 y2 y3
      have NS : Hid (((((w6.setCell ⟨R, 0, none⟩ (.slice ca t0.len cc)).setCell ⟨R, 1, none⟩ (.int .i64 t1)).setCell ⟨R, 2, none⟩ (.int .i64 t2)).setCell ⟨R, 3, none⟩ (.slice va t3.len vc)).heap[R]? = some (.cells #[.slice ca t0.len cc, .int .i64 t1, .int .i64 t2, .slice va t3.len vc] 35) ∧ Chg (fun x => x = R) w6 ((((w6.setCell ⟨R, 0, none⟩ (.slice ca t0.len cc)).setCell ⟨R, 1, none⟩ (.int .i64 t1)).setCell ⟨R, 2, none⟩ (.int .i64 t2)).setCell ⟨R, 3, none⟩ (.slice va t3.len vc))) := hide ⟨blk_set (blk_set (blk_set (blk_set BR6.out 0 (.slice ca t0.len cc)) 1 (.int .i64 t1)) 2 (.int .i64 t2)) 3 (.slice va t3.len vc), (((Chg.set w6 R 0 (.slice ca t0.len cc)).trans (Chg.set _ R 1 (.int .i64 t1))).trans (Chg.set _ R 2 (.int .i64 t2))).trans (Chg.set _ R 3 (.slice va t3.len vc))⟩
      have GF : Hid (Chg (fun _ => False) w ((((w6.setCell ⟨R, 0, none⟩ (.slice ca t0.len cc)).setCell ⟨R, 1, none⟩ (.int .i64 t1)).setCell ⟨R, 2, none⟩ (.int .i64 t2)).setCell ⟨R, 3, none⟩ (.slice va t3.len vc))) := hide (((((GG.out.mono (T := fun x => x = P ∨ R ≤ x) (fun x _ h => h.elim)).trans (GR.out.mono (fun x _ h => by have := HO.out; omega))).trans (G6.out.mono (fun x _ h => h.elim))).trans (NS.out.2.mono (fun x _ h => by omega))).mono (fun x hx e => by have := HO.out; omega))
      have TVF := hide ((TV6.out.chg NS.out.2 (fun x hx e => by have := hx.1; have := HB1.out; have := HO.out; omega)).up (Y := fun x => w.heap.size ≤ x ∧ x < ((((w6.setCell ⟨R, 0, none⟩ (.slice ca t0.len cc)).setCell ⟨R, 1, none⟩ (.int .i64 t1)).setCell ⟨R, 2, none⟩ (.int .i64 t2)).setCell ⟨R, 3, none⟩ (.slice va t3.len vc)).heap.size) (fun x hx => ⟨by have := hx.1; have := HB1.out; have := HO.out; omega, Nat.lt_of_lt_of_le hx.2 NS.out.2.size⟩))
      have TLF := hide ((TL6.out.chg NS.out.2 (fun x hx e => by have := hx.1; have := HB1.out; have := HO.out; omega)).up (Y := fun x => w.heap.size ≤ x ∧ x < ((((w6.setCell ⟨R, 0, none⟩ (.slice ca t0.len cc)).setCell ⟨R, 1, none⟩ (.int .i64 t1)).setCell ⟨R, 2, none⟩ (.int .i64 t2)).setCell ⟨R, 3, none⟩ (.slice va t3.len vc)).heap.size) (fun x hx => ⟨by have := hx.1; have := HB1.out; have := HO.out; omega, Nat.lt_of_lt_of_le hx.2 NS.out.2.size⟩))
      clear g6 tl AW TV5 G5 BR5 TV6 TL6 G6
      go_wp2_with fail
      generalize ((((w6.setCell ⟨R, 0, none⟩ (.slice ca t0.len cc)).setCell ⟨R, 1, none⟩ (.int .i64 t1)).setCell ⟨R, 2, none⟩ (.int .i64 t2)).setCell ⟨R, 3, none⟩ (.slice va t3.len vc)) = wF at *
      have r0 := blk_cell NS.out.1 0
      have r1 := blk_cell NS.out.1 1
      have r2 := blk_cell NS.out.1 2
      have r3 := blk_cell NS.out.1 3
      refine bodyPost_ret (v := .tuple #[.agg #[.slice ca t0.len cc, .int .i64 t1, .int .i64 t2, .slice va t3.len vc], .slice la acc.len lc, .int .i64 0]) (by simp [results, Tryd.results12, go_sem, r0, r1, r2, r3]) rfl ?_
      exact ⟨⟨_, _, by rw [ER.out]; rfl, by rw [ER.out]; exact TVF.out, by rw [ER.out]; exact TLF.out⟩, GF.out⟩
end Go.Proofs.YtnpcapdlgcaniaaDoor
