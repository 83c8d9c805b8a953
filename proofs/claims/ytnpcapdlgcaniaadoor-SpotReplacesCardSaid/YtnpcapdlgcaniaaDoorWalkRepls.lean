/- SpotReplaces' walk. -/
import Derived.Test.YtnpcapdlgcaniaaDoorWalkAts
import Derived.Test.YtnpcapdlgcaniaaDoorReplLaw
import Derived.Test.YtnpcapdlgcaniaaDoorRefRep
import Derived.Deep.RegionHeld3
namespace Go.Proofs.YtnpcapdlgcaniaaDoor
open Go.RowKit
set_option linter.unusedVariables false
set_option linter.unusedSimpArgs false

theorem atR_all : ∀ (p : List Int) (t : Tm) (y : Tm × Fs), atR t p = some y → y.1.bs.size + y.1.ag.size ≤ t.bs.size + t.ag.size
  | [], t, y, h => by cases h; exact Nat.le_refl _
  | i :: p, t, y, h => by
    simp only [atR] at h
    cases hs : t.sub i with
    | none => rw [hs] at h; cases h
    | some x =>
      rw [hs] at h
      obtain ⟨z, hz, rfl⟩ := Option.map_eq_some_iff.1 h
      have h1 := atR_all p x z hz
      obtain ⟨m, hm, _, rfl⟩ := sub_kid hs
      have := Tms.kid_sum t.ag m hm
      simp only
      omega
/-- what is there, but Q -/
def NQ (Q : Nat) (w : World) : Nat → Prop := fun x => x < w.heap.size ∧ x ≠ Q
theorem TV.nq {Q : Nat} {w w' : World} {v : Value} {t : Tm} (h : TV w (NQ Q w) v t) (g : Chg (fun _ => False) w w') : TV w' (NQ Q w') v t := (h.chg g (fun _ _ h => h)).up (fun x hx => ⟨Nat.lt_of_lt_of_le hx.1 g.size, hx.2⟩)
theorem TV.nqs {Q : Nat} {w w' : World} {v : Value} {t : Tm} (h : TV w (NQ Q w) v t) (g : Chg (fun x => x = Q) w w') : TV w' (NQ Q w') v t := (h.chg g (fun _ hx h => hx.2 h)).up (fun x hx => ⟨Nat.lt_of_lt_of_le hx.1 g.size, hx.2⟩)
theorem TV.nqa {Q : Nat} {w : World} {v : Value} {t : Tm} (h : TV w (NQ Q w) v t) : TV w (fun x => x < w.heap.size) v t := h.up (fun x hx => hx.1)
/-- what is known of a path that is cut at a hundred -/
def PathOk (w : World) (a : Option Addr) (c : Nat) (p : List Int) : Prop := Ip w (.slice a p.length c) p ∧ p.length ≤ 100 ∧ p.length ≤ c ∧ (a = none → p.length = 0 ∧ c = 0)
theorem path_ok {w : World} {x : IsIn} {v : Value} (h : IsIs w v x) : PathOk w x.a x.c (x.l.take 100) := by
  refine ⟨ip_take h 100, by rw [List.length_take]; omega, ?_, fun e => ?_⟩
  · have := h.2.1; rw [List.length_take]; omega
  · have := h.2.2.2.1 e; rw [List.length_take]; omega
theorem two_row {w : World} {L : Nat} {t0 y0 : Fs} {t1 t2 y1 y2 : Int} {t3 y3 : Tms} {pa pd qa qd : Option Addr} {pc pe qc qe : Nat} (hL : L < w.heap.size) (b : w.heap[L]? = some (.cells #[.slice pa t0.len pc, .int .i64 t1, .int .i64 t2, .slice pd t3.len pe, .slice qa y0.len qc, .int .i64 y1, .int .i64 y2, .slice qd y3.len qe] 27)) (h0 : Ts w (fun x => x < w.heap.size) (.slice pa t0.len pc) t0) (h3 : Tr w (fun x => x < w.heap.size) (.slice pd t3.len pe) t3) (k0 : Ts w (fun x => x < w.heap.size) (.slice qa y0.len qc) y0) (k3 : Tr w (fun x => x < w.heap.size) (.slice qd y3.len qe) y3) :
    Tr w (fun x => x < w.heap.size) (.slice (some ⟨L, 0, none⟩) 2 2) (.cons t0 t1 t2 t3 (.cons y0 y1 y2 y3 .nil)) :=
  ⟨_, 2, rfl, Or.inr ⟨L, 0, rfl, hL, tlies_cons.2 ⟨⟨_, blk_cell b 0, h0⟩, blk_cell b 1, blk_cell b 2, ⟨_, blk_cell b 3, h3⟩, tlies_cons.2 ⟨⟨_, blk_cell b 4, k0⟩, blk_cell b 5, blk_cell b 6, ⟨_, blk_cell b 7, k3⟩, trivial⟩⟩⟩⟩

set_option maxRecDepth 100000 in
set_option maxHeartbeats 64000000 in
theorem repls_walk (t y : Tm) (x z : IsIn) (v bv u uo : Value) (w : World) (ht : TmIs w v t) (hy : TmIs w bv y) (hx : IsIs w u x) (hz : IsIs w uo z) :
    Calls Tryd.prog 5 #[v, bv, u, uo] w fun e w' => e = .returned (.bool true) ∧ Chg (fun _ => False) w w' := by
  obtain ⟨htv, hti⟩ := ht
  obtain ⟨hyv, hyi⟩ := hy
  have PO := hide (path_ok hx)
  have PZ := hide (path_ok hz)
  obtain ⟨hxe, hx1, hx2, _, _, _⟩ := hx
  obtain ⟨hze, hz1, hz2, _, _, _⟩ := hz
  subst hxe
  subst hze
  obtain ⟨k1, hk1⟩ : ∃ k1, k1 = min x.l.length 100 := ⟨_, rfl⟩
  obtain ⟨k2, hk2⟩ : ∃ k2, k2 = min z.l.length 100 := ⟨_, rfl⟩
  have e1 : min (x.l.length : Int) 100 = (k1 : Int) := by omega
  have e2 : min (z.l.length : Int) 100 = (k2 : Int) := by omega
  have q1 : k1 ≤ x.c := by omega
  have q2 : k2 ≤ z.c := by omega
  have L1 : Hid (k1 = (x.l.take 100).length) := hide (by rw [List.length_take, hk1]; omega)
  have L2 : Hid (k2 = (z.l.take 100).length) := hide (by rw [List.length_take, hk2]; omega)
  clear hk1 hk2 hx1 hx2 hz1 hz2
  generalize x.l.take 100 = p at *
  generalize x.l.length = xl at *
  generalize x.a = xpa at *
  generalize x.c = xpc at *
  generalize z.l.take 100 = o at *
  generalize z.l.length = zl at *
  generalize z.a = zpa at *
  generalize z.c = zpc at *
  obtain ⟨t0, t1, t2, t3⟩ := t
  obtain ⟨y0, y1, y2, y3⟩ := y
  obtain ⟨pa, pc, pd, pe, rfl, h1, h2⟩ := htv
  obtain ⟨qa, qc, qd, qe, rfl, j1, j2⟩ := hyv
  dsimp only [Tm.bs, Tm.kd, Tm.ix, Tm.ag] at *
  have HTI := hide hti
  have HYI := hide hyi
  have T0 : Hid (TV w (fun x => x < w.heap.size) (.agg #[.slice pa t0.len pc, .int .i64 t1, .int .i64 t2, .slice pd t3.len pe]) (t0, t1, t2, t3)) := hide ⟨pa, pc, pd, pe, rfl, h1, h2⟩
  have Y0 : Hid (TV w (fun x => x < w.heap.size) (.agg #[.slice qa y0.len qc, .int .i64 y1, .int .i64 y2, .slice qd y3.len qe]) (y0, y1, y2, y3)) := hide ⟨qa, qc, qd, qe, rfl, j1, j2⟩
  have G1 := al w (.cells #[.slice pa t0.len pc, .int .i64 t1, .int .i64 t2, .slice pd t3.len pe] 27)
  have b0 := blk_new w (.cells #[.slice pa t0.len pc, .int .i64 t1, .int .i64 t2, .slice pd t3.len pe] 27)
  have G2 := al (w.alloc (.cells #[.slice pa t0.len pc, .int .i64 t1, .int .i64 t2, .slice pd t3.len pe] 27)) (.cells #[.slice qa y0.len qc, .int .i64 y1, .int .i64 y2, .slice qd y3.len qe] 27)
  have b1 := blk_new (w.alloc (.cells #[.slice pa t0.len pc, .int .i64 t1, .int .i64 t2, .slice pd t3.len pe] 27)) (.cells #[.slice qa y0.len qc, .int .i64 y1, .int .i64 y2, .slice qd y3.len qe] 27)
  have G3 := al ((w.alloc (.cells #[.slice pa t0.len pc, .int .i64 t1, .int .i64 t2, .slice pd t3.len pe] 27)).alloc (.cells #[.slice qa y0.len qc, .int .i64 y1, .int .i64 y2, .slice qd y3.len qe] 27)) (.cells #[.slice pa t0.len pc, .int .i64 t1, .int .i64 t2, .slice pd t3.len pe, .slice qa y0.len qc, .int .i64 y1, .int .i64 y2, .slice qd y3.len qe] 27)
  have b2 := blk_new ((w.alloc (.cells #[.slice pa t0.len pc, .int .i64 t1, .int .i64 t2, .slice pd t3.len pe] 27)).alloc (.cells #[.slice qa y0.len qc, .int .i64 y1, .int .i64 y2, .slice qd y3.len qe] 27)) (.cells #[.slice pa t0.len pc, .int .i64 t1, .int .i64 t2, .slice pd t3.len pe, .slice qa y0.len qc, .int .i64 y1, .int .i64 y2, .slice qd y3.len qe] 27)
  have b0' := G3.blk (fun h => h) (G2.blk (fun h => h) b0)
  have b1' := G3.blk (fun h => h) b1
  rw [al_sz] at b1'
  rw [al_sz, al_sz] at b2
  have GG := hide ((G1.trans G2).trans G3)
  have BP := hide b0'
  have BQ := hide b1'
  have sz3 : (((w.alloc (.cells #[.slice pa t0.len pc, .int .i64 t1, .int .i64 t2, .slice pd t3.len pe] 27)).alloc (.cells #[.slice qa y0.len qc, .int .i64 y1, .int .i64 y2, .slice qd y3.len qe] 27)).alloc (.cells #[.slice pa t0.len pc, .int .i64 t1, .int .i64 t2, .slice pd t3.len pe, .slice qa y0.len qc, .int .i64 y1, .int .i64 y2, .slice qd y3.len qe] 27)).heap.size = w.heap.size + 3 := by rw [al_sz, al_sz, al_sz]
  have FW := hide (L06Few_any (.cons t0 t1 t2 t3 (.cons y0 y1 y2 y3 .nil)) (by simp only [Tms.len]; omega) (.slice (some ⟨w.heap.size + 1 + 1, 0, none⟩) 2 2) (fun x => x < (((w.alloc (.cells #[.slice pa t0.len pc, .int .i64 t1, .int .i64 t2, .slice pd t3.len pe] 27)).alloc (.cells #[.slice qa y0.len qc, .int .i64 y1, .int .i64 y2, .slice qd y3.len qe] 27)).alloc (.cells #[.slice pa t0.len pc, .int .i64 t1, .int .i64 t2, .slice pd t3.len pe, .slice qa y0.len qc, .int .i64 y1, .int .i64 y2, .slice qd y3.len qe] 27)).heap.size) (((w.alloc (.cells #[.slice pa t0.len pc, .int .i64 t1, .int .i64 t2, .slice pd t3.len pe] 27)).alloc (.cells #[.slice qa y0.len qc, .int .i64 y1, .int .i64 y2, .slice qd y3.len qe] 27)).alloc (.cells #[.slice pa t0.len pc, .int .i64 t1, .int .i64 t2, .slice pd t3.len pe, .slice qa y0.len qc, .int .i64 y1, .int .i64 y2, .slice qd y3.len qe] 27)) (fun x h => h) (two_row (by rw [sz3]; omega) b2 (h1.all GG.out) (h2.all GG.out) (j1.all GG.out) (j2.all GG.out)))
  have SZ := hide sz3
  have c0 := blk_cell b0 0
  have c1 := blk_cell b0 1
  have c2 := blk_cell b0 2
  have c3 := blk_cell b0 3
  have d0 := blk_cell b1 0
  have d1 := blk_cell b1 1
  have d2 := blk_cell b1 2
  have d3 := blk_cell b1 3
  rw [al_sz] at d0 d1 d2 d3
  have f0 := G2.cell (fun h => h) c0
  have f1 := G2.cell (fun h => h) c1
  have f2 := G2.cell (fun h => h) c2
  have f3 := G2.cell (fun h => h) c3
  simp only [List.getElem?_toArray, List.getElem?_cons_zero, List.getElem?_cons_succ] at c0 c1 c2 c3 d0 d1 d2 d3 f0 f1 f2 f3
  clear G1 G2 G3 b0 b1 b2 b0' b1' sz3 h1 h2 j1 j2 hti hyi
  go_enter Tryd.func5, Tryd.ntmps5
  go_wp2_with fail
  generalize (((w.alloc (.cells #[.slice pa t0.len pc, .int .i64 t1, .int .i64 t2, .slice pd t3.len pe] 27)).alloc (.cells #[.slice qa y0.len qc, .int .i64 y1, .int .i64 y2, .slice qd y3.len qe] 27)).alloc (.cells #[.slice pa t0.len pc, .int .i64 t1, .int .i64 t2, .slice pd t3.len pe, .slice qa y0.len qc, .int .i64 y1, .int .i64 y2, .slice qd y3.len qe] 27)) = w1 at *
  refine FW.out.mono ?_
  rintro e w3 ⟨⟨r, rfl, hr⟩, g3⟩
  obtain ⟨P, hP⟩ : ∃ P, w.heap.size = P := ⟨_, rfl⟩
  obtain ⟨Q, hQ⟩ : ∃ Q, P + 1 = Q := ⟨_, rfl⟩
  rw [hP] at BP BQ ⊢
  rw [hQ] at BQ ⊢
  have HP : Hid (P < Q ∧ Q < w1.heap.size ∧ w.heap.size = P) := hide ⟨by omega, by have := SZ.out; omega, hP⟩
  have G3 := hide (GG.out.trans g3)
  have BP3 := hide (g3.blk (fun h => h) BP.out)
  have BQ3 := hide (g3.blk (fun h => h) BQ.out)
  have HQ3 : Hid (Q < w3.heap.size) := hide (by have := HP.out; have := g3.size; omega)
  have HR := hide hr
  clear g3 hr FW c0 c1 c2 c3 d0 d1 d2 d3 f0 f1 f2 f3 hP hQ GG BP BQ SZ
  cases r
  · go_wp2_with fail
    refine (known_any _).mono ?_
    rintro e w5 ⟨rfl, g5⟩
    have G5 := hide (G3.out.trans g5)
    clear g5
    go_wp2_with fail
    go_ret
    exact ⟨rfl, G5.out⟩
  · have ST : Hid (1 + t0.size + t3.size ≤ 150) := hide (HR.out rfl (t0, t1, t2, t3) (by simp [Tms.toL]))
    have SY : Hid (1 + y0.size + y3.size ≤ 150) := hide (HR.out rfl (y0, y1, y2, y3) (by simp [Tms.toL]))
    have OKT := hide (few_ok (t := (t0, t1, t2, t3)) HTI.out.2.1 HTI.out.2.2 ST.out)
    have OKY := hide (few_ok (t := (y0, y1, y2, y3)) HYI.out.2.1 HYI.out.2.2 SY.out)
    clear HR
    go_upto_region 3 with fail
    go_cut [2, 3] (fun s2 s3 wx => s2 = .slice xpa k1 xpc ∧ s3 = .slice zpa k2 zpc ∧ Hid (Chg (fun _ => False) w3 wx))
    case first =>
      as_aux_lemma =>
        go_region_held3 (fun _ => True) (trivial) (first | fail)
        all_goals
          go_wp2_with fail
          go_meet
          exact ⟨rfl, rfl, (Chg.refl _ w3).drew⟩
    case rest =>
    obtain ⟨rfl, rfl, G4⟩ := hcut
    generalize wc = wb at *
    obtain rfl := L1.out
    obtain rfl := L2.out
    have G := hide (G3.out.trans G4.out)
    have BPb := hide (G4.out.blk (fun h => h) BP3.out)
    have BQb := hide (G4.out.blk (fun h => h) BQ3.out)
    have TTb := hide (T0.out.all G.out)
    have TYb := hide (Y0.out.all G.out)
    have IPb := hide (PO.out.1.all G.out)
    have HQb : Hid (Q < wb.heap.size) := hide (Nat.lt_of_lt_of_le HQ3.out G4.out.size)
    clear G3 G4 BP3 BQ3 e1 e2 q1 q2 L1 L2 HQ3
    obtain ⟨ev, hev⟩ : ∃ ev, rpE (t0, t1, t2, t3) (y0, y1, y2, y3) p = ev := ⟨_, rfl⟩
    obtain ⟨RP, hRP⟩ : ∃ RP, rpT (t0, t1, t2, t3) (y0, y1, y2, y3) p = RP := ⟨_, rfl⟩
    have HEV := hide hev
    have HRP := hide hRP
    clear hev hRP
    have ZOK : Hid (∀ z, replG (t0, t1, t2, t3) (y0, y1, y2, y3) p = some z → TmOk z) := hide (fun z hz => repl_ok p _ _ z hz HTI.out HYI.out ST.out SY.out)
    have h0 : wb.cell? ⟨P, 0, none⟩ = some (.slice pa t0.len pc) := blk_cell BPb.out 0
    have h1 : wb.cell? ⟨P, 1, none⟩ = some (.int .i64 t1) := blk_cell BPb.out 1
    have h2 : wb.cell? ⟨P, 2, none⟩ = some (.int .i64 t2) := blk_cell BPb.out 2
    have h3 : wb.cell? ⟨P, 3, none⟩ = some (.slice pd t3.len pe) := blk_cell BPb.out 3
    have k0 : wb.cell? ⟨Q, 0, none⟩ = some (.slice qa y0.len qc) := blk_cell BQb.out 0
    have k1 : wb.cell? ⟨Q, 1, none⟩ = some (.int .i64 y1) := blk_cell BQb.out 1
    have k2 : wb.cell? ⟨Q, 2, none⟩ = some (.int .i64 y2) := blk_cell BQb.out 2
    have k3 : wb.cell? ⟨Q, 3, none⟩ = some (.slice qd y3.len qe) := blk_cell BQb.out 3
    go_upto_region 4 with fail
    go_cut [9, 10] (fun s9 s10 wx => ∃ (O : Nat) (xa : Option Addr) (xc : Nat) (xd : Option Addr) (xe : Nat), s9 = .pointer (some ⟨O, 0, none⟩) ∧ s10 = .int .i64 ev ∧ Hid (wx.heap[O]? = some (.cells #[.slice xa (RP.getD (.nil, 0, 0, .nil)).1.len xc, .int .i64 (RP.getD (.nil, 0, 0, .nil)).2.1, .int .i64 (RP.getD (.nil, 0, 0, .nil)).2.2.1, .slice xd (RP.getD (.nil, 0, 0, .nil)).2.2.2.len xe] 35)) ∧ Hid (TV wx (NQ Q wx) (.agg #[.slice xa (RP.getD (.nil, 0, 0, .nil)).1.len xc, .int .i64 (RP.getD (.nil, 0, 0, .nil)).2.1, .int .i64 (RP.getD (.nil, 0, 0, .nil)).2.2.1, .slice xd (RP.getD (.nil, 0, 0, .nil)).2.2.2.len xe]) (RP.getD (.nil, 0, 0, .nil))) ∧ Hid (Chg (fun _ => False) wb wx ∧ wb.heap.size ≤ O))
    case first =>
      refine wp_region_held_drew (S := (fun w' => w'.cell? ⟨P, 0, none⟩ = some (.slice pa t0.len pc) ∧ w'.cell? ⟨P, 1, none⟩ = some (.int .i64 t1) ∧ w'.cell? ⟨P, 2, none⟩ = some (.int .i64 t2) ∧ w'.cell? ⟨P, 3, none⟩ = some (.slice pd t3.len pe) ∧ w'.cell? ⟨Q, 0, none⟩ = some (.slice qa y0.len qc) ∧ w'.cell? ⟨Q, 1, none⟩ = some (.int .i64 y1) ∧ w'.cell? ⟨Q, 2, none⟩ = some (.int .i64 y2) ∧ w'.cell? ⟨Q, 3, none⟩ = some (.slice qd y3.len qe))) (by kernel_rfl) (by go_keep) (fun hHeld => ?_)
      first
        | (refine wpAnyH_take (i := 0) (v := undef) rfl (by kernel_rfl) (by kernel_rfl) (by kernel_rfl) (fun _ _ _ h => h) (Or.inr ⟨by rfl, rfl⟩) (by assumption) ?_)
        | (refine wpAnyH_take (i := 0) (v := ?_) rfl (by kernel_rfl) (by kernel_rfl) (by kernel_rfl) (fun _ _ _ h => h) (Or.inl ⟨by rfl, ?_⟩) (by assumption) ?_
           rotate_left
           (intro w hSw
            (try dsimp only at hSw)
            (go_simp <;> with_reducible rfl)))
      try simp only [Act.put, List.getElem_toArray, List.getElem_cons_zero, List.getElem_cons_succ, List.setIfInBounds_toArray, List.set_cons_zero, List.set_cons_succ]
      first
        | (refine wpAnyH_take (i := 2) (v := undef) rfl (by kernel_rfl) (by kernel_rfl) (by kernel_rfl) (fun _ _ _ h => h) (Or.inr ⟨by rfl, rfl⟩) (by assumption) ?_)
        | (refine wpAnyH_take (i := 2) (v := ?_) rfl (by kernel_rfl) (by kernel_rfl) (by kernel_rfl) (fun _ _ _ h => h) (Or.inl ⟨by rfl, ?_⟩) (by assumption) ?_
           rotate_left
           (intro w hSw
            (try dsimp only at hSw)
            (go_simp <;> with_reducible rfl)))
      try simp only [Act.put, List.getElem_toArray, List.getElem_cons_zero, List.getElem_cons_succ, List.setIfInBounds_toArray, List.set_cons_zero, List.set_cons_succ]
      first
        | (refine wpAnyH_take (i := 4) (v := undef) rfl (by kernel_rfl) (by kernel_rfl) (by kernel_rfl) (fun _ _ _ h => h) (Or.inr ⟨by rfl, rfl⟩) (by assumption) ?_)
        | (refine wpAnyH_take (i := 4) (v := ?_) rfl (by kernel_rfl) (by kernel_rfl) (by kernel_rfl) (fun _ _ _ h => h) (Or.inl ⟨by rfl, ?_⟩) (by assumption) ?_
           rotate_left
           (intro w hSw
            (try dsimp only at hSw)
            (go_simp <;> with_reducible rfl)))
      try simp only [Act.put, List.getElem_toArray, List.getElem_cons_zero, List.getElem_cons_succ, List.setIfInBounds_toArray, List.set_cons_zero, List.set_cons_succ]
      refine wpAnyH_ready (rs := [1, 9]) (by kernel_rfl) (by simp) ?_
      refine AllReadyH.cons (i := 1) (o := _) rfl (fun K hK => ?_) ?_
      · go_simp
        have GC : Hid (Chg (fun _ => False) wb wb.drew) := hide ((Chg.refl (fun _ => False) wb).drew)
        refine (to06_any (t0, t1, t2, t3) OKT.out _ (fun x => x < wb.heap.size) wb.drew (fun x hx => Nat.lt_of_lt_of_le hx GC.out.size) (TTb.out.chg GC.out (fun _ _ h => h))).mono ?_
        rintro e v1 ⟨⟨v', rfl, tv⟩, g'⟩
        obtain ⟨ta, tc, td, te, rfl, _, _⟩ := id tv
        dsimp only [Tm.bs, Tm.kd, Tm.ix, Tm.ag]
        have GW : Hid (Chg (fun _ => False) wb v1) := hide (GC.out.trans g')
        have TVT : Hid (TV v1 (fun x => wb.drew.heap.size ≤ x ∧ x < v1.heap.size) (.agg #[.slice ta t0.len tc, .int .i64 t1, .int .i64 t2, .slice td t3.len te]) (t0, t1, t2, t3)) := hide tv
        have S1 : Hid (wb.drew.heap.size ≤ v1.heap.size) := hide g'.size
        have h0 := g'.cell (fun h => h) h0
        have h1 := g'.cell (fun h => h) h1
        have h2 := g'.cell (fun h => h) h2
        have h3 := g'.cell (fun h => h) h3
        have k0 := g'.cell (fun h => h) k0
        have k1 := g'.cell (fun h => h) k1
        have k2 := g'.cell (fun h => h) k2
        have k3 := g'.cell (fun h => h) k3
        clear g' tv GC
        go_simp
        refine hK.out _ _ ⟨h0, h1, h2, h3, k0, k1, k2, k3⟩ (fun hHeld => ?_)
        clear hK K
        try simp only [Act.put, List.getElem_toArray, List.getElem_cons_zero, List.getElem_cons_succ, List.setIfInBounds_toArray, List.set_cons_zero, List.set_cons_succ]
        refine wpAnyH_ready (rs := [3, 9]) (by kernel_rfl) (by simp) ?_
        refine AllReadyH.cons (i := 3) (o := _) rfl (fun K hK => ?_) ?_
        · go_simp
          have GC : Hid (Chg (fun _ => False) wb v1) := hide (GW.out)
          refine (to06_any (y0, y1, y2, y3) OKY.out _ (fun x => x < wb.heap.size) v1 (fun x hx => Nat.lt_of_lt_of_le hx GC.out.size) (TYb.out.chg GC.out (fun _ _ h => h))).mono ?_
          rintro e v2 ⟨⟨v', rfl, tv⟩, g'⟩
          obtain ⟨sa, sc, sd, se, rfl, _, _⟩ := id tv
          dsimp only [Tm.bs, Tm.kd, Tm.ix, Tm.ag]
          have TVT := hide (TVT.out.chg g' (fun _ _ h => h))
          have GW : Hid (Chg (fun _ => False) wb v2) := hide (GC.out.trans g')
          have TVY : Hid (TV v2 (fun x => v1.heap.size ≤ x ∧ x < v2.heap.size) (.agg #[.slice sa y0.len sc, .int .i64 y1, .int .i64 y2, .slice sd y3.len se]) (y0, y1, y2, y3)) := hide tv
          have S2 : Hid (v1.heap.size ≤ v2.heap.size) := hide g'.size
          have h0 := g'.cell (fun h => h) h0
          have h1 := g'.cell (fun h => h) h1
          have h2 := g'.cell (fun h => h) h2
          have h3 := g'.cell (fun h => h) h3
          have k0 := g'.cell (fun h => h) k0
          have k1 := g'.cell (fun h => h) k1
          have k2 := g'.cell (fun h => h) k2
          have k3 := g'.cell (fun h => h) k3
          clear g' tv GC
          go_simp
          refine hK.out _ _ ⟨h0, h1, h2, h3, k0, k1, k2, k3⟩ (fun hHeld => ?_)
          clear hK K
          try simp only [Act.put, List.getElem_toArray, List.getElem_cons_zero, List.getElem_cons_succ, List.setIfInBounds_toArray, List.set_cons_zero, List.set_cons_succ]
          refine wpAnyH_ready (rs := [5, 9]) (by kernel_rfl) (by simp) ?_
          refine AllReadyH.cons (i := 5) (o := _) rfl (fun K hK => ?_) ?_
          · go_simp
            have GC : Hid (Chg (fun _ => False) wb v2) := hide (GW.out)
            refine (replace_any (t0, t1, t2, t3) (y0, y1, y2, y3) p _ _ _ (fun x => (wb.drew.heap.size ≤ x ∧ x < v1.heap.size) ∨ (v1.heap.size ≤ x ∧ x < v2.heap.size)) v2 OKT.out ZOK.out (fun x hx => by have := S1.out; have := S2.out; rcases hx with hx | hx <;> omega) (TVT.out.up (fun x hx => Or.inl hx)) (TVY.out.up (fun x hx => Or.inr hx)) (IPb.out.all GC.out)).mono ?_
            rintro e v3 ⟨⟨v', rfl, tv⟩, g'⟩
            rw [HRP.out] at tv
            rw [HEV.out]
            obtain ⟨xa, xc, xd, xe, rfl, _, _⟩ := id tv
            dsimp only [Tm.bs, Tm.kd, Tm.ix, Tm.ag]
            have GW : Hid (Chg (fun _ => False) wb v3) := hide (GC.out.trans g')
            have TVR : Hid (TV v3 (fun x => ((wb.drew.heap.size ≤ x ∧ x < v1.heap.size) ∨ (v1.heap.size ≤ x ∧ x < v2.heap.size)) ∨ (v2.heap.size ≤ x ∧ x < v3.heap.size)) (.agg #[.slice xa (RP.getD (.nil, 0, 0, .nil)).1.len xc, .int .i64 (RP.getD (.nil, 0, 0, .nil)).2.1, .int .i64 (RP.getD (.nil, 0, 0, .nil)).2.2.1, .slice xd (RP.getD (.nil, 0, 0, .nil)).2.2.2.len xe]) (RP.getD (.nil, 0, 0, .nil))) := hide tv
            have S3 : Hid (v2.heap.size ≤ v3.heap.size) := hide g'.size
            have h0 := g'.cell (fun h => h) h0
            have h1 := g'.cell (fun h => h) h1
            have h2 := g'.cell (fun h => h) h2
            have h3 := g'.cell (fun h => h) h3
            have k0 := g'.cell (fun h => h) k0
            have k1 := g'.cell (fun h => h) k1
            have k2 := g'.cell (fun h => h) k2
            have k3 := g'.cell (fun h => h) k3
            clear g' tv GC
            go_simp
            refine hK.out _ _ ⟨h0, h1, h2, h3, k0, k1, k2, k3⟩ (fun hHeld => ?_)
            clear hK K
            try simp only [Act.put, List.getElem_toArray, List.getElem_cons_zero, List.getElem_cons_succ, List.setIfInBounds_toArray, List.set_cons_zero, List.set_cons_succ]
            first
              | (refine wpAnyH_take (i := 6) (v := undef) rfl (by kernel_rfl) (by kernel_rfl) (by kernel_rfl) (fun _ _ _ h => h) (Or.inr ⟨by rfl, rfl⟩) (by assumption) ?_)
              | (refine wpAnyH_take (i := 6) (v := ?_) rfl (by kernel_rfl) (by kernel_rfl) (by kernel_rfl) (fun _ _ _ h => h) (Or.inl ⟨by rfl, ?_⟩) (by assumption) ?_
                 rotate_left
                 (intro w hSw
                  (try dsimp only at hSw)
                  (go_simp <;> with_reducible rfl)))
            try simp only [Act.put, List.getElem_toArray, List.getElem_cons_zero, List.getElem_cons_succ, List.setIfInBounds_toArray, List.set_cons_zero, List.set_cons_succ]
            first
              | (refine wpAnyH_take (i := 7) (v := undef) rfl (by kernel_rfl) (by kernel_rfl) (by kernel_rfl) (fun _ _ _ h => h) (Or.inr ⟨by rfl, rfl⟩) (by assumption) ?_)
              | (refine wpAnyH_take (i := 7) (v := ?_) rfl (by kernel_rfl) (by kernel_rfl) (by kernel_rfl) (fun _ _ _ h => h) (Or.inl ⟨by rfl, ?_⟩) (by assumption) ?_
                 rotate_left
                 (intro w hSw
                  (try dsimp only at hSw)
                  (go_simp <;> with_reducible rfl)))
            try simp only [Act.put, List.getElem_toArray, List.getElem_cons_zero, List.getElem_cons_succ, List.setIfInBounds_toArray, List.set_cons_zero, List.set_cons_succ]
            first
              | (refine wpAnyH_take (i := 8) (v := undef) rfl (by kernel_rfl) (by kernel_rfl) (by kernel_rfl) (fun _ _ _ h => h) (Or.inr ⟨by rfl, rfl⟩) (by assumption) ?_)
              | (refine wpAnyH_take (i := 8) (v := ?_) rfl (by kernel_rfl) (by kernel_rfl) (by kernel_rfl) (fun _ _ _ h => h) (Or.inl ⟨by rfl, ?_⟩) (by assumption) ?_
                 rotate_left
                 (intro w hSw
                  (try dsimp only at hSw)
                  (go_simp <;> with_reducible rfl)))
            try simp only [Act.put, List.getElem_toArray, List.getElem_cons_zero, List.getElem_cons_succ, List.setIfInBounds_toArray, List.set_cons_zero, List.set_cons_succ]
            refine wpAnyH_ready (rs := [9]) (by kernel_rfl) (by simp) ?_
            refine AllReadyH.cons (i := 9) (o := _) rfl (fun K hK => ?_) ?_
            rotate_left
            · exact AllReadyH.nil
            go_simp
            have GC : Hid (Chg (fun _ => False) wb v3) := hide (GW.out)
            have GA := (al v3 (.cells #[.slice none 0 0, .int .i64 0, .int .i64 0, .slice none 0 0] 35))
            have BO : Hid ((v3.alloc (.cells #[.slice none 0 0, .int .i64 0, .int .i64 0, .slice none 0 0] 35)).heap[v3.heap.size]? = some (.cells #[.slice none 0 0, .int .i64 0, .int .i64 0, .slice none 0 0] 35)) := hide (blk_new v3 (.cells #[.slice none 0 0, .int .i64 0, .int .i64 0, .slice none 0 0] 35))
            have S4 : Hid (v3.heap.size < (v3.alloc (.cells #[.slice none 0 0, .int .i64 0, .int .i64 0, .slice none 0 0] 35)).heap.size) := hide (blk_lt BO.out)
            have h0 := GA.cell (fun h => h) h0
            have h1 := GA.cell (fun h => h) h1
            have h2 := GA.cell (fun h => h) h2
            have h3 := GA.cell (fun h => h) h3
            have k0 := GA.cell (fun h => h) k0
            have k1 := GA.cell (fun h => h) k1
            have k2 := GA.cell (fun h => h) k2
            have k3 := GA.cell (fun h => h) k3
            have GW : Hid (Chg (fun _ => False) wb (v3.alloc (.cells #[.slice none 0 0, .int .i64 0, .int .i64 0, .slice none 0 0] 35))) := hide (GC.out.trans GA)
            have TVR := hide (TVR.out.chg GA (fun _ _ h => h))
            clear GA GC
            go_simp
            refine hK.out _ _ ⟨h0, h1, h2, h3, k0, k1, k2, k3⟩ (fun hHeld => ?_)
            clear hK K
            try simp only [Act.put, List.getElem_toArray, List.getElem_cons_zero, List.getElem_cons_succ, List.setIfInBounds_toArray, List.set_cons_zero, List.set_cons_succ]
            obtain ⟨O, hO⟩ : ∃ O, v3.heap.size = O := ⟨_, rfl⟩
            rw [hO] at BO ⊢
            have HOO := hide hO
            clear hO
            generalize (v3.alloc (.cells #[.slice none 0 0, .int .i64 0, .int .i64 0, .slice none 0 0] 35)) = v4 at *
            have HNO : Hid (P < O ∧ Q < O ∧ wb.heap.size ≤ O) := hide (by have h := HOO.out; have := HP.out; have := HQb.out; have h5 : wb.drew.heap.size = wb.heap.size := rfl; have := S1.out; have := S2.out; have := S3.out; have := S4.out; first | omega | (have h2 : wb.heap.size = O := h; omega))
            have TLT : Hid (∀ x, (((wb.drew.heap.size ≤ x ∧ x < v1.heap.size) ∨ (v1.heap.size ≤ x ∧ x < v2.heap.size)) ∨ (v2.heap.size ≤ x ∧ x < v3.heap.size)) → x < v4.heap.size ∧ ¬ x = O ∧ x ≠ Q) := hide (fun x hx => by have h := HOO.out; have := HQb.out; have h5 : wb.drew.heap.size = wb.heap.size := rfl; have := S1.out; have := S2.out; have := S3.out; have := S4.out; first | (rcases hx with (hx | hx) | hx <;> omega) | (have h2 : wb.heap.size = O := h; have h3 : wb.drew.heap.size = wb.heap.size := rfl; rcases hx with (hx | hx) | hx <;> omega))
            refine wpAnyH_ready (rs := [10]) (by kernel_rfl) (by simp) ?_
            refine AllReadyH.cons (i := 10) (o := _) rfl (fun K hK => ?_) ?_
            rotate_left
            · exact AllReadyH.nil
            have bb0 := blk_cell BO.out 0
            have fb0 := blk_free BO.out 0
            have bb1 := blk_cell BO.out 1
            have fb1 := blk_free BO.out 1
            have bb2 := blk_cell BO.out 2
            have fb2 := blk_free BO.out 2
            have bb3 := blk_cell BO.out 3
            have fb3 := blk_free BO.out 3
            simp only [List.getElem?_toArray, List.getElem?_cons_zero, List.getElem?_cons_succ] at bb0 bb1 bb2 bb3
            have NS : Hid (((((v4.setCell ⟨O, 0, none⟩ (.slice xa (RP.getD (.nil, 0, 0, .nil)).1.len xc)).setCell ⟨O, 1, none⟩ (.int .i64 (RP.getD (.nil, 0, 0, .nil)).2.1)).setCell ⟨O, 2, none⟩ (.int .i64 (RP.getD (.nil, 0, 0, .nil)).2.2.1)).setCell ⟨O, 3, none⟩ (.slice xd (RP.getD (.nil, 0, 0, .nil)).2.2.2.len xe)).heap[O]? = some (.cells #[.slice xa (RP.getD (.nil, 0, 0, .nil)).1.len xc, .int .i64 (RP.getD (.nil, 0, 0, .nil)).2.1, .int .i64 (RP.getD (.nil, 0, 0, .nil)).2.2.1, .slice xd (RP.getD (.nil, 0, 0, .nil)).2.2.2.len xe] 35) ∧ Chg (fun x => x = O) v4 ((((v4.setCell ⟨O, 0, none⟩ (.slice xa (RP.getD (.nil, 0, 0, .nil)).1.len xc)).setCell ⟨O, 1, none⟩ (.int .i64 (RP.getD (.nil, 0, 0, .nil)).2.1)).setCell ⟨O, 2, none⟩ (.int .i64 (RP.getD (.nil, 0, 0, .nil)).2.2.1)).setCell ⟨O, 3, none⟩ (.slice xd (RP.getD (.nil, 0, 0, .nil)).2.2.2.len xe))) := hide ⟨(blk_set (blk_set (blk_set (blk_set BO.out 0 (.slice xa (RP.getD (.nil, 0, 0, .nil)).1.len xc)) 1 (.int .i64 (RP.getD (.nil, 0, 0, .nil)).2.1)) 2 (.int .i64 (RP.getD (.nil, 0, 0, .nil)).2.2.1)) 3 (.slice xd (RP.getD (.nil, 0, 0, .nil)).2.2.2.len xe)), ((((Chg.set v4 O 0 (.slice xa (RP.getD (.nil, 0, 0, .nil)).1.len xc)).trans (Chg.set (v4.setCell ⟨O, 0, none⟩ (.slice xa (RP.getD (.nil, 0, 0, .nil)).1.len xc)) O 1 (.int .i64 (RP.getD (.nil, 0, 0, .nil)).2.1))).trans (Chg.set ((v4.setCell ⟨O, 0, none⟩ (.slice xa (RP.getD (.nil, 0, 0, .nil)).1.len xc)).setCell ⟨O, 1, none⟩ (.int .i64 (RP.getD (.nil, 0, 0, .nil)).2.1)) O 2 (.int .i64 (RP.getD (.nil, 0, 0, .nil)).2.2.1))).trans (Chg.set (((v4.setCell ⟨O, 0, none⟩ (.slice xa (RP.getD (.nil, 0, 0, .nil)).1.len xc)).setCell ⟨O, 1, none⟩ (.int .i64 (RP.getD (.nil, 0, 0, .nil)).2.1)).setCell ⟨O, 2, none⟩ (.int .i64 (RP.getD (.nil, 0, 0, .nil)).2.2.1)) O 3 (.slice xd (RP.getD (.nil, 0, 0, .nil)).2.2.2.len xe)))⟩
            go_simp
            refine hK.out _ _ ⟨NS.out.2.cell (by have := HNO.out; omega) h0, NS.out.2.cell (by have := HNO.out; omega) h1, NS.out.2.cell (by have := HNO.out; omega) h2, NS.out.2.cell (by have := HNO.out; omega) h3, NS.out.2.cell (by have := HNO.out; omega) k0, NS.out.2.cell (by have := HNO.out; omega) k1, NS.out.2.cell (by have := HNO.out; omega) k2, NS.out.2.cell (by have := HNO.out; omega) k3⟩ (fun hHeld => ?_)
            clear hK K
            try simp only [Act.put, List.getElem_toArray, List.getElem_cons_zero, List.getElem_cons_succ, List.setIfInBounds_toArray, List.set_cons_zero, List.set_cons_succ]
            first
              | (refine wpAnyH_take (i := 11) (v := undef) rfl (by kernel_rfl) (by kernel_rfl) (by kernel_rfl) (fun _ _ _ h => h) (Or.inr ⟨by rfl, rfl⟩) (by assumption) ?_)
              | (refine wpAnyH_take (i := 11) (v := ?_) rfl (by kernel_rfl) (by kernel_rfl) (by kernel_rfl) (fun _ _ _ h => h) (Or.inl ⟨by rfl, ?_⟩) (by assumption) ?_
                 rotate_left
                 (intro w hSw
                  (try dsimp only at hSw)
                  (go_simp <;> with_reducible rfl)))
            try simp only [Act.put, List.getElem_toArray, List.getElem_cons_zero, List.getElem_cons_succ, List.setIfInBounds_toArray, List.set_cons_zero, List.set_cons_succ]
            refine wpAnyH_done (by kernel_rfl) ?_ _
            go_wp2_with fail
            go_meet
            exact ⟨O, xa, xc, xd, xe, rfl, rfl, hide NS.out.1, hide ((TVR.out.chg NS.out.2 (fun x hx e => (TLT.out x hx).2.1 e)).up (fun x hx => ⟨Nat.lt_of_lt_of_le (TLT.out x hx).1 NS.out.2.size, (TLT.out x hx).2.2⟩)), hide ⟨((GW.out.none (S := fun x => x = O)).trans NS.out.2).mono (fun x hx e => by have := HNO.out; omega), by have := HNO.out; omega⟩⟩
          refine AllReadyH.cons (i := 9) (o := _) rfl (fun K hK => ?_) ?_
          rotate_left
          · exact AllReadyH.nil
          go_simp
          have GC : Hid (Chg (fun _ => False) wb v2) := hide (GW.out)
          have GA := (al v2 (.cells #[.slice none 0 0, .int .i64 0, .int .i64 0, .slice none 0 0] 35))
          have BO : Hid ((v2.alloc (.cells #[.slice none 0 0, .int .i64 0, .int .i64 0, .slice none 0 0] 35)).heap[v2.heap.size]? = some (.cells #[.slice none 0 0, .int .i64 0, .int .i64 0, .slice none 0 0] 35)) := hide (blk_new v2 (.cells #[.slice none 0 0, .int .i64 0, .int .i64 0, .slice none 0 0] 35))
          have S3 : Hid (v2.heap.size < (v2.alloc (.cells #[.slice none 0 0, .int .i64 0, .int .i64 0, .slice none 0 0] 35)).heap.size) := hide (blk_lt BO.out)
          have h0 := GA.cell (fun h => h) h0
          have h1 := GA.cell (fun h => h) h1
          have h2 := GA.cell (fun h => h) h2
          have h3 := GA.cell (fun h => h) h3
          have k0 := GA.cell (fun h => h) k0
          have k1 := GA.cell (fun h => h) k1
          have k2 := GA.cell (fun h => h) k2
          have k3 := GA.cell (fun h => h) k3
          have GW : Hid (Chg (fun _ => False) wb (v2.alloc (.cells #[.slice none 0 0, .int .i64 0, .int .i64 0, .slice none 0 0] 35))) := hide (GC.out.trans GA)
          have TVT := hide (TVT.out.chg GA (fun _ _ h => h))
          have TVY := hide (TVY.out.chg GA (fun _ _ h => h))
          clear GA GC
          go_simp
          refine hK.out _ _ ⟨h0, h1, h2, h3, k0, k1, k2, k3⟩ (fun hHeld => ?_)
          clear hK K
          try simp only [Act.put, List.getElem_toArray, List.getElem_cons_zero, List.getElem_cons_succ, List.setIfInBounds_toArray, List.set_cons_zero, List.set_cons_succ]
          obtain ⟨O, hO⟩ : ∃ O, v2.heap.size = O := ⟨_, rfl⟩
          rw [hO] at BO ⊢
          have HOO := hide hO
          clear hO
          generalize (v2.alloc (.cells #[.slice none 0 0, .int .i64 0, .int .i64 0, .slice none 0 0] 35)) = v3 at *
          refine wpAnyH_ready (rs := [5]) (by kernel_rfl) (by simp) ?_
          refine AllReadyH.cons (i := 5) (o := _) rfl (fun K hK => ?_) ?_
          rotate_left
          · exact AllReadyH.nil
          go_simp
          have GC : Hid (Chg (fun _ => False) wb v3) := hide (GW.out)
          refine (replace_any (t0, t1, t2, t3) (y0, y1, y2, y3) p _ _ _ (fun x => (wb.drew.heap.size ≤ x ∧ x < v1.heap.size) ∨ (v1.heap.size ≤ x ∧ x < v2.heap.size)) v3 OKT.out ZOK.out (fun x hx => by have := S1.out; have := S2.out; have := S3.out; rcases hx with hx | hx <;> omega) (TVT.out.up (fun x hx => Or.inl hx)) (TVY.out.up (fun x hx => Or.inr hx)) (IPb.out.all GC.out)).mono ?_
          rintro e v4 ⟨⟨v', rfl, tv⟩, g'⟩
          rw [HRP.out] at tv
          rw [HEV.out]
          obtain ⟨xa, xc, xd, xe, rfl, _, _⟩ := id tv
          dsimp only [Tm.bs, Tm.kd, Tm.ix, Tm.ag]
          have BO := hide (g'.blk (fun h => h) BO.out)
          have GW : Hid (Chg (fun _ => False) wb v4) := hide (GC.out.trans g')
          have TVR : Hid (TV v4 (fun x => ((wb.drew.heap.size ≤ x ∧ x < v1.heap.size) ∨ (v1.heap.size ≤ x ∧ x < v2.heap.size)) ∨ (v3.heap.size ≤ x ∧ x < v4.heap.size)) (.agg #[.slice xa (RP.getD (.nil, 0, 0, .nil)).1.len xc, .int .i64 (RP.getD (.nil, 0, 0, .nil)).2.1, .int .i64 (RP.getD (.nil, 0, 0, .nil)).2.2.1, .slice xd (RP.getD (.nil, 0, 0, .nil)).2.2.2.len xe]) (RP.getD (.nil, 0, 0, .nil))) := hide tv
          have S4 : Hid (v3.heap.size ≤ v4.heap.size) := hide g'.size
          have h0 := g'.cell (fun h => h) h0
          have h1 := g'.cell (fun h => h) h1
          have h2 := g'.cell (fun h => h) h2
          have h3 := g'.cell (fun h => h) h3
          have k0 := g'.cell (fun h => h) k0
          have k1 := g'.cell (fun h => h) k1
          have k2 := g'.cell (fun h => h) k2
          have k3 := g'.cell (fun h => h) k3
          clear g' tv GC
          go_simp
          refine hK.out _ _ ⟨h0, h1, h2, h3, k0, k1, k2, k3⟩ (fun hHeld => ?_)
          clear hK K
          try simp only [Act.put, List.getElem_toArray, List.getElem_cons_zero, List.getElem_cons_succ, List.setIfInBounds_toArray, List.set_cons_zero, List.set_cons_succ]
          first
            | (refine wpAnyH_take (i := 6) (v := undef) rfl (by kernel_rfl) (by kernel_rfl) (by kernel_rfl) (fun _ _ _ h => h) (Or.inr ⟨by rfl, rfl⟩) (by assumption) ?_)
            | (refine wpAnyH_take (i := 6) (v := ?_) rfl (by kernel_rfl) (by kernel_rfl) (by kernel_rfl) (fun _ _ _ h => h) (Or.inl ⟨by rfl, ?_⟩) (by assumption) ?_
               rotate_left
               (intro w hSw
                (try dsimp only at hSw)
                (go_simp <;> with_reducible rfl)))
          try simp only [Act.put, List.getElem_toArray, List.getElem_cons_zero, List.getElem_cons_succ, List.setIfInBounds_toArray, List.set_cons_zero, List.set_cons_succ]
          first
            | (refine wpAnyH_take (i := 7) (v := undef) rfl (by kernel_rfl) (by kernel_rfl) (by kernel_rfl) (fun _ _ _ h => h) (Or.inr ⟨by rfl, rfl⟩) (by assumption) ?_)
            | (refine wpAnyH_take (i := 7) (v := ?_) rfl (by kernel_rfl) (by kernel_rfl) (by kernel_rfl) (fun _ _ _ h => h) (Or.inl ⟨by rfl, ?_⟩) (by assumption) ?_
               rotate_left
               (intro w hSw
                (try dsimp only at hSw)
                (go_simp <;> with_reducible rfl)))
          try simp only [Act.put, List.getElem_toArray, List.getElem_cons_zero, List.getElem_cons_succ, List.setIfInBounds_toArray, List.set_cons_zero, List.set_cons_succ]
          first
            | (refine wpAnyH_take (i := 8) (v := undef) rfl (by kernel_rfl) (by kernel_rfl) (by kernel_rfl) (fun _ _ _ h => h) (Or.inr ⟨by rfl, rfl⟩) (by assumption) ?_)
            | (refine wpAnyH_take (i := 8) (v := ?_) rfl (by kernel_rfl) (by kernel_rfl) (by kernel_rfl) (fun _ _ _ h => h) (Or.inl ⟨by rfl, ?_⟩) (by assumption) ?_
               rotate_left
               (intro w hSw
                (try dsimp only at hSw)
                (go_simp <;> with_reducible rfl)))
          try simp only [Act.put, List.getElem_toArray, List.getElem_cons_zero, List.getElem_cons_succ, List.setIfInBounds_toArray, List.set_cons_zero, List.set_cons_succ]
          have HNO : Hid (P < O ∧ Q < O ∧ wb.heap.size ≤ O) := hide (by have h := HOO.out; have := HP.out; have := HQb.out; have h5 : wb.drew.heap.size = wb.heap.size := rfl; have := S1.out; have := S2.out; have := S3.out; have := S4.out; first | omega | (have h2 : wb.heap.size = O := h; omega))
          have TLT : Hid (∀ x, (((wb.drew.heap.size ≤ x ∧ x < v1.heap.size) ∨ (v1.heap.size ≤ x ∧ x < v2.heap.size)) ∨ (v3.heap.size ≤ x ∧ x < v4.heap.size)) → x < v4.heap.size ∧ ¬ x = O ∧ x ≠ Q) := hide (fun x hx => by have h := HOO.out; have := HQb.out; have h5 : wb.drew.heap.size = wb.heap.size := rfl; have := S1.out; have := S2.out; have := S3.out; have := S4.out; first | (rcases hx with (hx | hx) | hx <;> omega) | (have h2 : wb.heap.size = O := h; have h3 : wb.drew.heap.size = wb.heap.size := rfl; rcases hx with (hx | hx) | hx <;> omega))
          refine wpAnyH_ready (rs := [10]) (by kernel_rfl) (by simp) ?_
          refine AllReadyH.cons (i := 10) (o := _) rfl (fun K hK => ?_) ?_
          rotate_left
          · exact AllReadyH.nil
          have bb0 := blk_cell BO.out 0
          have fb0 := blk_free BO.out 0
          have bb1 := blk_cell BO.out 1
          have fb1 := blk_free BO.out 1
          have bb2 := blk_cell BO.out 2
          have fb2 := blk_free BO.out 2
          have bb3 := blk_cell BO.out 3
          have fb3 := blk_free BO.out 3
          simp only [List.getElem?_toArray, List.getElem?_cons_zero, List.getElem?_cons_succ] at bb0 bb1 bb2 bb3
          have NS : Hid (((((v4.setCell ⟨O, 0, none⟩ (.slice xa (RP.getD (.nil, 0, 0, .nil)).1.len xc)).setCell ⟨O, 1, none⟩ (.int .i64 (RP.getD (.nil, 0, 0, .nil)).2.1)).setCell ⟨O, 2, none⟩ (.int .i64 (RP.getD (.nil, 0, 0, .nil)).2.2.1)).setCell ⟨O, 3, none⟩ (.slice xd (RP.getD (.nil, 0, 0, .nil)).2.2.2.len xe)).heap[O]? = some (.cells #[.slice xa (RP.getD (.nil, 0, 0, .nil)).1.len xc, .int .i64 (RP.getD (.nil, 0, 0, .nil)).2.1, .int .i64 (RP.getD (.nil, 0, 0, .nil)).2.2.1, .slice xd (RP.getD (.nil, 0, 0, .nil)).2.2.2.len xe] 35) ∧ Chg (fun x => x = O) v4 ((((v4.setCell ⟨O, 0, none⟩ (.slice xa (RP.getD (.nil, 0, 0, .nil)).1.len xc)).setCell ⟨O, 1, none⟩ (.int .i64 (RP.getD (.nil, 0, 0, .nil)).2.1)).setCell ⟨O, 2, none⟩ (.int .i64 (RP.getD (.nil, 0, 0, .nil)).2.2.1)).setCell ⟨O, 3, none⟩ (.slice xd (RP.getD (.nil, 0, 0, .nil)).2.2.2.len xe))) := hide ⟨(blk_set (blk_set (blk_set (blk_set BO.out 0 (.slice xa (RP.getD (.nil, 0, 0, .nil)).1.len xc)) 1 (.int .i64 (RP.getD (.nil, 0, 0, .nil)).2.1)) 2 (.int .i64 (RP.getD (.nil, 0, 0, .nil)).2.2.1)) 3 (.slice xd (RP.getD (.nil, 0, 0, .nil)).2.2.2.len xe)), ((((Chg.set v4 O 0 (.slice xa (RP.getD (.nil, 0, 0, .nil)).1.len xc)).trans (Chg.set (v4.setCell ⟨O, 0, none⟩ (.slice xa (RP.getD (.nil, 0, 0, .nil)).1.len xc)) O 1 (.int .i64 (RP.getD (.nil, 0, 0, .nil)).2.1))).trans (Chg.set ((v4.setCell ⟨O, 0, none⟩ (.slice xa (RP.getD (.nil, 0, 0, .nil)).1.len xc)).setCell ⟨O, 1, none⟩ (.int .i64 (RP.getD (.nil, 0, 0, .nil)).2.1)) O 2 (.int .i64 (RP.getD (.nil, 0, 0, .nil)).2.2.1))).trans (Chg.set (((v4.setCell ⟨O, 0, none⟩ (.slice xa (RP.getD (.nil, 0, 0, .nil)).1.len xc)).setCell ⟨O, 1, none⟩ (.int .i64 (RP.getD (.nil, 0, 0, .nil)).2.1)).setCell ⟨O, 2, none⟩ (.int .i64 (RP.getD (.nil, 0, 0, .nil)).2.2.1)) O 3 (.slice xd (RP.getD (.nil, 0, 0, .nil)).2.2.2.len xe)))⟩
          go_simp
          refine hK.out _ _ ⟨NS.out.2.cell (by have := HNO.out; omega) h0, NS.out.2.cell (by have := HNO.out; omega) h1, NS.out.2.cell (by have := HNO.out; omega) h2, NS.out.2.cell (by have := HNO.out; omega) h3, NS.out.2.cell (by have := HNO.out; omega) k0, NS.out.2.cell (by have := HNO.out; omega) k1, NS.out.2.cell (by have := HNO.out; omega) k2, NS.out.2.cell (by have := HNO.out; omega) k3⟩ (fun hHeld => ?_)
          clear hK K
          try simp only [Act.put, List.getElem_toArray, List.getElem_cons_zero, List.getElem_cons_succ, List.setIfInBounds_toArray, List.set_cons_zero, List.set_cons_succ]
          first
            | (refine wpAnyH_take (i := 11) (v := undef) rfl (by kernel_rfl) (by kernel_rfl) (by kernel_rfl) (fun _ _ _ h => h) (Or.inr ⟨by rfl, rfl⟩) (by assumption) ?_)
            | (refine wpAnyH_take (i := 11) (v := ?_) rfl (by kernel_rfl) (by kernel_rfl) (by kernel_rfl) (fun _ _ _ h => h) (Or.inl ⟨by rfl, ?_⟩) (by assumption) ?_
               rotate_left
               (intro w hSw
                (try dsimp only at hSw)
                (go_simp <;> with_reducible rfl)))
          try simp only [Act.put, List.getElem_toArray, List.getElem_cons_zero, List.getElem_cons_succ, List.setIfInBounds_toArray, List.set_cons_zero, List.set_cons_succ]
          refine wpAnyH_done (by kernel_rfl) ?_ _
          go_wp2_with fail
          go_meet
          exact ⟨O, xa, xc, xd, xe, rfl, rfl, hide NS.out.1, hide ((TVR.out.chg NS.out.2 (fun x hx e => (TLT.out x hx).2.1 e)).up (fun x hx => ⟨Nat.lt_of_lt_of_le (TLT.out x hx).1 NS.out.2.size, (TLT.out x hx).2.2⟩)), hide ⟨((GW.out.none (S := fun x => x = O)).trans NS.out.2).mono (fun x hx e => by have := HNO.out; omega), by have := HNO.out; omega⟩⟩
        refine AllReadyH.cons (i := 9) (o := _) rfl (fun K hK => ?_) ?_
        rotate_left
        · exact AllReadyH.nil
        go_simp
        have GC : Hid (Chg (fun _ => False) wb v1) := hide (GW.out)
        have GA := (al v1 (.cells #[.slice none 0 0, .int .i64 0, .int .i64 0, .slice none 0 0] 35))
        have BO : Hid ((v1.alloc (.cells #[.slice none 0 0, .int .i64 0, .int .i64 0, .slice none 0 0] 35)).heap[v1.heap.size]? = some (.cells #[.slice none 0 0, .int .i64 0, .int .i64 0, .slice none 0 0] 35)) := hide (blk_new v1 (.cells #[.slice none 0 0, .int .i64 0, .int .i64 0, .slice none 0 0] 35))
        have S2 : Hid (v1.heap.size < (v1.alloc (.cells #[.slice none 0 0, .int .i64 0, .int .i64 0, .slice none 0 0] 35)).heap.size) := hide (blk_lt BO.out)
        have h0 := GA.cell (fun h => h) h0
        have h1 := GA.cell (fun h => h) h1
        have h2 := GA.cell (fun h => h) h2
        have h3 := GA.cell (fun h => h) h3
        have k0 := GA.cell (fun h => h) k0
        have k1 := GA.cell (fun h => h) k1
        have k2 := GA.cell (fun h => h) k2
        have k3 := GA.cell (fun h => h) k3
        have GW : Hid (Chg (fun _ => False) wb (v1.alloc (.cells #[.slice none 0 0, .int .i64 0, .int .i64 0, .slice none 0 0] 35))) := hide (GC.out.trans GA)
        have TVT := hide (TVT.out.chg GA (fun _ _ h => h))
        clear GA GC
        go_simp
        refine hK.out _ _ ⟨h0, h1, h2, h3, k0, k1, k2, k3⟩ (fun hHeld => ?_)
        clear hK K
        try simp only [Act.put, List.getElem_toArray, List.getElem_cons_zero, List.getElem_cons_succ, List.setIfInBounds_toArray, List.set_cons_zero, List.set_cons_succ]
        obtain ⟨O, hO⟩ : ∃ O, v1.heap.size = O := ⟨_, rfl⟩
        rw [hO] at BO ⊢
        have HOO := hide hO
        clear hO
        generalize (v1.alloc (.cells #[.slice none 0 0, .int .i64 0, .int .i64 0, .slice none 0 0] 35)) = v2 at *
        refine wpAnyH_ready (rs := [3]) (by kernel_rfl) (by simp) ?_
        refine AllReadyH.cons (i := 3) (o := _) rfl (fun K hK => ?_) ?_
        rotate_left
        · exact AllReadyH.nil
        go_simp
        have GC : Hid (Chg (fun _ => False) wb v2) := hide (GW.out)
        refine (to06_any (y0, y1, y2, y3) OKY.out _ (fun x => x < wb.heap.size) v2 (fun x hx => Nat.lt_of_lt_of_le hx GC.out.size) (TYb.out.chg GC.out (fun _ _ h => h))).mono ?_
        rintro e v3 ⟨⟨v', rfl, tv⟩, g'⟩
        obtain ⟨sa, sc, sd, se, rfl, _, _⟩ := id tv
        dsimp only [Tm.bs, Tm.kd, Tm.ix, Tm.ag]
        have TVT := hide (TVT.out.chg g' (fun _ _ h => h))
        have BO := hide (g'.blk (fun h => h) BO.out)
        have GW : Hid (Chg (fun _ => False) wb v3) := hide (GC.out.trans g')
        have TVY : Hid (TV v3 (fun x => v2.heap.size ≤ x ∧ x < v3.heap.size) (.agg #[.slice sa y0.len sc, .int .i64 y1, .int .i64 y2, .slice sd y3.len se]) (y0, y1, y2, y3)) := hide tv
        have S3 : Hid (v2.heap.size ≤ v3.heap.size) := hide g'.size
        have h0 := g'.cell (fun h => h) h0
        have h1 := g'.cell (fun h => h) h1
        have h2 := g'.cell (fun h => h) h2
        have h3 := g'.cell (fun h => h) h3
        have k0 := g'.cell (fun h => h) k0
        have k1 := g'.cell (fun h => h) k1
        have k2 := g'.cell (fun h => h) k2
        have k3 := g'.cell (fun h => h) k3
        clear g' tv GC
        go_simp
        refine hK.out _ _ ⟨h0, h1, h2, h3, k0, k1, k2, k3⟩ (fun hHeld => ?_)
        clear hK K
        try simp only [Act.put, List.getElem_toArray, List.getElem_cons_zero, List.getElem_cons_succ, List.setIfInBounds_toArray, List.set_cons_zero, List.set_cons_succ]
        refine wpAnyH_ready (rs := [5]) (by kernel_rfl) (by simp) ?_
        refine AllReadyH.cons (i := 5) (o := _) rfl (fun K hK => ?_) ?_
        rotate_left
        · exact AllReadyH.nil
        go_simp
        have GC : Hid (Chg (fun _ => False) wb v3) := hide (GW.out)
        refine (replace_any (t0, t1, t2, t3) (y0, y1, y2, y3) p _ _ _ (fun x => (wb.drew.heap.size ≤ x ∧ x < v1.heap.size) ∨ (v2.heap.size ≤ x ∧ x < v3.heap.size)) v3 OKT.out ZOK.out (fun x hx => by have := S1.out; have := S2.out; have := S3.out; rcases hx with hx | hx <;> omega) (TVT.out.up (fun x hx => Or.inl hx)) (TVY.out.up (fun x hx => Or.inr hx)) (IPb.out.all GC.out)).mono ?_
        rintro e v4 ⟨⟨v', rfl, tv⟩, g'⟩
        rw [HRP.out] at tv
        rw [HEV.out]
        obtain ⟨xa, xc, xd, xe, rfl, _, _⟩ := id tv
        dsimp only [Tm.bs, Tm.kd, Tm.ix, Tm.ag]
        have BO := hide (g'.blk (fun h => h) BO.out)
        have GW : Hid (Chg (fun _ => False) wb v4) := hide (GC.out.trans g')
        have TVR : Hid (TV v4 (fun x => ((wb.drew.heap.size ≤ x ∧ x < v1.heap.size) ∨ (v2.heap.size ≤ x ∧ x < v3.heap.size)) ∨ (v3.heap.size ≤ x ∧ x < v4.heap.size)) (.agg #[.slice xa (RP.getD (.nil, 0, 0, .nil)).1.len xc, .int .i64 (RP.getD (.nil, 0, 0, .nil)).2.1, .int .i64 (RP.getD (.nil, 0, 0, .nil)).2.2.1, .slice xd (RP.getD (.nil, 0, 0, .nil)).2.2.2.len xe]) (RP.getD (.nil, 0, 0, .nil))) := hide tv
        have S4 : Hid (v3.heap.size ≤ v4.heap.size) := hide g'.size
        have h0 := g'.cell (fun h => h) h0
        have h1 := g'.cell (fun h => h) h1
        have h2 := g'.cell (fun h => h) h2
        have h3 := g'.cell (fun h => h) h3
        have k0 := g'.cell (fun h => h) k0
        have k1 := g'.cell (fun h => h) k1
        have k2 := g'.cell (fun h => h) k2
        have k3 := g'.cell (fun h => h) k3
        clear g' tv GC
        go_simp
        refine hK.out _ _ ⟨h0, h1, h2, h3, k0, k1, k2, k3⟩ (fun hHeld => ?_)
        clear hK K
        try simp only [Act.put, List.getElem_toArray, List.getElem_cons_zero, List.getElem_cons_succ, List.setIfInBounds_toArray, List.set_cons_zero, List.set_cons_succ]
        first
          | (refine wpAnyH_take (i := 6) (v := undef) rfl (by kernel_rfl) (by kernel_rfl) (by kernel_rfl) (fun _ _ _ h => h) (Or.inr ⟨by rfl, rfl⟩) (by assumption) ?_)
          | (refine wpAnyH_take (i := 6) (v := ?_) rfl (by kernel_rfl) (by kernel_rfl) (by kernel_rfl) (fun _ _ _ h => h) (Or.inl ⟨by rfl, ?_⟩) (by assumption) ?_
             rotate_left
             (intro w hSw
              (try dsimp only at hSw)
              (go_simp <;> with_reducible rfl)))
        try simp only [Act.put, List.getElem_toArray, List.getElem_cons_zero, List.getElem_cons_succ, List.setIfInBounds_toArray, List.set_cons_zero, List.set_cons_succ]
        first
          | (refine wpAnyH_take (i := 7) (v := undef) rfl (by kernel_rfl) (by kernel_rfl) (by kernel_rfl) (fun _ _ _ h => h) (Or.inr ⟨by rfl, rfl⟩) (by assumption) ?_)
          | (refine wpAnyH_take (i := 7) (v := ?_) rfl (by kernel_rfl) (by kernel_rfl) (by kernel_rfl) (fun _ _ _ h => h) (Or.inl ⟨by rfl, ?_⟩) (by assumption) ?_
             rotate_left
             (intro w hSw
              (try dsimp only at hSw)
              (go_simp <;> with_reducible rfl)))
        try simp only [Act.put, List.getElem_toArray, List.getElem_cons_zero, List.getElem_cons_succ, List.setIfInBounds_toArray, List.set_cons_zero, List.set_cons_succ]
        first
          | (refine wpAnyH_take (i := 8) (v := undef) rfl (by kernel_rfl) (by kernel_rfl) (by kernel_rfl) (fun _ _ _ h => h) (Or.inr ⟨by rfl, rfl⟩) (by assumption) ?_)
          | (refine wpAnyH_take (i := 8) (v := ?_) rfl (by kernel_rfl) (by kernel_rfl) (by kernel_rfl) (fun _ _ _ h => h) (Or.inl ⟨by rfl, ?_⟩) (by assumption) ?_
             rotate_left
             (intro w hSw
              (try dsimp only at hSw)
              (go_simp <;> with_reducible rfl)))
        try simp only [Act.put, List.getElem_toArray, List.getElem_cons_zero, List.getElem_cons_succ, List.setIfInBounds_toArray, List.set_cons_zero, List.set_cons_succ]
        have HNO : Hid (P < O ∧ Q < O ∧ wb.heap.size ≤ O) := hide (by have h := HOO.out; have := HP.out; have := HQb.out; have h5 : wb.drew.heap.size = wb.heap.size := rfl; have := S1.out; have := S2.out; have := S3.out; have := S4.out; first | omega | (have h2 : wb.heap.size = O := h; omega))
        have TLT : Hid (∀ x, (((wb.drew.heap.size ≤ x ∧ x < v1.heap.size) ∨ (v2.heap.size ≤ x ∧ x < v3.heap.size)) ∨ (v3.heap.size ≤ x ∧ x < v4.heap.size)) → x < v4.heap.size ∧ ¬ x = O ∧ x ≠ Q) := hide (fun x hx => by have h := HOO.out; have := HQb.out; have h5 : wb.drew.heap.size = wb.heap.size := rfl; have := S1.out; have := S2.out; have := S3.out; have := S4.out; first | (rcases hx with (hx | hx) | hx <;> omega) | (have h2 : wb.heap.size = O := h; have h3 : wb.drew.heap.size = wb.heap.size := rfl; rcases hx with (hx | hx) | hx <;> omega))
        refine wpAnyH_ready (rs := [10]) (by kernel_rfl) (by simp) ?_
        refine AllReadyH.cons (i := 10) (o := _) rfl (fun K hK => ?_) ?_
        rotate_left
        · exact AllReadyH.nil
        have bb0 := blk_cell BO.out 0
        have fb0 := blk_free BO.out 0
        have bb1 := blk_cell BO.out 1
        have fb1 := blk_free BO.out 1
        have bb2 := blk_cell BO.out 2
        have fb2 := blk_free BO.out 2
        have bb3 := blk_cell BO.out 3
        have fb3 := blk_free BO.out 3
        simp only [List.getElem?_toArray, List.getElem?_cons_zero, List.getElem?_cons_succ] at bb0 bb1 bb2 bb3
        have NS : Hid (((((v4.setCell ⟨O, 0, none⟩ (.slice xa (RP.getD (.nil, 0, 0, .nil)).1.len xc)).setCell ⟨O, 1, none⟩ (.int .i64 (RP.getD (.nil, 0, 0, .nil)).2.1)).setCell ⟨O, 2, none⟩ (.int .i64 (RP.getD (.nil, 0, 0, .nil)).2.2.1)).setCell ⟨O, 3, none⟩ (.slice xd (RP.getD (.nil, 0, 0, .nil)).2.2.2.len xe)).heap[O]? = some (.cells #[.slice xa (RP.getD (.nil, 0, 0, .nil)).1.len xc, .int .i64 (RP.getD (.nil, 0, 0, .nil)).2.1, .int .i64 (RP.getD (.nil, 0, 0, .nil)).2.2.1, .slice xd (RP.getD (.nil, 0, 0, .nil)).2.2.2.len xe] 35) ∧ Chg (fun x => x = O) v4 ((((v4.setCell ⟨O, 0, none⟩ (.slice xa (RP.getD (.nil, 0, 0, .nil)).1.len xc)).setCell ⟨O, 1, none⟩ (.int .i64 (RP.getD (.nil, 0, 0, .nil)).2.1)).setCell ⟨O, 2, none⟩ (.int .i64 (RP.getD (.nil, 0, 0, .nil)).2.2.1)).setCell ⟨O, 3, none⟩ (.slice xd (RP.getD (.nil, 0, 0, .nil)).2.2.2.len xe))) := hide ⟨(blk_set (blk_set (blk_set (blk_set BO.out 0 (.slice xa (RP.getD (.nil, 0, 0, .nil)).1.len xc)) 1 (.int .i64 (RP.getD (.nil, 0, 0, .nil)).2.1)) 2 (.int .i64 (RP.getD (.nil, 0, 0, .nil)).2.2.1)) 3 (.slice xd (RP.getD (.nil, 0, 0, .nil)).2.2.2.len xe)), ((((Chg.set v4 O 0 (.slice xa (RP.getD (.nil, 0, 0, .nil)).1.len xc)).trans (Chg.set (v4.setCell ⟨O, 0, none⟩ (.slice xa (RP.getD (.nil, 0, 0, .nil)).1.len xc)) O 1 (.int .i64 (RP.getD (.nil, 0, 0, .nil)).2.1))).trans (Chg.set ((v4.setCell ⟨O, 0, none⟩ (.slice xa (RP.getD (.nil, 0, 0, .nil)).1.len xc)).setCell ⟨O, 1, none⟩ (.int .i64 (RP.getD (.nil, 0, 0, .nil)).2.1)) O 2 (.int .i64 (RP.getD (.nil, 0, 0, .nil)).2.2.1))).trans (Chg.set (((v4.setCell ⟨O, 0, none⟩ (.slice xa (RP.getD (.nil, 0, 0, .nil)).1.len xc)).setCell ⟨O, 1, none⟩ (.int .i64 (RP.getD (.nil, 0, 0, .nil)).2.1)).setCell ⟨O, 2, none⟩ (.int .i64 (RP.getD (.nil, 0, 0, .nil)).2.2.1)) O 3 (.slice xd (RP.getD (.nil, 0, 0, .nil)).2.2.2.len xe)))⟩
        go_simp
        refine hK.out _ _ ⟨NS.out.2.cell (by have := HNO.out; omega) h0, NS.out.2.cell (by have := HNO.out; omega) h1, NS.out.2.cell (by have := HNO.out; omega) h2, NS.out.2.cell (by have := HNO.out; omega) h3, NS.out.2.cell (by have := HNO.out; omega) k0, NS.out.2.cell (by have := HNO.out; omega) k1, NS.out.2.cell (by have := HNO.out; omega) k2, NS.out.2.cell (by have := HNO.out; omega) k3⟩ (fun hHeld => ?_)
        clear hK K
        try simp only [Act.put, List.getElem_toArray, List.getElem_cons_zero, List.getElem_cons_succ, List.setIfInBounds_toArray, List.set_cons_zero, List.set_cons_succ]
        first
          | (refine wpAnyH_take (i := 11) (v := undef) rfl (by kernel_rfl) (by kernel_rfl) (by kernel_rfl) (fun _ _ _ h => h) (Or.inr ⟨by rfl, rfl⟩) (by assumption) ?_)
          | (refine wpAnyH_take (i := 11) (v := ?_) rfl (by kernel_rfl) (by kernel_rfl) (by kernel_rfl) (fun _ _ _ h => h) (Or.inl ⟨by rfl, ?_⟩) (by assumption) ?_
             rotate_left
             (intro w hSw
              (try dsimp only at hSw)
              (go_simp <;> with_reducible rfl)))
        try simp only [Act.put, List.getElem_toArray, List.getElem_cons_zero, List.getElem_cons_succ, List.setIfInBounds_toArray, List.set_cons_zero, List.set_cons_succ]
        refine wpAnyH_done (by kernel_rfl) ?_ _
        go_wp2_with fail
        go_meet
        exact ⟨O, xa, xc, xd, xe, rfl, rfl, hide NS.out.1, hide ((TVR.out.chg NS.out.2 (fun x hx e => (TLT.out x hx).2.1 e)).up (fun x hx => ⟨Nat.lt_of_lt_of_le (TLT.out x hx).1 NS.out.2.size, (TLT.out x hx).2.2⟩)), hide ⟨((GW.out.none (S := fun x => x = O)).trans NS.out.2).mono (fun x hx e => by have := HNO.out; omega), by have := HNO.out; omega⟩⟩
      refine AllReadyH.cons (i := 9) (o := _) rfl (fun K hK => ?_) ?_
      rotate_left
      · exact AllReadyH.nil
      go_simp
      have GC : Hid (Chg (fun _ => False) wb wb.drew) := hide ((Chg.refl (fun _ => False) wb).drew)
      have GA := (al wb (.cells #[.slice none 0 0, .int .i64 0, .int .i64 0, .slice none 0 0] 35)).drew
      have BO : Hid ((wb.alloc (.cells #[.slice none 0 0, .int .i64 0, .int .i64 0, .slice none 0 0] 35)).drew.heap[wb.heap.size]? = some (.cells #[.slice none 0 0, .int .i64 0, .int .i64 0, .slice none 0 0] 35)) := hide (blk_new wb (.cells #[.slice none 0 0, .int .i64 0, .int .i64 0, .slice none 0 0] 35))
      have S1 : Hid (wb.heap.size < (wb.alloc (.cells #[.slice none 0 0, .int .i64 0, .int .i64 0, .slice none 0 0] 35)).drew.heap.size) := hide (blk_lt BO.out)
      have h0 := GA.cell (fun h => h) h0
      have h1 := GA.cell (fun h => h) h1
      have h2 := GA.cell (fun h => h) h2
      have h3 := GA.cell (fun h => h) h3
      have k0 := GA.cell (fun h => h) k0
      have k1 := GA.cell (fun h => h) k1
      have k2 := GA.cell (fun h => h) k2
      have k3 := GA.cell (fun h => h) k3
      have GW : Hid (Chg (fun _ => False) wb (wb.alloc (.cells #[.slice none 0 0, .int .i64 0, .int .i64 0, .slice none 0 0] 35)).drew) := hide GA
      clear GA GC
      go_simp
      refine hK.out _ _ ⟨h0, h1, h2, h3, k0, k1, k2, k3⟩ (fun hHeld => ?_)
      clear hK K
      try simp only [Act.put, List.getElem_toArray, List.getElem_cons_zero, List.getElem_cons_succ, List.setIfInBounds_toArray, List.set_cons_zero, List.set_cons_succ]
      obtain ⟨O, hO⟩ : ∃ O, wb.heap.size = O := ⟨_, rfl⟩
      rw [hO] at BO ⊢
      have HOO := hide hO
      clear hO
      generalize (wb.alloc (.cells #[.slice none 0 0, .int .i64 0, .int .i64 0, .slice none 0 0] 35)).drew = v1 at *
      refine wpAnyH_ready (rs := [1]) (by kernel_rfl) (by simp) ?_
      refine AllReadyH.cons (i := 1) (o := _) rfl (fun K hK => ?_) ?_
      rotate_left
      · exact AllReadyH.nil
      go_simp
      have GC : Hid (Chg (fun _ => False) wb v1) := hide (GW.out)
      refine (to06_any (t0, t1, t2, t3) OKT.out _ (fun x => x < wb.heap.size) v1 (fun x hx => Nat.lt_of_lt_of_le hx GC.out.size) (TTb.out.chg GC.out (fun _ _ h => h))).mono ?_
      rintro e v2 ⟨⟨v', rfl, tv⟩, g'⟩
      obtain ⟨ta, tc, td, te, rfl, _, _⟩ := id tv
      dsimp only [Tm.bs, Tm.kd, Tm.ix, Tm.ag]
      have BO := hide (g'.blk (fun h => h) BO.out)
      have GW : Hid (Chg (fun _ => False) wb v2) := hide (GC.out.trans g')
      have TVT : Hid (TV v2 (fun x => v1.heap.size ≤ x ∧ x < v2.heap.size) (.agg #[.slice ta t0.len tc, .int .i64 t1, .int .i64 t2, .slice td t3.len te]) (t0, t1, t2, t3)) := hide tv
      have S2 : Hid (v1.heap.size ≤ v2.heap.size) := hide g'.size
      have h0 := g'.cell (fun h => h) h0
      have h1 := g'.cell (fun h => h) h1
      have h2 := g'.cell (fun h => h) h2
      have h3 := g'.cell (fun h => h) h3
      have k0 := g'.cell (fun h => h) k0
      have k1 := g'.cell (fun h => h) k1
      have k2 := g'.cell (fun h => h) k2
      have k3 := g'.cell (fun h => h) k3
      clear g' tv GC
      go_simp
      refine hK.out _ _ ⟨h0, h1, h2, h3, k0, k1, k2, k3⟩ (fun hHeld => ?_)
      clear hK K
      try simp only [Act.put, List.getElem_toArray, List.getElem_cons_zero, List.getElem_cons_succ, List.setIfInBounds_toArray, List.set_cons_zero, List.set_cons_succ]
      refine wpAnyH_ready (rs := [3]) (by kernel_rfl) (by simp) ?_
      refine AllReadyH.cons (i := 3) (o := _) rfl (fun K hK => ?_) ?_
      rotate_left
      · exact AllReadyH.nil
      go_simp
      have GC : Hid (Chg (fun _ => False) wb v2) := hide (GW.out)
      refine (to06_any (y0, y1, y2, y3) OKY.out _ (fun x => x < wb.heap.size) v2 (fun x hx => Nat.lt_of_lt_of_le hx GC.out.size) (TYb.out.chg GC.out (fun _ _ h => h))).mono ?_
      rintro e v3 ⟨⟨v', rfl, tv⟩, g'⟩
      obtain ⟨sa, sc, sd, se, rfl, _, _⟩ := id tv
      dsimp only [Tm.bs, Tm.kd, Tm.ix, Tm.ag]
      have TVT := hide (TVT.out.chg g' (fun _ _ h => h))
      have BO := hide (g'.blk (fun h => h) BO.out)
      have GW : Hid (Chg (fun _ => False) wb v3) := hide (GC.out.trans g')
      have TVY : Hid (TV v3 (fun x => v2.heap.size ≤ x ∧ x < v3.heap.size) (.agg #[.slice sa y0.len sc, .int .i64 y1, .int .i64 y2, .slice sd y3.len se]) (y0, y1, y2, y3)) := hide tv
      have S3 : Hid (v2.heap.size ≤ v3.heap.size) := hide g'.size
      have h0 := g'.cell (fun h => h) h0
      have h1 := g'.cell (fun h => h) h1
      have h2 := g'.cell (fun h => h) h2
      have h3 := g'.cell (fun h => h) h3
      have k0 := g'.cell (fun h => h) k0
      have k1 := g'.cell (fun h => h) k1
      have k2 := g'.cell (fun h => h) k2
      have k3 := g'.cell (fun h => h) k3
      clear g' tv GC
      go_simp
      refine hK.out _ _ ⟨h0, h1, h2, h3, k0, k1, k2, k3⟩ (fun hHeld => ?_)
      clear hK K
      try simp only [Act.put, List.getElem_toArray, List.getElem_cons_zero, List.getElem_cons_succ, List.setIfInBounds_toArray, List.set_cons_zero, List.set_cons_succ]
      refine wpAnyH_ready (rs := [5]) (by kernel_rfl) (by simp) ?_
      refine AllReadyH.cons (i := 5) (o := _) rfl (fun K hK => ?_) ?_
      rotate_left
      · exact AllReadyH.nil
      go_simp
      have GC : Hid (Chg (fun _ => False) wb v3) := hide (GW.out)
      refine (replace_any (t0, t1, t2, t3) (y0, y1, y2, y3) p _ _ _ (fun x => (v1.heap.size ≤ x ∧ x < v2.heap.size) ∨ (v2.heap.size ≤ x ∧ x < v3.heap.size)) v3 OKT.out ZOK.out (fun x hx => by have := S1.out; have := S2.out; have := S3.out; rcases hx with hx | hx <;> omega) (TVT.out.up (fun x hx => Or.inl hx)) (TVY.out.up (fun x hx => Or.inr hx)) (IPb.out.all GC.out)).mono ?_
      rintro e v4 ⟨⟨v', rfl, tv⟩, g'⟩
      rw [HRP.out] at tv
      rw [HEV.out]
      obtain ⟨xa, xc, xd, xe, rfl, _, _⟩ := id tv
      dsimp only [Tm.bs, Tm.kd, Tm.ix, Tm.ag]
      have BO := hide (g'.blk (fun h => h) BO.out)
      have GW : Hid (Chg (fun _ => False) wb v4) := hide (GC.out.trans g')
      have TVR : Hid (TV v4 (fun x => ((v1.heap.size ≤ x ∧ x < v2.heap.size) ∨ (v2.heap.size ≤ x ∧ x < v3.heap.size)) ∨ (v3.heap.size ≤ x ∧ x < v4.heap.size)) (.agg #[.slice xa (RP.getD (.nil, 0, 0, .nil)).1.len xc, .int .i64 (RP.getD (.nil, 0, 0, .nil)).2.1, .int .i64 (RP.getD (.nil, 0, 0, .nil)).2.2.1, .slice xd (RP.getD (.nil, 0, 0, .nil)).2.2.2.len xe]) (RP.getD (.nil, 0, 0, .nil))) := hide tv
      have S4 : Hid (v3.heap.size ≤ v4.heap.size) := hide g'.size
      have h0 := g'.cell (fun h => h) h0
      have h1 := g'.cell (fun h => h) h1
      have h2 := g'.cell (fun h => h) h2
      have h3 := g'.cell (fun h => h) h3
      have k0 := g'.cell (fun h => h) k0
      have k1 := g'.cell (fun h => h) k1
      have k2 := g'.cell (fun h => h) k2
      have k3 := g'.cell (fun h => h) k3
      clear g' tv GC
      go_simp
      refine hK.out _ _ ⟨h0, h1, h2, h3, k0, k1, k2, k3⟩ (fun hHeld => ?_)
      clear hK K
      try simp only [Act.put, List.getElem_toArray, List.getElem_cons_zero, List.getElem_cons_succ, List.setIfInBounds_toArray, List.set_cons_zero, List.set_cons_succ]
      first
        | (refine wpAnyH_take (i := 6) (v := undef) rfl (by kernel_rfl) (by kernel_rfl) (by kernel_rfl) (fun _ _ _ h => h) (Or.inr ⟨by rfl, rfl⟩) (by assumption) ?_)
        | (refine wpAnyH_take (i := 6) (v := ?_) rfl (by kernel_rfl) (by kernel_rfl) (by kernel_rfl) (fun _ _ _ h => h) (Or.inl ⟨by rfl, ?_⟩) (by assumption) ?_
           rotate_left
           (intro w hSw
            (try dsimp only at hSw)
            (go_simp <;> with_reducible rfl)))
      try simp only [Act.put, List.getElem_toArray, List.getElem_cons_zero, List.getElem_cons_succ, List.setIfInBounds_toArray, List.set_cons_zero, List.set_cons_succ]
      first
        | (refine wpAnyH_take (i := 7) (v := undef) rfl (by kernel_rfl) (by kernel_rfl) (by kernel_rfl) (fun _ _ _ h => h) (Or.inr ⟨by rfl, rfl⟩) (by assumption) ?_)
        | (refine wpAnyH_take (i := 7) (v := ?_) rfl (by kernel_rfl) (by kernel_rfl) (by kernel_rfl) (fun _ _ _ h => h) (Or.inl ⟨by rfl, ?_⟩) (by assumption) ?_
           rotate_left
           (intro w hSw
            (try dsimp only at hSw)
            (go_simp <;> with_reducible rfl)))
      try simp only [Act.put, List.getElem_toArray, List.getElem_cons_zero, List.getElem_cons_succ, List.setIfInBounds_toArray, List.set_cons_zero, List.set_cons_succ]
      first
        | (refine wpAnyH_take (i := 8) (v := undef) rfl (by kernel_rfl) (by kernel_rfl) (by kernel_rfl) (fun _ _ _ h => h) (Or.inr ⟨by rfl, rfl⟩) (by assumption) ?_)
        | (refine wpAnyH_take (i := 8) (v := ?_) rfl (by kernel_rfl) (by kernel_rfl) (by kernel_rfl) (fun _ _ _ h => h) (Or.inl ⟨by rfl, ?_⟩) (by assumption) ?_
           rotate_left
           (intro w hSw
            (try dsimp only at hSw)
            (go_simp <;> with_reducible rfl)))
      try simp only [Act.put, List.getElem_toArray, List.getElem_cons_zero, List.getElem_cons_succ, List.setIfInBounds_toArray, List.set_cons_zero, List.set_cons_succ]
      have HNO : Hid (P < O ∧ Q < O ∧ wb.heap.size ≤ O) := hide (by have h := HOO.out; have := HP.out; have := HQb.out; have h5 : wb.drew.heap.size = wb.heap.size := rfl; have := S1.out; have := S2.out; have := S3.out; have := S4.out; first | omega | (have h2 : wb.heap.size = O := h; omega))
      have TLT : Hid (∀ x, (((v1.heap.size ≤ x ∧ x < v2.heap.size) ∨ (v2.heap.size ≤ x ∧ x < v3.heap.size)) ∨ (v3.heap.size ≤ x ∧ x < v4.heap.size)) → x < v4.heap.size ∧ ¬ x = O ∧ x ≠ Q) := hide (fun x hx => by have h := HOO.out; have := HQb.out; have h5 : wb.drew.heap.size = wb.heap.size := rfl; have := S1.out; have := S2.out; have := S3.out; have := S4.out; first | (rcases hx with (hx | hx) | hx <;> omega) | (have h2 : wb.heap.size = O := h; have h3 : wb.drew.heap.size = wb.heap.size := rfl; rcases hx with (hx | hx) | hx <;> omega))
      refine wpAnyH_ready (rs := [10]) (by kernel_rfl) (by simp) ?_
      refine AllReadyH.cons (i := 10) (o := _) rfl (fun K hK => ?_) ?_
      rotate_left
      · exact AllReadyH.nil
      have bb0 := blk_cell BO.out 0
      have fb0 := blk_free BO.out 0
      have bb1 := blk_cell BO.out 1
      have fb1 := blk_free BO.out 1
      have bb2 := blk_cell BO.out 2
      have fb2 := blk_free BO.out 2
      have bb3 := blk_cell BO.out 3
      have fb3 := blk_free BO.out 3
      simp only [List.getElem?_toArray, List.getElem?_cons_zero, List.getElem?_cons_succ] at bb0 bb1 bb2 bb3
      have NS : Hid (((((v4.setCell ⟨O, 0, none⟩ (.slice xa (RP.getD (.nil, 0, 0, .nil)).1.len xc)).setCell ⟨O, 1, none⟩ (.int .i64 (RP.getD (.nil, 0, 0, .nil)).2.1)).setCell ⟨O, 2, none⟩ (.int .i64 (RP.getD (.nil, 0, 0, .nil)).2.2.1)).setCell ⟨O, 3, none⟩ (.slice xd (RP.getD (.nil, 0, 0, .nil)).2.2.2.len xe)).heap[O]? = some (.cells #[.slice xa (RP.getD (.nil, 0, 0, .nil)).1.len xc, .int .i64 (RP.getD (.nil, 0, 0, .nil)).2.1, .int .i64 (RP.getD (.nil, 0, 0, .nil)).2.2.1, .slice xd (RP.getD (.nil, 0, 0, .nil)).2.2.2.len xe] 35) ∧ Chg (fun x => x = O) v4 ((((v4.setCell ⟨O, 0, none⟩ (.slice xa (RP.getD (.nil, 0, 0, .nil)).1.len xc)).setCell ⟨O, 1, none⟩ (.int .i64 (RP.getD (.nil, 0, 0, .nil)).2.1)).setCell ⟨O, 2, none⟩ (.int .i64 (RP.getD (.nil, 0, 0, .nil)).2.2.1)).setCell ⟨O, 3, none⟩ (.slice xd (RP.getD (.nil, 0, 0, .nil)).2.2.2.len xe))) := hide ⟨(blk_set (blk_set (blk_set (blk_set BO.out 0 (.slice xa (RP.getD (.nil, 0, 0, .nil)).1.len xc)) 1 (.int .i64 (RP.getD (.nil, 0, 0, .nil)).2.1)) 2 (.int .i64 (RP.getD (.nil, 0, 0, .nil)).2.2.1)) 3 (.slice xd (RP.getD (.nil, 0, 0, .nil)).2.2.2.len xe)), ((((Chg.set v4 O 0 (.slice xa (RP.getD (.nil, 0, 0, .nil)).1.len xc)).trans (Chg.set (v4.setCell ⟨O, 0, none⟩ (.slice xa (RP.getD (.nil, 0, 0, .nil)).1.len xc)) O 1 (.int .i64 (RP.getD (.nil, 0, 0, .nil)).2.1))).trans (Chg.set ((v4.setCell ⟨O, 0, none⟩ (.slice xa (RP.getD (.nil, 0, 0, .nil)).1.len xc)).setCell ⟨O, 1, none⟩ (.int .i64 (RP.getD (.nil, 0, 0, .nil)).2.1)) O 2 (.int .i64 (RP.getD (.nil, 0, 0, .nil)).2.2.1))).trans (Chg.set (((v4.setCell ⟨O, 0, none⟩ (.slice xa (RP.getD (.nil, 0, 0, .nil)).1.len xc)).setCell ⟨O, 1, none⟩ (.int .i64 (RP.getD (.nil, 0, 0, .nil)).2.1)).setCell ⟨O, 2, none⟩ (.int .i64 (RP.getD (.nil, 0, 0, .nil)).2.2.1)) O 3 (.slice xd (RP.getD (.nil, 0, 0, .nil)).2.2.2.len xe)))⟩
      go_simp
      refine hK.out _ _ ⟨NS.out.2.cell (by have := HNO.out; omega) h0, NS.out.2.cell (by have := HNO.out; omega) h1, NS.out.2.cell (by have := HNO.out; omega) h2, NS.out.2.cell (by have := HNO.out; omega) h3, NS.out.2.cell (by have := HNO.out; omega) k0, NS.out.2.cell (by have := HNO.out; omega) k1, NS.out.2.cell (by have := HNO.out; omega) k2, NS.out.2.cell (by have := HNO.out; omega) k3⟩ (fun hHeld => ?_)
      clear hK K
      try simp only [Act.put, List.getElem_toArray, List.getElem_cons_zero, List.getElem_cons_succ, List.setIfInBounds_toArray, List.set_cons_zero, List.set_cons_succ]
      first
        | (refine wpAnyH_take (i := 11) (v := undef) rfl (by kernel_rfl) (by kernel_rfl) (by kernel_rfl) (fun _ _ _ h => h) (Or.inr ⟨by rfl, rfl⟩) (by assumption) ?_)
        | (refine wpAnyH_take (i := 11) (v := ?_) rfl (by kernel_rfl) (by kernel_rfl) (by kernel_rfl) (fun _ _ _ h => h) (Or.inl ⟨by rfl, ?_⟩) (by assumption) ?_
           rotate_left
           (intro w hSw
            (try dsimp only at hSw)
            (go_simp <;> with_reducible rfl)))
      try simp only [Act.put, List.getElem_toArray, List.getElem_cons_zero, List.getElem_cons_succ, List.setIfInBounds_toArray, List.set_cons_zero, List.set_cons_succ]
      refine wpAnyH_done (by kernel_rfl) ?_ _
      go_wp2_with fail
      go_meet
      exact ⟨O, xa, xc, xd, xe, rfl, rfl, hide NS.out.1, hide ((TVR.out.chg NS.out.2 (fun x hx e => (TLT.out x hx).2.1 e)).up (fun x hx => ⟨Nat.lt_of_lt_of_le (TLT.out x hx).1 NS.out.2.size, (TLT.out x hx).2.2⟩)), hide ⟨((GW.out.none (S := fun x => x = O)).trans NS.out.2).mono (fun x hx e => by have := HNO.out; omega), by have := HNO.out; omega⟩⟩
    case rest =>
    obtain ⟨O, xa, xc, xd, xe, rfl, rfl, BO, TX, GO⟩ := hcut
    generalize wc = w5 at *
    have BP := hide (GO.out.1.blk (fun h => h) BPb.out)
    have BQ := hide (GO.out.1.blk (fun h => h) BQb.out)
    replace G := hide (G.out.trans GO.out.1)
    have HO5 : Hid (P < Q ∧ Q < O ∧ O < w5.heap.size) := hide ⟨HP.out.1, by have := HQb.out; have := GO.out.2; omega, blk_lt BO.out⟩
    clear BPb BQb TTb TYb IPb GO HQb h0 h1 h2 h3 k0 k1 k2 k3
    obtain ⟨RA, hRA⟩ : ∃ RA, atR (t0, t1, t2, t3) p = RA := ⟨_, rfl⟩
    have HRA := hide hRA
    clear hRA
    have h0 : w5.cell? ⟨P, 0, none⟩ = some (.slice pa t0.len pc) := blk_cell BP.out 0
    have h1 : w5.cell? ⟨P, 1, none⟩ = some (.int .i64 t1) := blk_cell BP.out 1
    have h2 : w5.cell? ⟨P, 2, none⟩ = some (.int .i64 t2) := blk_cell BP.out 2
    have h3 : w5.cell? ⟨P, 3, none⟩ = some (.slice pd t3.len pe) := blk_cell BP.out 3
    have XW5 : Hid (∀ x, NQ P w x → x < w5.heap.size ∧ x ≠ Q) := hide (fun x hx => by have := G.out.size; have := HP.out; have := hx.1; omega)
    have RC := hide (rat_any p (t0, t1, t2, t3) (.agg #[.slice pa t0.len pc, .int .i64 t1, .int .i64 t2, .slice pd t3.len pe]) (.slice xpa p.length xpc) (NQ P w) w5 OKT.out (fun x hx => (XW5.out x hx).1) ((T0.out.chg G.out (fun _ _ h => h)).up (fun x hx => ⟨hx, by have := HP.out; omega⟩)) (PO.out.1.all G.out))
    rw [HRA.out] at RC
    go_wp2_with fail
    refine RC.out.mono ?_
    rintro e w6 ⟨⟨v', vl, rfl, tv, tl⟩, g6⟩
    obtain ⟨ca, cc, cd, ce, rfl, _, _⟩ := id tv
    obtain ⟨la, lc, rfl, _⟩ := id tl
    dsimp only [Tm.bs, Tm.kd, Tm.ix, Tm.ag]
    have GA := al w6 (.cells #[.slice ca (RA.getD ((.nil, 0, 0, .nil), .nil)).1.1.len cc, .int .i64 (RA.getD ((.nil, 0, 0, .nil), .nil)).1.2.1, .int .i64 (RA.getD ((.nil, 0, 0, .nil), .nil)).1.2.2.1, .slice cd (RA.getD ((.nil, 0, 0, .nil), .nil)).1.2.2.2.len ce] 27)
    have BC := hide (blk_new w6 (.cells #[.slice ca (RA.getD ((.nil, 0, 0, .nil), .nil)).1.1.len cc, .int .i64 (RA.getD ((.nil, 0, 0, .nil), .nil)).1.2.1, .int .i64 (RA.getD ((.nil, 0, 0, .nil), .nil)).1.2.2.1, .slice cd (RA.getD ((.nil, 0, 0, .nil), .nil)).1.2.2.2.len ce] 27))
    have g' := g6.trans GA
    have TC : Hid (TV (w6.alloc (.cells #[.slice ca (RA.getD ((.nil, 0, 0, .nil), .nil)).1.1.len cc, .int .i64 (RA.getD ((.nil, 0, 0, .nil), .nil)).1.2.1, .int .i64 (RA.getD ((.nil, 0, 0, .nil), .nil)).1.2.2.1, .slice cd (RA.getD ((.nil, 0, 0, .nil), .nil)).1.2.2.2.len ce] 27)) (NQ Q (w6.alloc (.cells #[.slice ca (RA.getD ((.nil, 0, 0, .nil), .nil)).1.1.len cc, .int .i64 (RA.getD ((.nil, 0, 0, .nil), .nil)).1.2.1, .int .i64 (RA.getD ((.nil, 0, 0, .nil), .nil)).1.2.2.1, .slice cd (RA.getD ((.nil, 0, 0, .nil), .nil)).1.2.2.2.len ce] 27))) (.agg #[.slice ca (RA.getD ((.nil, 0, 0, .nil), .nil)).1.1.len cc, .int .i64 (RA.getD ((.nil, 0, 0, .nil), .nil)).1.2.1, .int .i64 (RA.getD ((.nil, 0, 0, .nil), .nil)).1.2.2.1, .slice cd (RA.getD ((.nil, 0, 0, .nil), .nil)).1.2.2.2.len ce]) (RA.getD ((.nil, 0, 0, .nil), .nil)).1) := hide ((tv.chg GA (fun _ _ h => h)).up (fun x hx => by
      have h1 := g6.size
      have h2 := GA.size
      have h3 := HO5.out
      rcases hx with hx | hx
      · have := XW5.out x hx; exact ⟨by omega, this.2⟩
      · exact ⟨by omega, by omega⟩))
    replace G := hide (G.out.trans g')
    replace BP := hide (g'.blk (fun h => h) BP.out)
    replace BQ := hide (g'.blk (fun h => h) BQ.out)
    replace BO := hide (g'.blk (fun h => h) BO.out)
    replace TX := hide (TX.out.nq g')
    have SC : Hid (w5.heap.size ≤ w6.heap.size) := hide g6.size
    clear tv tl g6 GA g' h0 h1 h2 h3 RC XW5
    go_upto_region 6 with fail
    obtain ⟨C, hC⟩ : ∃ C, w6.heap.size = C := ⟨_, rfl⟩
    rw [hC] at BC ⊢
    have HO7 : Hid (P < Q ∧ Q < O ∧ O < C ∧ C < (w6.alloc (.cells #[.slice ca (RA.getD ((.nil, 0, 0, .nil), .nil)).1.1.len cc, .int .i64 (RA.getD ((.nil, 0, 0, .nil), .nil)).1.2.1, .int .i64 (RA.getD ((.nil, 0, 0, .nil), .nil)).1.2.2.1, .slice cd (RA.getD ((.nil, 0, 0, .nil), .nil)).1.2.2.2.len ce] 27)).heap.size ∧ w.heap.size = P) := hide ⟨HO5.out.1, HO5.out.2.1, by have := HO5.out; have := SC.out; omega, blk_lt BC.out, HP.out.2.2⟩
    clear hC
    generalize w6.alloc (.cells #[.slice ca (RA.getD ((.nil, 0, 0, .nil), .nil)).1.1.len cc, .int .i64 (RA.getD ((.nil, 0, 0, .nil), .nil)).1.2.1, .int .i64 (RA.getD ((.nil, 0, 0, .nil), .nil)).1.2.2.1, .slice cd (RA.getD ((.nil, 0, 0, .nil), .nil)).1.2.2.2.len ce] 27) = w7 at *
    have k0 : w7.cell? ⟨Q, 0, none⟩ = some (.slice qa y0.len qc) := blk_cell BQ.out 0
    by_cases hyb : 0 < y0.len
    · have hy1 : (0 : Int) < (y0.len : Int) := by omega
      have hE : ev = 1 := by rw [← HEV.out]; unfold rpE; rw [if_pos hyb]
      subst hE
      clear hyb
      go_wp2_with fail
      refine (known_any _).mono ?_
      rintro e w8 ⟨rfl, g8⟩
      have GF := hide (G.out.trans g8)
      clear g8
      go_wp2_with fail
      go_ret
      exact ⟨rfl, GF.out⟩
    · have hy1 : ¬ (0 : Int) < (y0.len : Int) := by omega
      have hE : Hid (ev = rE (replG (t0, t1, t2, t3) (y0, y1, y2, y3) p)) := hide (by rw [← HEV.out]; unfold rpE; rw [if_neg hyb])
      have hR : Hid (RP = replG (t0, t1, t2, t3) (y0, y1, y2, y3) p) := hide (by rw [← HRP.out]; unfold rpT; rw [if_neg hyb])
      have HS := hide (repl_some p (t0, t1, t2, t3) (y0, y1, y2, y3))
      obtain rfl : y0 = .nil := Fs.len_nil (by omega)
      clear hyb HEV HRP
      cases RA with
      | none =>
        have hn : replG (t0, t1, t2, t3) (.nil, y1, y2, y3) p = none := by
          have h := HS.out
          rw [HRA.out] at h
          cases hq : replG (t0, t1, t2, t3) (.nil, y1, y2, y3) p with
          | none => rfl
          | some _ => rw [hq] at h; cases h
        have hE2 : ev = 10 := by rw [hE.out, hn]; rfl
        subst hE2
        simp only [Option.isSome_none] at *
        clear hn
        go_wp2_with fail
        refine (known_any _).mono ?_
        rintro e w8 ⟨rfl, g8⟩
        have GF := hide (G.out.trans g8)
        clear g8
        go_wp2_with fail
        go_ret
        exact ⟨rfl, GF.out⟩
      | some ra =>
        obtain ⟨⟨c0, c1, c2, c3⟩, cl⟩ := ra
        obtain ⟨rz, hrz⟩ : ∃ rz, replG (t0, t1, t2, t3) (.nil, y1, y2, y3) p = some rz := by
          have h := HS.out
          rw [HRA.out] at h
          cases hq : replG (t0, t1, t2, t3) (.nil, y1, y2, y3) p with
          | none => rw [hq] at h; cases h
          | some q => exact ⟨q, rfl⟩
        obtain ⟨z0, z1, z2, z3⟩ := rz
        have HRZ := hide hrz
        have hE2 : ev = 0 := by rw [hE.out, hrz]; rfl
        have hR2 : RP = some (z0, z1, z2, z3) := by rw [hR.out, hrz]
        subst hE2 hR2
        simp only [Option.getD_some, Option.isSome_some] at *
        dsimp only [Fs.len] at *
        have OKZ := hide (ZOK.out _ hrz)
        have HAT := hide (at_repl p _ _ _ _ _ HRZ.out HRA.out)
        dsimp only [Tm.bs, Tm.kd, Tm.ix, Tm.ag] at HAT
        clear hrz hE hR HS ZOK
        have m0 : w7.cell? ⟨O, 0, none⟩ = some (.slice xa z0.len xc) := blk_cell BO.out 0
        have m1 : w7.cell? ⟨O, 1, none⟩ = some (.int .i64 z1) := blk_cell BO.out 1
        have m2 : w7.cell? ⟨O, 2, none⟩ = some (.int .i64 z2) := blk_cell BO.out 2
        have m3 : w7.cell? ⟨O, 3, none⟩ = some (.slice xd z3.len xe) := blk_cell BO.out 3
        have AT := hide (at_any (z0, z1, z2, z3) OKZ.out p (by have := PO.out.2.1; omega) (.agg #[.slice xa z0.len xc, .int .i64 z1, .int .i64 z2, .slice xd z3.len xe]) (.slice xpa p.length xpc) _ w7 (fun x h => h) TX.out.nqa (PO.out.1.all G.out).il)
        rw [atG_R, HAT.out] at AT
        simp only [Option.getD_some] at AT
        clear HAT
        go_wp2_with fail
        refine AT.out.mono ?_
        rintro e w8 ⟨⟨v', vl, rfl, tv, tl⟩, g⟩
        obtain ⟨ya, yc, yd, ye, rfl, _, _⟩ := id tv
        obtain ⟨l2a, l2c, rfl, _⟩ := id tl
        dsimp only [Tm.bs, Tm.kd, Tm.ix, Tm.ag]
        have e0 : atE (some ((c0, y1, y2, y3), cl)) = 0 := rfl
        rw [e0]
        clear e0
        have GA := al w8 (.cells #[.slice ya c0.len yc, .int .i64 y1, .int .i64 y2, .slice yd y3.len ye] 35)
        have BY := hide (blk_new w8 (.cells #[.slice ya c0.len yc, .int .i64 y1, .int .i64 y2, .slice yd y3.len ye] 35))
        have g' := g.trans GA
        have TY : Hid (TV (w8.alloc (.cells #[.slice ya c0.len yc, .int .i64 y1, .int .i64 y2, .slice yd y3.len ye] 35)) (NQ Q (w8.alloc (.cells #[.slice ya c0.len yc, .int .i64 y1, .int .i64 y2, .slice yd y3.len ye] 35))) (.agg #[.slice ya c0.len yc, .int .i64 y1, .int .i64 y2, .slice yd y3.len ye]) _) := hide ((tv.chg GA (fun _ _ h => h)).up (fun x hx => by
          have h1 := g.size
          have h2 := GA.size
          have h3 := HO7.out
          exact ⟨by have := hx.2; omega, by have := hx.1; omega⟩))
        replace G := hide (G.out.trans g')
        replace BP := hide (g'.blk (fun h => h) BP.out)
        replace BQ := hide (g'.blk (fun h => h) BQ.out)
        replace BO := hide (g'.blk (fun h => h) BO.out)
        replace BC := hide (g'.blk (fun h => h) BC.out)
        replace TX := hide (TX.out.nq g')
        replace TC := hide (TC.out.nq g')
        have SN : Hid (w7.heap.size ≤ w8.heap.size) := hide g.size
        clear tv tl g GA g' AT m0 m1 m2 m3
        go_upto_region 11 with fail
        obtain ⟨Y, hY⟩ : ∃ Y, w8.heap.size = Y := ⟨_, rfl⟩
        rw [hY] at BY ⊢
        have HO9 : Hid (P < Q ∧ Q < O ∧ O < C ∧ C < Y ∧ Y < (w8.alloc (.cells #[.slice ya c0.len yc, .int .i64 y1, .int .i64 y2, .slice yd y3.len ye] 35)).heap.size) := hide ⟨HO7.out.1, HO7.out.2.1, HO7.out.2.2.1, by have := HO7.out; have := SN.out; omega, blk_lt BY.out⟩
        clear hY SN
        generalize w8.alloc (.cells #[.slice ya c0.len yc, .int .i64 y1, .int .i64 y2, .slice yd y3.len ye] 35) = w9 at *
        have m0 : w9.cell? ⟨C, 0, none⟩ = some (.slice ca c0.len cc) := blk_cell BC.out 0
        have m1 : w9.cell? ⟨Q, 0, none⟩ = some (.slice qa 0 qc) := blk_cell BQ.out 0
        have m2 := blk_free BQ.out 0
        have GS := hide (Chg.set w9 Q 0 (.slice ca c0.len cc))
        replace BQ : Hid ((w9.setCell ⟨Q, 0, none⟩ (.slice ca c0.len cc)).heap[Q]? = some (.cells #[.slice ca c0.len cc, .int .i64 y1, .int .i64 y2, .slice qd y3.len qe] 27)) := hide (blk_set BQ.out 0 (.slice ca c0.len cc))
        go_upto_region 12 with fail
        replace G : Hid (Chg (fun _ => False) w _) := hide (((G.out.none (S := fun x => x = Q)).trans GS.out).mono (fun x hx e => by have := HO7.out; omega))
        replace BP := hide (GS.out.blk (by have := HO9.out; omega) BP.out)
        replace BO := hide (GS.out.blk (by have := HO9.out; omega) BO.out)
        replace BC := hide (GS.out.blk (by have := HO9.out; omega) BC.out)
        replace BY := hide (GS.out.blk (by have := HO9.out; omega) BY.out)
        replace TX := hide (TX.out.nqs GS.out)
        replace TC := hide (TC.out.nqs GS.out)
        replace TY := hide (TY.out.nqs GS.out)
        have HOa : Hid (P < Q ∧ Q < O ∧ O < C ∧ C < Y ∧ Y < (w9.setCell ⟨Q, 0, none⟩ (.slice ca c0.len cc)).heap.size) := hide ⟨HO9.out.1, HO9.out.2.1, HO9.out.2.2.1, HO9.out.2.2.2.1, Nat.lt_of_lt_of_le HO9.out.2.2.2.2 GS.out.size⟩
        clear GS m0 m1 m2
        generalize w9.setCell ⟨Q, 0, none⟩ (.slice ca c0.len cc) = wa9 at *
        obtain ⟨RO, hRO⟩ : ∃ RO, atR (t0, t1, t2, t3) o = RO := ⟨_, rfl⟩
        have HRO := hide hRO
        clear hRO
        have m0 : wa9.cell? ⟨P, 0, none⟩ = some (.slice pa t0.len pc) := blk_cell BP.out 0
        have m1 : wa9.cell? ⟨P, 1, none⟩ = some (.int .i64 t1) := blk_cell BP.out 1
        have m2 : wa9.cell? ⟨P, 2, none⟩ = some (.int .i64 t2) := blk_cell BP.out 2
        have m3 : wa9.cell? ⟨P, 3, none⟩ = some (.slice pd t3.len pe) := blk_cell BP.out 3
        have XW5 : Hid (∀ x, NQ P w x → x < wa9.heap.size ∧ x ≠ Q) := hide (fun x hx => by have := G.out.size; have := HP.out; have := hx.1; omega)
        have RC := hide (rat_any o (t0, t1, t2, t3) (.agg #[.slice pa t0.len pc, .int .i64 t1, .int .i64 t2, .slice pd t3.len pe]) (.slice zpa o.length zpc) (NQ P w) wa9 OKT.out (fun x hx => (XW5.out x hx).1) ((T0.out.chg G.out (fun _ _ h => h)).up (fun x hx => ⟨hx, by have := HP.out; omega⟩)) (PZ.out.1.all G.out))
        rw [HRO.out] at RC
        go_wp2_with fail
        refine RC.out.mono ?_
        rintro e w10 ⟨⟨v', vl, rfl, tv, tl⟩, g⟩
        obtain ⟨ua, uc, ud, ue, rfl, _, _⟩ := id tv
        obtain ⟨l3a, l3c, rfl, _⟩ := id tl
        dsimp only [Tm.bs, Tm.kd, Tm.ix, Tm.ag]
        have GA := al w10 (.cells #[.slice ua (RO.getD ((.nil, 0, 0, .nil), .nil)).1.1.len uc, .int .i64 (RO.getD ((.nil, 0, 0, .nil), .nil)).1.2.1, .int .i64 (RO.getD ((.nil, 0, 0, .nil), .nil)).1.2.2.1, .slice ud (RO.getD ((.nil, 0, 0, .nil), .nil)).1.2.2.2.len ue] 27)
        have BU := hide (blk_new w10 (.cells #[.slice ua (RO.getD ((.nil, 0, 0, .nil), .nil)).1.1.len uc, .int .i64 (RO.getD ((.nil, 0, 0, .nil), .nil)).1.2.1, .int .i64 (RO.getD ((.nil, 0, 0, .nil), .nil)).1.2.2.1, .slice ud (RO.getD ((.nil, 0, 0, .nil), .nil)).1.2.2.2.len ue] 27))
        have g' := g.trans GA
        have TU : Hid (TV (w10.alloc (.cells #[.slice ua (RO.getD ((.nil, 0, 0, .nil), .nil)).1.1.len uc, .int .i64 (RO.getD ((.nil, 0, 0, .nil), .nil)).1.2.1, .int .i64 (RO.getD ((.nil, 0, 0, .nil), .nil)).1.2.2.1, .slice ud (RO.getD ((.nil, 0, 0, .nil), .nil)).1.2.2.2.len ue] 27)) (NQ Q (w10.alloc (.cells #[.slice ua (RO.getD ((.nil, 0, 0, .nil), .nil)).1.1.len uc, .int .i64 (RO.getD ((.nil, 0, 0, .nil), .nil)).1.2.1, .int .i64 (RO.getD ((.nil, 0, 0, .nil), .nil)).1.2.2.1, .slice ud (RO.getD ((.nil, 0, 0, .nil), .nil)).1.2.2.2.len ue] 27))) (.agg #[.slice ua (RO.getD ((.nil, 0, 0, .nil), .nil)).1.1.len uc, .int .i64 (RO.getD ((.nil, 0, 0, .nil), .nil)).1.2.1, .int .i64 (RO.getD ((.nil, 0, 0, .nil), .nil)).1.2.2.1, .slice ud (RO.getD ((.nil, 0, 0, .nil), .nil)).1.2.2.2.len ue]) _) := hide ((tv.chg GA (fun _ _ h => h)).up (fun x hx => by
          have h1 := g.size
          have h2 := GA.size
          have h3 := HOa.out
          rcases hx with hx | hx
          · have := XW5.out x hx; exact ⟨by omega, this.2⟩
          · exact ⟨by have := hx.2; omega, by have := hx.1; omega⟩))
        replace G := hide (G.out.trans g')
        replace BP := hide (g'.blk (fun h => h) BP.out)
        replace BQ := hide (g'.blk (fun h => h) BQ.out)
        replace BO := hide (g'.blk (fun h => h) BO.out)
        replace BC := hide (g'.blk (fun h => h) BC.out)
        replace BY := hide (g'.blk (fun h => h) BY.out)
        replace TX := hide (TX.out.nq g')
        replace TC := hide (TC.out.nq g')
        replace TY := hide (TY.out.nq g')
        have SN : Hid (wa9.heap.size ≤ w10.heap.size) := hide g.size
        clear tv tl g GA g' RC XW5 m0 m1 m2 m3
        go_upto_region 13 with fail
        obtain ⟨U, hU⟩ : ∃ U, w10.heap.size = U := ⟨_, rfl⟩
        rw [hU] at BU ⊢
        have HOb : Hid (Q < O ∧ O < C ∧ C < Y ∧ Y < U ∧ U < (w10.alloc (.cells #[.slice ua (RO.getD ((.nil, 0, 0, .nil), .nil)).1.1.len uc, .int .i64 (RO.getD ((.nil, 0, 0, .nil), .nil)).1.2.1, .int .i64 (RO.getD ((.nil, 0, 0, .nil), .nil)).1.2.2.1, .slice ud (RO.getD ((.nil, 0, 0, .nil), .nil)).1.2.2.2.len ue] 27)).heap.size) := hide ⟨HOa.out.2.1, HOa.out.2.2.1, HOa.out.2.2.2.1, by have := HOa.out; have := SN.out; omega, blk_lt BU.out⟩
        clear hU SN
        generalize w10.alloc (.cells #[.slice ua (RO.getD ((.nil, 0, 0, .nil), .nil)).1.1.len uc, .int .i64 (RO.getD ((.nil, 0, 0, .nil), .nil)).1.2.1, .int .i64 (RO.getD ((.nil, 0, 0, .nil), .nil)).1.2.2.1, .slice ud (RO.getD ((.nil, 0, 0, .nil), .nil)).1.2.2.2.len ue] 27) = w11 at *
        obtain ⟨RV, hRV⟩ : ∃ RV, atR (z0, z1, z2, z3) o = RV := ⟨_, rfl⟩
        have HRV := hide hRV
        clear hRV
        have m0 : w11.cell? ⟨O, 0, none⟩ = some (.slice xa z0.len xc) := blk_cell BO.out 0
        have m1 : w11.cell? ⟨O, 1, none⟩ = some (.int .i64 z1) := blk_cell BO.out 1
        have m2 : w11.cell? ⟨O, 2, none⟩ = some (.int .i64 z2) := blk_cell BO.out 2
        have m3 : w11.cell? ⟨O, 3, none⟩ = some (.slice xd z3.len xe) := blk_cell BO.out 3
        have AT := hide (at_any (z0, z1, z2, z3) OKZ.out o (by have := PZ.out.2.1; omega) (.agg #[.slice xa z0.len xc, .int .i64 z1, .int .i64 z2, .slice xd z3.len xe]) (.slice zpa o.length zpc) _ w11 (fun x h => h) TX.out.nqa (PZ.out.1.all G.out).il)
        rw [atG_R, HRV.out] at AT
        go_wp2_with fail
        refine AT.out.mono ?_
        rintro e w12 ⟨⟨v', vl, rfl, tv, tl⟩, g⟩
        obtain ⟨va, vc, vd, ve, rfl, _, _⟩ := id tv
        obtain ⟨l4a, l4c, rfl, _⟩ := id tl
        dsimp only [Tm.bs, Tm.kd, Tm.ix, Tm.ag]
        have GA := al w12 (.cells #[.slice va (RV.getD ((.nil, 0, 0, .nil), .nil)).1.1.len vc, .int .i64 (RV.getD ((.nil, 0, 0, .nil), .nil)).1.2.1, .int .i64 (RV.getD ((.nil, 0, 0, .nil), .nil)).1.2.2.1, .slice vd (RV.getD ((.nil, 0, 0, .nil), .nil)).1.2.2.2.len ve] 35)
        have BV := hide (blk_new w12 (.cells #[.slice va (RV.getD ((.nil, 0, 0, .nil), .nil)).1.1.len vc, .int .i64 (RV.getD ((.nil, 0, 0, .nil), .nil)).1.2.1, .int .i64 (RV.getD ((.nil, 0, 0, .nil), .nil)).1.2.2.1, .slice vd (RV.getD ((.nil, 0, 0, .nil), .nil)).1.2.2.2.len ve] 35))
        have g' := g.trans GA
        have TV4 : Hid (TV (w12.alloc (.cells #[.slice va (RV.getD ((.nil, 0, 0, .nil), .nil)).1.1.len vc, .int .i64 (RV.getD ((.nil, 0, 0, .nil), .nil)).1.2.1, .int .i64 (RV.getD ((.nil, 0, 0, .nil), .nil)).1.2.2.1, .slice vd (RV.getD ((.nil, 0, 0, .nil), .nil)).1.2.2.2.len ve] 35)) (NQ Q (w12.alloc (.cells #[.slice va (RV.getD ((.nil, 0, 0, .nil), .nil)).1.1.len vc, .int .i64 (RV.getD ((.nil, 0, 0, .nil), .nil)).1.2.1, .int .i64 (RV.getD ((.nil, 0, 0, .nil), .nil)).1.2.2.1, .slice vd (RV.getD ((.nil, 0, 0, .nil), .nil)).1.2.2.2.len ve] 35))) (.agg #[.slice va (RV.getD ((.nil, 0, 0, .nil), .nil)).1.1.len vc, .int .i64 (RV.getD ((.nil, 0, 0, .nil), .nil)).1.2.1, .int .i64 (RV.getD ((.nil, 0, 0, .nil), .nil)).1.2.2.1, .slice vd (RV.getD ((.nil, 0, 0, .nil), .nil)).1.2.2.2.len ve]) _) := hide ((tv.chg GA (fun _ _ h => h)).up (fun x hx => by
          have h1 := g.size
          have h2 := GA.size
          have h3 := HOb.out
          exact ⟨by have := hx.2; omega, by have := hx.1; omega⟩))
        replace G := hide (G.out.trans g')
        replace BP := hide (g'.blk (fun h => h) BP.out)
        replace BQ := hide (g'.blk (fun h => h) BQ.out)
        replace BO := hide (g'.blk (fun h => h) BO.out)
        replace BC := hide (g'.blk (fun h => h) BC.out)
        replace BY := hide (g'.blk (fun h => h) BY.out)
        replace BU := hide (g'.blk (fun h => h) BU.out)
        replace TX := hide (TX.out.nq g')
        replace TC := hide (TC.out.nq g')
        replace TY := hide (TY.out.nq g')
        replace TU := hide (TU.out.nq g')
        have SN : Hid (w11.heap.size ≤ w12.heap.size) := hide g.size
        clear tv tl g GA g' AT m0 m1 m2 m3
        go_upto_region 14 with fail
        obtain ⟨V, hV⟩ : ∃ V, w12.heap.size = V := ⟨_, rfl⟩
        rw [hV] at BV ⊢
        have HOc : Hid (U < V ∧ V < (w12.alloc (.cells #[.slice va (RV.getD ((.nil, 0, 0, .nil), .nil)).1.1.len vc, .int .i64 (RV.getD ((.nil, 0, 0, .nil), .nil)).1.2.1, .int .i64 (RV.getD ((.nil, 0, 0, .nil), .nil)).1.2.2.1, .slice vd (RV.getD ((.nil, 0, 0, .nil), .nil)).1.2.2.2.len ve] 35)).heap.size) := hide ⟨by have := HOb.out; have := SN.out; omega, blk_lt BV.out⟩
        clear hV SN
        generalize w12.alloc (.cells #[.slice va (RV.getD ((.nil, 0, 0, .nil), .nil)).1.1.len vc, .int .i64 (RV.getD ((.nil, 0, 0, .nil), .nil)).1.2.1, .int .i64 (RV.getD ((.nil, 0, 0, .nil), .nil)).1.2.2.1, .slice vd (RV.getD ((.nil, 0, 0, .nil), .nil)).1.2.2.2.len ve] 35) = w13 at *
        obtain ⟨b1, hb1⟩ : ∃ b1, underB p o = b1 := ⟨_, rfl⟩
        obtain ⟨b2, hb2⟩ : ∃ b2, underB o p = b2 := ⟨_, rfl⟩
        have HB1 := hide hb1
        have HB2 := hide hb2
        clear hb1 hb2
        obtain ⟨fe, hfe⟩ : ∃ fe, atE RV = fe := ⟨_, rfl⟩
        rw [hfe]
        have HFE := hide hfe
        clear hfe
        have UN1 := hide (under_any p o (by have := PO.out.2.1; omega) (by have := PZ.out.2.1; omega) xpa xpc PO.out.2.2.1 PO.out.2.2.2 (.slice zpa o.length zpc) _ w13 (PO.out.1.all G.out).il (PZ.out.1.all G.out).il)
        rw [HB1.out] at UN1
        have UN2 := hide (fun w' (g : Chg (fun _ => False) w13 w') => under_any o p (by have := PZ.out.2.1; omega) (by have := PO.out.2.1; omega) zpa zpc PZ.out.2.2.1 PZ.out.2.2.2 (.slice xpa p.length xpc) _ w' (PZ.out.1.all (G.out.trans g)).il (PO.out.1.all (G.out.trans g)).il)
        rw [HB2.out] at UN2
        obtain ⟨AB, hAB⟩ : ∃ AB, (!b1 && !b2) = AB := ⟨_, rfl⟩
        have HAB := hide hAB
        clear hAB
        go_cut [23] (fun s wx => s = .bool AB ∧ Hid (Chg (fun _ => False) w13 wx))
        case first =>
          go_wp2_with fail
          refine UN1.out.mono ?_
          rintro e w14 ⟨rfl, g14⟩
          have G14 := hide g14
          clear g14
          cases b1
          · go_wp2_with fail
            refine (UN2.out _ G14.out).mono ?_
            rintro e w15 ⟨rfl, g15⟩
            have G15 := hide (G14.out.trans g15)
            clear g15
            go_wp2_with fail
            go_meet
            exact ⟨by rw [← HAB.out]; simp, G15⟩
          · go_wp2_with fail
            go_meet
            exact ⟨by rw [← HAB.out]; simp, G14⟩
        case rest =>
        obtain ⟨rfl, GX⟩ := hcut
        generalize wc = w16 at *
        clear UN1 UN2
        replace G := hide (G.out.trans GX.out)
        replace BP := hide (GX.out.blk (fun h => h) BP.out)
        replace BQ := hide (GX.out.blk (fun h => h) BQ.out)
        replace BO := hide (GX.out.blk (fun h => h) BO.out)
        replace BC := hide (GX.out.blk (fun h => h) BC.out)
        replace BY := hide (GX.out.blk (fun h => h) BY.out)
        replace BU := hide (GX.out.blk (fun h => h) BU.out)
        replace BV := hide (GX.out.blk (fun h => h) BV.out)
        replace TX := hide (TX.out.nq GX.out)
        replace TC := hide (TC.out.nq GX.out)
        replace TY := hide (TY.out.nq GX.out)
        replace TU := hide (TU.out.nq GX.out)
        replace TV4 := hide (TV4.out.nq GX.out)
        clear GX
        have AP : Hid (b1 = false → b2 = false → RV.map (·.1) = RO.map (·.1)) := hide (fun h1 h2 => by rw [← HRV.out, ← HRO.out]; exact at_apart p o _ _ _ HRZ.out (by rw [HB1.out, h1]) (by rw [HB2.out, h2]))
        have OKU := hide (fun (q : Tm × Fs) (h : RO = some q) => atR_ok o _ q OKT.out (by rw [HRO.out, h]))
        go_upto_region 15 with fail
        go_cut [121] (fun s wx => s = .bool false ∧ Hid (Chg (fun _ => False) w16 wx))
        case first =>
          cases AB
          · clear AP OKU
            refine wp_region_held_drew (S := (fun _ => True)) (by kernel_rfl) trivial (fun hHeld => ?_)
            first
              | (refine wpAnyH_take (i := 0) (v := undef) rfl (by kernel_rfl) (by kernel_rfl) (by kernel_rfl) (fun _ _ _ h => h) (Or.inr ⟨by rfl, rfl⟩) (by assumption) ?_)
              | (refine wpAnyH_take (i := 0) (v := ?_) rfl (by kernel_rfl) (by kernel_rfl) (by kernel_rfl) (fun _ _ _ h => h) (Or.inl ⟨by rfl, ?_⟩) (by assumption) ?_
                 rotate_left
                 (intro w hSw
                  (try dsimp only at hSw)
                  (go_simp <;> with_reducible rfl)))
            try simp only [Act.put, List.getElem_toArray, List.getElem_cons_zero, List.getElem_cons_succ, List.setIfInBounds_toArray, List.set_cons_zero, List.set_cons_succ]
            first
              | (refine wpAnyH_take (i := 1) (v := undef) rfl (by kernel_rfl) (by kernel_rfl) (by kernel_rfl) (fun _ _ _ h => h) (Or.inr ⟨by rfl, rfl⟩) (by assumption) ?_)
              | (refine wpAnyH_take (i := 1) (v := ?_) rfl (by kernel_rfl) (by kernel_rfl) (by kernel_rfl) (fun _ _ _ h => h) (Or.inl ⟨by rfl, ?_⟩) (by assumption) ?_
                 rotate_left
                 (intro w hSw
                  (try dsimp only at hSw)
                  (go_simp <;> with_reducible rfl)))
            try simp only [Act.put, List.getElem_toArray, List.getElem_cons_zero, List.getElem_cons_succ, List.setIfInBounds_toArray, List.set_cons_zero, List.set_cons_succ]
            first
              | (refine wpAnyH_take (i := 2) (v := undef) rfl (by kernel_rfl) (by kernel_rfl) (by kernel_rfl) (fun _ _ _ h => h) (Or.inr ⟨by rfl, rfl⟩) (by assumption) ?_)
              | (refine wpAnyH_take (i := 2) (v := ?_) rfl (by kernel_rfl) (by kernel_rfl) (by kernel_rfl) (fun _ _ _ h => h) (Or.inl ⟨by rfl, ?_⟩) (by assumption) ?_
                 rotate_left
                 (intro w hSw
                  (try dsimp only at hSw)
                  (go_simp <;> with_reducible rfl)))
            try simp only [Act.put, List.getElem_toArray, List.getElem_cons_zero, List.getElem_cons_succ, List.setIfInBounds_toArray, List.set_cons_zero, List.set_cons_succ]
            first
              | (refine wpAnyH_take (i := 3) (v := undef) rfl (by kernel_rfl) (by kernel_rfl) (by kernel_rfl) (fun _ _ _ h => h) (Or.inr ⟨by rfl, rfl⟩) (by assumption) ?_)
              | (refine wpAnyH_take (i := 3) (v := ?_) rfl (by kernel_rfl) (by kernel_rfl) (by kernel_rfl) (fun _ _ _ h => h) (Or.inl ⟨by rfl, ?_⟩) (by assumption) ?_
                 rotate_left
                 (intro w hSw
                  (try dsimp only at hSw)
                  (go_simp <;> with_reducible rfl)))
            try simp only [Act.put, List.getElem_toArray, List.getElem_cons_zero, List.getElem_cons_succ, List.setIfInBounds_toArray, List.set_cons_zero, List.set_cons_succ]
            first
              | (refine wpAnyH_take (i := 4) (v := undef) rfl (by kernel_rfl) (by kernel_rfl) (by kernel_rfl) (fun _ _ _ h => h) (Or.inr ⟨by rfl, rfl⟩) (by assumption) ?_)
              | (refine wpAnyH_take (i := 4) (v := ?_) rfl (by kernel_rfl) (by kernel_rfl) (by kernel_rfl) (fun _ _ _ h => h) (Or.inl ⟨by rfl, ?_⟩) (by assumption) ?_
                 rotate_left
                 (intro w hSw
                  (try dsimp only at hSw)
                  (go_simp <;> with_reducible rfl)))
            try simp only [Act.put, List.getElem_toArray, List.getElem_cons_zero, List.getElem_cons_succ, List.setIfInBounds_toArray, List.set_cons_zero, List.set_cons_succ]
            first
              | (refine wpAnyH_take (i := 5) (v := undef) rfl (by kernel_rfl) (by kernel_rfl) (by kernel_rfl) (fun _ _ _ h => h) (Or.inr ⟨by rfl, rfl⟩) (by assumption) ?_)
              | (refine wpAnyH_take (i := 5) (v := ?_) rfl (by kernel_rfl) (by kernel_rfl) (by kernel_rfl) (fun _ _ _ h => h) (Or.inl ⟨by rfl, ?_⟩) (by assumption) ?_
                 rotate_left
                 (intro w hSw
                  (try dsimp only at hSw)
                  (go_simp <;> with_reducible rfl)))
            try simp only [Act.put, List.getElem_toArray, List.getElem_cons_zero, List.getElem_cons_succ, List.setIfInBounds_toArray, List.set_cons_zero, List.set_cons_succ]
            first
              | (refine wpAnyH_take (i := 6) (v := undef) rfl (by kernel_rfl) (by kernel_rfl) (by kernel_rfl) (fun _ _ _ h => h) (Or.inr ⟨by rfl, rfl⟩) (by assumption) ?_)
              | (refine wpAnyH_take (i := 6) (v := ?_) rfl (by kernel_rfl) (by kernel_rfl) (by kernel_rfl) (fun _ _ _ h => h) (Or.inl ⟨by rfl, ?_⟩) (by assumption) ?_
                 rotate_left
                 (intro w hSw
                  (try dsimp only at hSw)
                  (go_simp <;> with_reducible rfl)))
            try simp only [Act.put, List.getElem_toArray, List.getElem_cons_zero, List.getElem_cons_succ, List.setIfInBounds_toArray, List.set_cons_zero, List.set_cons_succ]
            first
              | (refine wpAnyH_take (i := 7) (v := undef) rfl (by kernel_rfl) (by kernel_rfl) (by kernel_rfl) (fun _ _ _ h => h) (Or.inr ⟨by rfl, rfl⟩) (by assumption) ?_)
              | (refine wpAnyH_take (i := 7) (v := ?_) rfl (by kernel_rfl) (by kernel_rfl) (by kernel_rfl) (fun _ _ _ h => h) (Or.inl ⟨by rfl, ?_⟩) (by assumption) ?_
                 rotate_left
                 (intro w hSw
                  (try dsimp only at hSw)
                  (go_simp <;> with_reducible rfl)))
            try simp only [Act.put, List.getElem_toArray, List.getElem_cons_zero, List.getElem_cons_succ, List.setIfInBounds_toArray, List.set_cons_zero, List.set_cons_succ]
            first
              | (refine wpAnyH_take (i := 8) (v := undef) rfl (by kernel_rfl) (by kernel_rfl) (by kernel_rfl) (fun _ _ _ h => h) (Or.inr ⟨by rfl, rfl⟩) (by assumption) ?_)
              | (refine wpAnyH_take (i := 8) (v := ?_) rfl (by kernel_rfl) (by kernel_rfl) (by kernel_rfl) (fun _ _ _ h => h) (Or.inl ⟨by rfl, ?_⟩) (by assumption) ?_
                 rotate_left
                 (intro w hSw
                  (try dsimp only at hSw)
                  (go_simp <;> with_reducible rfl)))
            try simp only [Act.put, List.getElem_toArray, List.getElem_cons_zero, List.getElem_cons_succ, List.setIfInBounds_toArray, List.set_cons_zero, List.set_cons_succ]
            first
              | (refine wpAnyH_take (i := 9) (v := undef) rfl (by kernel_rfl) (by kernel_rfl) (by kernel_rfl) (fun _ _ _ h => h) (Or.inr ⟨by rfl, rfl⟩) (by assumption) ?_)
              | (refine wpAnyH_take (i := 9) (v := ?_) rfl (by kernel_rfl) (by kernel_rfl) (by kernel_rfl) (fun _ _ _ h => h) (Or.inl ⟨by rfl, ?_⟩) (by assumption) ?_
                 rotate_left
                 (intro w hSw
                  (try dsimp only at hSw)
                  (go_simp <;> with_reducible rfl)))
            try simp only [Act.put, List.getElem_toArray, List.getElem_cons_zero, List.getElem_cons_succ, List.setIfInBounds_toArray, List.set_cons_zero, List.set_cons_succ]
            first
              | (refine wpAnyH_take (i := 10) (v := undef) rfl (by kernel_rfl) (by kernel_rfl) (by kernel_rfl) (fun _ _ _ h => h) (Or.inr ⟨by rfl, rfl⟩) (by assumption) ?_)
              | (refine wpAnyH_take (i := 10) (v := ?_) rfl (by kernel_rfl) (by kernel_rfl) (by kernel_rfl) (fun _ _ _ h => h) (Or.inl ⟨by rfl, ?_⟩) (by assumption) ?_
                 rotate_left
                 (intro w hSw
                  (try dsimp only at hSw)
                  (go_simp <;> with_reducible rfl)))
            try simp only [Act.put, List.getElem_toArray, List.getElem_cons_zero, List.getElem_cons_succ, List.setIfInBounds_toArray, List.set_cons_zero, List.set_cons_succ]
            first
              | (refine wpAnyH_take (i := 11) (v := undef) rfl (by kernel_rfl) (by kernel_rfl) (by kernel_rfl) (fun _ _ _ h => h) (Or.inr ⟨by rfl, rfl⟩) (by assumption) ?_)
              | (refine wpAnyH_take (i := 11) (v := ?_) rfl (by kernel_rfl) (by kernel_rfl) (by kernel_rfl) (fun _ _ _ h => h) (Or.inl ⟨by rfl, ?_⟩) (by assumption) ?_
                 rotate_left
                 (intro w hSw
                  (try dsimp only at hSw)
                  (go_simp <;> with_reducible rfl)))
            try simp only [Act.put, List.getElem_toArray, List.getElem_cons_zero, List.getElem_cons_succ, List.setIfInBounds_toArray, List.set_cons_zero, List.set_cons_succ]
            first
              | (refine wpAnyH_take (i := 12) (v := undef) rfl (by kernel_rfl) (by kernel_rfl) (by kernel_rfl) (fun _ _ _ h => h) (Or.inr ⟨by rfl, rfl⟩) (by assumption) ?_)
              | (refine wpAnyH_take (i := 12) (v := ?_) rfl (by kernel_rfl) (by kernel_rfl) (by kernel_rfl) (fun _ _ _ h => h) (Or.inl ⟨by rfl, ?_⟩) (by assumption) ?_
                 rotate_left
                 (intro w hSw
                  (try dsimp only at hSw)
                  (go_simp <;> with_reducible rfl)))
            try simp only [Act.put, List.getElem_toArray, List.getElem_cons_zero, List.getElem_cons_succ, List.setIfInBounds_toArray, List.set_cons_zero, List.set_cons_succ]
            first
              | (refine wpAnyH_take (i := 13) (v := undef) rfl (by kernel_rfl) (by kernel_rfl) (by kernel_rfl) (fun _ _ _ h => h) (Or.inr ⟨by rfl, rfl⟩) (by assumption) ?_)
              | (refine wpAnyH_take (i := 13) (v := ?_) rfl (by kernel_rfl) (by kernel_rfl) (by kernel_rfl) (fun _ _ _ h => h) (Or.inl ⟨by rfl, ?_⟩) (by assumption) ?_
                 rotate_left
                 (intro w hSw
                  (try dsimp only at hSw)
                  (go_simp <;> with_reducible rfl)))
            try simp only [Act.put, List.getElem_toArray, List.getElem_cons_zero, List.getElem_cons_succ, List.setIfInBounds_toArray, List.set_cons_zero, List.set_cons_succ]
            first
              | (refine wpAnyH_take (i := 14) (v := undef) rfl (by kernel_rfl) (by kernel_rfl) (by kernel_rfl) (fun _ _ _ h => h) (Or.inr ⟨by rfl, rfl⟩) (by assumption) ?_)
              | (refine wpAnyH_take (i := 14) (v := ?_) rfl (by kernel_rfl) (by kernel_rfl) (by kernel_rfl) (fun _ _ _ h => h) (Or.inl ⟨by rfl, ?_⟩) (by assumption) ?_
                 rotate_left
                 (intro w hSw
                  (try dsimp only at hSw)
                  (go_simp <;> with_reducible rfl)))
            try simp only [Act.put, List.getElem_toArray, List.getElem_cons_zero, List.getElem_cons_succ, List.setIfInBounds_toArray, List.set_cons_zero, List.set_cons_succ]
            refine wpAnyH_done (by kernel_rfl) ?_ _
            go_wp2_with fail
            go_meet
            exact ⟨rfl, hide (Chg.refl (fun _ => False) w16).drew⟩
          · have hm : RV.map (·.1) = RO.map (·.1) := by
              have h := HAB.out
              simp only [Bool.and_eq_true, Bool.not_eq_true'] at h
              exact AP.out h.1 h.2
            cases RO with
            | none =>
              simp only [Option.isSome_none] at *
              clear hm AP OKU
              refine wp_region_held_drew (S := (fun _ => True)) (by kernel_rfl) trivial (fun hHeld => ?_)
              first
                | (refine wpAnyH_take (i := 0) (v := undef) rfl (by kernel_rfl) (by kernel_rfl) (by kernel_rfl) (fun _ _ _ h => h) (Or.inr ⟨by rfl, rfl⟩) (by assumption) ?_)
                | (refine wpAnyH_take (i := 0) (v := ?_) rfl (by kernel_rfl) (by kernel_rfl) (by kernel_rfl) (fun _ _ _ h => h) (Or.inl ⟨by rfl, ?_⟩) (by assumption) ?_
                   rotate_left
                   (intro w hSw
                    (try dsimp only at hSw)
                    (go_simp <;> with_reducible rfl)))
              try simp only [Act.put, List.getElem_toArray, List.getElem_cons_zero, List.getElem_cons_succ, List.setIfInBounds_toArray, List.set_cons_zero, List.set_cons_succ]
              first
                | (refine wpAnyH_take (i := 1) (v := undef) rfl (by kernel_rfl) (by kernel_rfl) (by kernel_rfl) (fun _ _ _ h => h) (Or.inr ⟨by rfl, rfl⟩) (by assumption) ?_)
                | (refine wpAnyH_take (i := 1) (v := ?_) rfl (by kernel_rfl) (by kernel_rfl) (by kernel_rfl) (fun _ _ _ h => h) (Or.inl ⟨by rfl, ?_⟩) (by assumption) ?_
                   rotate_left
                   (intro w hSw
                    (try dsimp only at hSw)
                    (go_simp <;> with_reducible rfl)))
              try simp only [Act.put, List.getElem_toArray, List.getElem_cons_zero, List.getElem_cons_succ, List.setIfInBounds_toArray, List.set_cons_zero, List.set_cons_succ]
              first
                | (refine wpAnyH_take (i := 2) (v := undef) rfl (by kernel_rfl) (by kernel_rfl) (by kernel_rfl) (fun _ _ _ h => h) (Or.inr ⟨by rfl, rfl⟩) (by assumption) ?_)
                | (refine wpAnyH_take (i := 2) (v := ?_) rfl (by kernel_rfl) (by kernel_rfl) (by kernel_rfl) (fun _ _ _ h => h) (Or.inl ⟨by rfl, ?_⟩) (by assumption) ?_
                   rotate_left
                   (intro w hSw
                    (try dsimp only at hSw)
                    (go_simp <;> with_reducible rfl)))
              try simp only [Act.put, List.getElem_toArray, List.getElem_cons_zero, List.getElem_cons_succ, List.setIfInBounds_toArray, List.set_cons_zero, List.set_cons_succ]
              first
                | (refine wpAnyH_take (i := 3) (v := undef) rfl (by kernel_rfl) (by kernel_rfl) (by kernel_rfl) (fun _ _ _ h => h) (Or.inr ⟨by rfl, rfl⟩) (by assumption) ?_)
                | (refine wpAnyH_take (i := 3) (v := ?_) rfl (by kernel_rfl) (by kernel_rfl) (by kernel_rfl) (fun _ _ _ h => h) (Or.inl ⟨by rfl, ?_⟩) (by assumption) ?_
                   rotate_left
                   (intro w hSw
                    (try dsimp only at hSw)
                    (go_simp <;> with_reducible rfl)))
              try simp only [Act.put, List.getElem_toArray, List.getElem_cons_zero, List.getElem_cons_succ, List.setIfInBounds_toArray, List.set_cons_zero, List.set_cons_succ]
              first
                | (refine wpAnyH_take (i := 4) (v := undef) rfl (by kernel_rfl) (by kernel_rfl) (by kernel_rfl) (fun _ _ _ h => h) (Or.inr ⟨by rfl, rfl⟩) (by assumption) ?_)
                | (refine wpAnyH_take (i := 4) (v := ?_) rfl (by kernel_rfl) (by kernel_rfl) (by kernel_rfl) (fun _ _ _ h => h) (Or.inl ⟨by rfl, ?_⟩) (by assumption) ?_
                   rotate_left
                   (intro w hSw
                    (try dsimp only at hSw)
                    (go_simp <;> with_reducible rfl)))
              try simp only [Act.put, List.getElem_toArray, List.getElem_cons_zero, List.getElem_cons_succ, List.setIfInBounds_toArray, List.set_cons_zero, List.set_cons_succ]
              first
                | (refine wpAnyH_take (i := 5) (v := undef) rfl (by kernel_rfl) (by kernel_rfl) (by kernel_rfl) (fun _ _ _ h => h) (Or.inr ⟨by rfl, rfl⟩) (by assumption) ?_)
                | (refine wpAnyH_take (i := 5) (v := ?_) rfl (by kernel_rfl) (by kernel_rfl) (by kernel_rfl) (fun _ _ _ h => h) (Or.inl ⟨by rfl, ?_⟩) (by assumption) ?_
                   rotate_left
                   (intro w hSw
                    (try dsimp only at hSw)
                    (go_simp <;> with_reducible rfl)))
              try simp only [Act.put, List.getElem_toArray, List.getElem_cons_zero, List.getElem_cons_succ, List.setIfInBounds_toArray, List.set_cons_zero, List.set_cons_succ]
              first
                | (refine wpAnyH_take (i := 6) (v := undef) rfl (by kernel_rfl) (by kernel_rfl) (by kernel_rfl) (fun _ _ _ h => h) (Or.inr ⟨by rfl, rfl⟩) (by assumption) ?_)
                | (refine wpAnyH_take (i := 6) (v := ?_) rfl (by kernel_rfl) (by kernel_rfl) (by kernel_rfl) (fun _ _ _ h => h) (Or.inl ⟨by rfl, ?_⟩) (by assumption) ?_
                   rotate_left
                   (intro w hSw
                    (try dsimp only at hSw)
                    (go_simp <;> with_reducible rfl)))
              try simp only [Act.put, List.getElem_toArray, List.getElem_cons_zero, List.getElem_cons_succ, List.setIfInBounds_toArray, List.set_cons_zero, List.set_cons_succ]
              first
                | (refine wpAnyH_take (i := 7) (v := undef) rfl (by kernel_rfl) (by kernel_rfl) (by kernel_rfl) (fun _ _ _ h => h) (Or.inr ⟨by rfl, rfl⟩) (by assumption) ?_)
                | (refine wpAnyH_take (i := 7) (v := ?_) rfl (by kernel_rfl) (by kernel_rfl) (by kernel_rfl) (fun _ _ _ h => h) (Or.inl ⟨by rfl, ?_⟩) (by assumption) ?_
                   rotate_left
                   (intro w hSw
                    (try dsimp only at hSw)
                    (go_simp <;> with_reducible rfl)))
              try simp only [Act.put, List.getElem_toArray, List.getElem_cons_zero, List.getElem_cons_succ, List.setIfInBounds_toArray, List.set_cons_zero, List.set_cons_succ]
              first
                | (refine wpAnyH_take (i := 8) (v := undef) rfl (by kernel_rfl) (by kernel_rfl) (by kernel_rfl) (fun _ _ _ h => h) (Or.inr ⟨by rfl, rfl⟩) (by assumption) ?_)
                | (refine wpAnyH_take (i := 8) (v := ?_) rfl (by kernel_rfl) (by kernel_rfl) (by kernel_rfl) (fun _ _ _ h => h) (Or.inl ⟨by rfl, ?_⟩) (by assumption) ?_
                   rotate_left
                   (intro w hSw
                    (try dsimp only at hSw)
                    (go_simp <;> with_reducible rfl)))
              try simp only [Act.put, List.getElem_toArray, List.getElem_cons_zero, List.getElem_cons_succ, List.setIfInBounds_toArray, List.set_cons_zero, List.set_cons_succ]
              first
                | (refine wpAnyH_take (i := 9) (v := undef) rfl (by kernel_rfl) (by kernel_rfl) (by kernel_rfl) (fun _ _ _ h => h) (Or.inr ⟨by rfl, rfl⟩) (by assumption) ?_)
                | (refine wpAnyH_take (i := 9) (v := ?_) rfl (by kernel_rfl) (by kernel_rfl) (by kernel_rfl) (fun _ _ _ h => h) (Or.inl ⟨by rfl, ?_⟩) (by assumption) ?_
                   rotate_left
                   (intro w hSw
                    (try dsimp only at hSw)
                    (go_simp <;> with_reducible rfl)))
              try simp only [Act.put, List.getElem_toArray, List.getElem_cons_zero, List.getElem_cons_succ, List.setIfInBounds_toArray, List.set_cons_zero, List.set_cons_succ]
              first
                | (refine wpAnyH_take (i := 10) (v := undef) rfl (by kernel_rfl) (by kernel_rfl) (by kernel_rfl) (fun _ _ _ h => h) (Or.inr ⟨by rfl, rfl⟩) (by assumption) ?_)
                | (refine wpAnyH_take (i := 10) (v := ?_) rfl (by kernel_rfl) (by kernel_rfl) (by kernel_rfl) (fun _ _ _ h => h) (Or.inl ⟨by rfl, ?_⟩) (by assumption) ?_
                   rotate_left
                   (intro w hSw
                    (try dsimp only at hSw)
                    (go_simp <;> with_reducible rfl)))
              try simp only [Act.put, List.getElem_toArray, List.getElem_cons_zero, List.getElem_cons_succ, List.setIfInBounds_toArray, List.set_cons_zero, List.set_cons_succ]
              first
                | (refine wpAnyH_take (i := 11) (v := undef) rfl (by kernel_rfl) (by kernel_rfl) (by kernel_rfl) (fun _ _ _ h => h) (Or.inr ⟨by rfl, rfl⟩) (by assumption) ?_)
                | (refine wpAnyH_take (i := 11) (v := ?_) rfl (by kernel_rfl) (by kernel_rfl) (by kernel_rfl) (fun _ _ _ h => h) (Or.inl ⟨by rfl, ?_⟩) (by assumption) ?_
                   rotate_left
                   (intro w hSw
                    (try dsimp only at hSw)
                    (go_simp <;> with_reducible rfl)))
              try simp only [Act.put, List.getElem_toArray, List.getElem_cons_zero, List.getElem_cons_succ, List.setIfInBounds_toArray, List.set_cons_zero, List.set_cons_succ]
              first
                | (refine wpAnyH_take (i := 12) (v := undef) rfl (by kernel_rfl) (by kernel_rfl) (by kernel_rfl) (fun _ _ _ h => h) (Or.inr ⟨by rfl, rfl⟩) (by assumption) ?_)
                | (refine wpAnyH_take (i := 12) (v := ?_) rfl (by kernel_rfl) (by kernel_rfl) (by kernel_rfl) (fun _ _ _ h => h) (Or.inl ⟨by rfl, ?_⟩) (by assumption) ?_
                   rotate_left
                   (intro w hSw
                    (try dsimp only at hSw)
                    (go_simp <;> with_reducible rfl)))
              try simp only [Act.put, List.getElem_toArray, List.getElem_cons_zero, List.getElem_cons_succ, List.setIfInBounds_toArray, List.set_cons_zero, List.set_cons_succ]
              first
                | (refine wpAnyH_take (i := 13) (v := undef) rfl (by kernel_rfl) (by kernel_rfl) (by kernel_rfl) (fun _ _ _ h => h) (Or.inr ⟨by rfl, rfl⟩) (by assumption) ?_)
                | (refine wpAnyH_take (i := 13) (v := ?_) rfl (by kernel_rfl) (by kernel_rfl) (by kernel_rfl) (fun _ _ _ h => h) (Or.inl ⟨by rfl, ?_⟩) (by assumption) ?_
                   rotate_left
                   (intro w hSw
                    (try dsimp only at hSw)
                    (go_simp <;> with_reducible rfl)))
              try simp only [Act.put, List.getElem_toArray, List.getElem_cons_zero, List.getElem_cons_succ, List.setIfInBounds_toArray, List.set_cons_zero, List.set_cons_succ]
              first
                | (refine wpAnyH_take (i := 14) (v := undef) rfl (by kernel_rfl) (by kernel_rfl) (by kernel_rfl) (fun _ _ _ h => h) (Or.inr ⟨by rfl, rfl⟩) (by assumption) ?_)
                | (refine wpAnyH_take (i := 14) (v := ?_) rfl (by kernel_rfl) (by kernel_rfl) (by kernel_rfl) (fun _ _ _ h => h) (Or.inl ⟨by rfl, ?_⟩) (by assumption) ?_
                   rotate_left
                   (intro w hSw
                    (try dsimp only at hSw)
                    (go_simp <;> with_reducible rfl)))
              try simp only [Act.put, List.getElem_toArray, List.getElem_cons_zero, List.getElem_cons_succ, List.setIfInBounds_toArray, List.set_cons_zero, List.set_cons_succ]
              refine wpAnyH_done (by kernel_rfl) ?_ _
              go_wp2_with fail
              go_meet
              exact ⟨rfl, hide (Chg.refl (fun _ => False) w16).drew⟩
            | some uo =>
              obtain ⟨⟨v0, v1, v2, v3⟩, ul⟩ := uo
              cases RV with
              | none => cases hm
              | some vo =>
                obtain ⟨⟨u0, u1, u2, u3⟩, vl⟩ := vo
                simp only [Option.map_some, Option.some.injEq, Prod.mk.injEq] at hm
                obtain ⟨rfl, rfl, rfl, rfl⟩ := hm
                obtain rfl : fe = 0 := HFE.out.symm
                have OKu := hide (OKU.out _ rfl)
                simp only [Option.getD_some, Option.isSome_some] at *
                try dsimp only at *
                clear AP OKU
                have i0 : w16.cell? ⟨U, 0, none⟩ = some (.slice ua u0.len uc) := blk_cell BU.out 0
                have i1 : w16.cell? ⟨U, 1, none⟩ = some (.int .i64 u1) := blk_cell BU.out 1
                have i2 : w16.cell? ⟨U, 2, none⟩ = some (.int .i64 u2) := blk_cell BU.out 2
                have i3 : w16.cell? ⟨U, 3, none⟩ = some (.slice ud u3.len ue) := blk_cell BU.out 3
                have i4 : w16.cell? ⟨V, 0, none⟩ = some (.slice va u0.len vc) := blk_cell BV.out 0
                have i5 : w16.cell? ⟨V, 1, none⟩ = some (.int .i64 u1) := blk_cell BV.out 1
                have i6 : w16.cell? ⟨V, 2, none⟩ = some (.int .i64 u2) := blk_cell BV.out 2
                have i7 : w16.cell? ⟨V, 3, none⟩ = some (.slice vd u3.len ve) := blk_cell BV.out 3
                refine wp_region_held_drew (S := (fun w' => w'.cell? ⟨U, 0, none⟩ = some (.slice ua u0.len uc) ∧ w'.cell? ⟨U, 1, none⟩ = some (.int .i64 u1) ∧ w'.cell? ⟨U, 2, none⟩ = some (.int .i64 u2) ∧ w'.cell? ⟨U, 3, none⟩ = some (.slice ud u3.len ue) ∧ w'.cell? ⟨V, 0, none⟩ = some (.slice va u0.len vc) ∧ w'.cell? ⟨V, 1, none⟩ = some (.int .i64 u1) ∧ w'.cell? ⟨V, 2, none⟩ = some (.int .i64 u2) ∧ w'.cell? ⟨V, 3, none⟩ = some (.slice vd u3.len ve))) (by kernel_rfl) (by go_keep) (fun hHeld => ?_)
                first
                  | (refine wpAnyH_take (i := 0) (v := undef) rfl (by kernel_rfl) (by kernel_rfl) (by kernel_rfl) (fun _ _ _ h => h) (Or.inr ⟨by rfl, rfl⟩) (by assumption) ?_)
                  | (refine wpAnyH_take (i := 0) (v := ?_) rfl (by kernel_rfl) (by kernel_rfl) (by kernel_rfl) (fun _ _ _ h => h) (Or.inl ⟨by rfl, ?_⟩) (by assumption) ?_
                     rotate_left
                     (intro w hSw
                      (try dsimp only at hSw)
                      (go_simp <;> with_reducible rfl)))
                try simp only [Act.put, List.getElem_toArray, List.getElem_cons_zero, List.getElem_cons_succ, List.setIfInBounds_toArray, List.set_cons_zero, List.set_cons_succ]
                first
                  | (refine wpAnyH_take (i := 1) (v := undef) rfl (by kernel_rfl) (by kernel_rfl) (by kernel_rfl) (fun _ _ _ h => h) (Or.inr ⟨by rfl, rfl⟩) (by assumption) ?_)
                  | (refine wpAnyH_take (i := 1) (v := ?_) rfl (by kernel_rfl) (by kernel_rfl) (by kernel_rfl) (fun _ _ _ h => h) (Or.inl ⟨by rfl, ?_⟩) (by assumption) ?_
                     rotate_left
                     (intro w hSw
                      (try dsimp only at hSw)
                      (go_simp <;> with_reducible rfl)))
                try simp only [Act.put, List.getElem_toArray, List.getElem_cons_zero, List.getElem_cons_succ, List.setIfInBounds_toArray, List.set_cons_zero, List.set_cons_succ]
                first
                  | (refine wpAnyH_take (i := 2) (v := undef) rfl (by kernel_rfl) (by kernel_rfl) (by kernel_rfl) (fun _ _ _ h => h) (Or.inr ⟨by rfl, rfl⟩) (by assumption) ?_)
                  | (refine wpAnyH_take (i := 2) (v := ?_) rfl (by kernel_rfl) (by kernel_rfl) (by kernel_rfl) (fun _ _ _ h => h) (Or.inl ⟨by rfl, ?_⟩) (by assumption) ?_
                     rotate_left
                     (intro w hSw
                      (try dsimp only at hSw)
                      (go_simp <;> with_reducible rfl)))
                try simp only [Act.put, List.getElem_toArray, List.getElem_cons_zero, List.getElem_cons_succ, List.setIfInBounds_toArray, List.set_cons_zero, List.set_cons_succ]
                first
                  | (refine wpAnyH_take (i := 3) (v := undef) rfl (by kernel_rfl) (by kernel_rfl) (by kernel_rfl) (fun _ _ _ h => h) (Or.inr ⟨by rfl, rfl⟩) (by assumption) ?_)
                  | (refine wpAnyH_take (i := 3) (v := ?_) rfl (by kernel_rfl) (by kernel_rfl) (by kernel_rfl) (fun _ _ _ h => h) (Or.inl ⟨by rfl, ?_⟩) (by assumption) ?_
                     rotate_left
                     (intro w hSw
                      (try dsimp only at hSw)
                      (go_simp <;> with_reducible rfl)))
                try simp only [Act.put, List.getElem_toArray, List.getElem_cons_zero, List.getElem_cons_succ, List.setIfInBounds_toArray, List.set_cons_zero, List.set_cons_succ]
                first
                  | (refine wpAnyH_take (i := 4) (v := undef) rfl (by kernel_rfl) (by kernel_rfl) (by kernel_rfl) (fun _ _ _ h => h) (Or.inr ⟨by rfl, rfl⟩) (by assumption) ?_)
                  | (refine wpAnyH_take (i := 4) (v := ?_) rfl (by kernel_rfl) (by kernel_rfl) (by kernel_rfl) (fun _ _ _ h => h) (Or.inl ⟨by rfl, ?_⟩) (by assumption) ?_
                     rotate_left
                     (intro w hSw
                      (try dsimp only at hSw)
                      (go_simp <;> with_reducible rfl)))
                try simp only [Act.put, List.getElem_toArray, List.getElem_cons_zero, List.getElem_cons_succ, List.setIfInBounds_toArray, List.set_cons_zero, List.set_cons_succ]
                first
                  | (refine wpAnyH_take (i := 5) (v := undef) rfl (by kernel_rfl) (by kernel_rfl) (by kernel_rfl) (fun _ _ _ h => h) (Or.inr ⟨by rfl, rfl⟩) (by assumption) ?_)
                  | (refine wpAnyH_take (i := 5) (v := ?_) rfl (by kernel_rfl) (by kernel_rfl) (by kernel_rfl) (fun _ _ _ h => h) (Or.inl ⟨by rfl, ?_⟩) (by assumption) ?_
                     rotate_left
                     (intro w hSw
                      (try dsimp only at hSw)
                      (go_simp <;> with_reducible rfl)))
                try simp only [Act.put, List.getElem_toArray, List.getElem_cons_zero, List.getElem_cons_succ, List.setIfInBounds_toArray, List.set_cons_zero, List.set_cons_succ]
                first
                  | (refine wpAnyH_take (i := 6) (v := undef) rfl (by kernel_rfl) (by kernel_rfl) (by kernel_rfl) (fun _ _ _ h => h) (Or.inr ⟨by rfl, rfl⟩) (by assumption) ?_)
                  | (refine wpAnyH_take (i := 6) (v := ?_) rfl (by kernel_rfl) (by kernel_rfl) (by kernel_rfl) (fun _ _ _ h => h) (Or.inl ⟨by rfl, ?_⟩) (by assumption) ?_
                     rotate_left
                     (intro w hSw
                      (try dsimp only at hSw)
                      (go_simp <;> with_reducible rfl)))
                try simp only [Act.put, List.getElem_toArray, List.getElem_cons_zero, List.getElem_cons_succ, List.setIfInBounds_toArray, List.set_cons_zero, List.set_cons_succ]
                first
                  | (refine wpAnyH_take (i := 7) (v := undef) rfl (by kernel_rfl) (by kernel_rfl) (by kernel_rfl) (fun _ _ _ h => h) (Or.inr ⟨by rfl, rfl⟩) (by assumption) ?_)
                  | (refine wpAnyH_take (i := 7) (v := ?_) rfl (by kernel_rfl) (by kernel_rfl) (by kernel_rfl) (fun _ _ _ h => h) (Or.inl ⟨by rfl, ?_⟩) (by assumption) ?_
                     rotate_left
                     (intro w hSw
                      (try dsimp only at hSw)
                      (go_simp <;> with_reducible rfl)))
                try simp only [Act.put, List.getElem_toArray, List.getElem_cons_zero, List.getElem_cons_succ, List.setIfInBounds_toArray, List.set_cons_zero, List.set_cons_succ]
                first
                  | (refine wpAnyH_take (i := 8) (v := undef) rfl (by kernel_rfl) (by kernel_rfl) (by kernel_rfl) (fun _ _ _ h => h) (Or.inr ⟨by rfl, rfl⟩) (by assumption) ?_)
                  | (refine wpAnyH_take (i := 8) (v := ?_) rfl (by kernel_rfl) (by kernel_rfl) (by kernel_rfl) (fun _ _ _ h => h) (Or.inl ⟨by rfl, ?_⟩) (by assumption) ?_
                     rotate_left
                     (intro w hSw
                      (try dsimp only at hSw)
                      (go_simp <;> with_reducible rfl)))
                try simp only [Act.put, List.getElem_toArray, List.getElem_cons_zero, List.getElem_cons_succ, List.setIfInBounds_toArray, List.set_cons_zero, List.set_cons_succ]
                first
                  | (refine wpAnyH_take (i := 10) (v := undef) rfl (by kernel_rfl) (by kernel_rfl) (by kernel_rfl) (fun _ _ _ h => h) (Or.inr ⟨by rfl, rfl⟩) (by assumption) ?_)
                  | (refine wpAnyH_take (i := 10) (v := ?_) rfl (by kernel_rfl) (by kernel_rfl) (by kernel_rfl) (fun _ _ _ h => h) (Or.inl ⟨by rfl, ?_⟩) (by assumption) ?_
                     rotate_left
                     (intro w hSw
                      (try dsimp only at hSw)
                      (go_simp <;> with_reducible rfl)))
                try simp only [Act.put, List.getElem_toArray, List.getElem_cons_zero, List.getElem_cons_succ, List.setIfInBounds_toArray, List.set_cons_zero, List.set_cons_succ]
                refine wpAnyH_ready (rs := [9]) (by kernel_rfl) (by simp) ?_
                refine AllReadyH.cons (i := 9) (o := _) rfl (fun K hK => ?_) ?_
                rotate_left
                · exact AllReadyH.nil
                go_simp
                refine (of06_any (u0, u1, u2, u3) OKu.out _ _ w16.drew (fun x h => h) (TV4.out.nqa.all (Chg.refl (fun _ => False) w16).drew)).mono ?_
                rintro e w6 ⟨⟨v', rfl, tv⟩, g⟩
                obtain ⟨oa, oc, od, oe, rfl, _, _⟩ := id tv
                dsimp only [Tm.bs, Tm.kd, Tm.ix, Tm.ag]
                have g' := (Chg.refl (fun _ => False) w16).drew.trans g
                have i0 := g'.cell (fun h => h) i0
                have i1 := g'.cell (fun h => h) i1
                have i2 := g'.cell (fun h => h) i2
                have i3 := g'.cell (fun h => h) i3
                have i4 := g'.cell (fun h => h) i4
                have i5 := g'.cell (fun h => h) i5
                have i6 := g'.cell (fun h => h) i6
                have i7 := g'.cell (fun h => h) i7
                have G6 := hide g'
                have TO := hide (tv_new tv)
                clear tv g g'
                go_simp
                refine hK.out _ _ ⟨i0, i1, i2, i3, i4, i5, i6, i7⟩ (fun hHeld => ?_)
                clear hK K
                try simp only [Act.put, List.getElem_toArray, List.getElem_cons_zero, List.getElem_cons_succ, List.setIfInBounds_toArray, List.set_cons_zero, List.set_cons_succ]
                refine wpAnyH_ready (rs := [11]) (by kernel_rfl) (by simp) ?_
                refine AllReadyH.cons (i := 11) (o := _) rfl (fun K hK => ?_) ?_
                rotate_left
                · exact AllReadyH.nil
                go_simp
                refine (same06_any (u0, u1, u2, u3) OKu.out _ _ _ w6 (fun x h => h) TO.out (TU.out.nqa.all G6.out)).mono ?_
                rintro e w7 ⟨rfl, g'⟩
                have i0 := g'.cell (fun h => h) i0
                have i1 := g'.cell (fun h => h) i1
                have i2 := g'.cell (fun h => h) i2
                have i3 := g'.cell (fun h => h) i3
                have i4 := g'.cell (fun h => h) i4
                have i5 := g'.cell (fun h => h) i5
                have i6 := g'.cell (fun h => h) i6
                have i7 := g'.cell (fun h => h) i7
                have G7 := hide (G6.out.trans g')
                clear g'
                go_simp
                refine hK.out _ _ ⟨i0, i1, i2, i3, i4, i5, i6, i7⟩ (fun hHeld => ?_)
                clear hK K
                try simp only [Act.put, List.getElem_toArray, List.getElem_cons_zero, List.getElem_cons_succ, List.setIfInBounds_toArray, List.set_cons_zero, List.set_cons_succ]
                first
                  | (refine wpAnyH_take (i := 12) (v := undef) rfl (by kernel_rfl) (by kernel_rfl) (by kernel_rfl) (fun _ _ _ h => h) (Or.inr ⟨by rfl, rfl⟩) (by assumption) ?_)
                  | (refine wpAnyH_take (i := 12) (v := ?_) rfl (by kernel_rfl) (by kernel_rfl) (by kernel_rfl) (fun _ _ _ h => h) (Or.inl ⟨by rfl, ?_⟩) (by assumption) ?_
                     rotate_left
                     (intro w hSw
                      (try dsimp only at hSw)
                      (go_simp <;> with_reducible rfl)))
                try simp only [Act.put, List.getElem_toArray, List.getElem_cons_zero, List.getElem_cons_succ, List.setIfInBounds_toArray, List.set_cons_zero, List.set_cons_succ]
                first
                  | (refine wpAnyH_take (i := 13) (v := undef) rfl (by kernel_rfl) (by kernel_rfl) (by kernel_rfl) (fun _ _ _ h => h) (Or.inr ⟨by rfl, rfl⟩) (by assumption) ?_)
                  | (refine wpAnyH_take (i := 13) (v := ?_) rfl (by kernel_rfl) (by kernel_rfl) (by kernel_rfl) (fun _ _ _ h => h) (Or.inl ⟨by rfl, ?_⟩) (by assumption) ?_
                     rotate_left
                     (intro w hSw
                      (try dsimp only at hSw)
                      (go_simp <;> with_reducible rfl)))
                try simp only [Act.put, List.getElem_toArray, List.getElem_cons_zero, List.getElem_cons_succ, List.setIfInBounds_toArray, List.set_cons_zero, List.set_cons_succ]
                first
                  | (refine wpAnyH_take (i := 14) (v := undef) rfl (by kernel_rfl) (by kernel_rfl) (by kernel_rfl) (fun _ _ _ h => h) (Or.inr ⟨by rfl, rfl⟩) (by assumption) ?_)
                  | (refine wpAnyH_take (i := 14) (v := ?_) rfl (by kernel_rfl) (by kernel_rfl) (by kernel_rfl) (fun _ _ _ h => h) (Or.inl ⟨by rfl, ?_⟩) (by assumption) ?_
                     rotate_left
                     (intro w hSw
                      (try dsimp only at hSw)
                      (go_simp <;> with_reducible rfl)))
                try simp only [Act.put, List.getElem_toArray, List.getElem_cons_zero, List.getElem_cons_succ, List.setIfInBounds_toArray, List.set_cons_zero, List.set_cons_succ]
                refine wpAnyH_done (by kernel_rfl) ?_ _
                go_wp2_with fail
                go_meet
                exact ⟨rfl, G7⟩
        case rest =>
        obtain ⟨rfl, GX⟩ := hcut
        generalize wc = w17 at *
        clear AP OKU
        replace G := hide (G.out.trans GX.out)
        replace BP := hide (GX.out.blk (fun h => h) BP.out)
        replace BQ := hide (GX.out.blk (fun h => h) BQ.out)
        replace BO := hide (GX.out.blk (fun h => h) BO.out)
        replace BC := hide (GX.out.blk (fun h => h) BC.out)
        replace BY := hide (GX.out.blk (fun h => h) BY.out)
        replace TX := hide (TX.out.nq GX.out)
        replace TC := hide (TC.out.nq GX.out)
        replace TY := hide (TY.out.nq GX.out)
        clear GX BU BV TU TV4 HRO HRV HB1 HB2 HFE HAB
        have m0 : w17.cell? ⟨Q, 0, none⟩ = some (.slice ca c0.len cc) := blk_cell BQ.out 0
        have m2 := blk_free BQ.out 0
        have GS := hide (Chg.set w17 Q 0 (.slice none 0 0))
        have HOd : Hid (P < Q ∧ Q < O ∧ Q < C ∧ Q < Y) := hide (by have := HOa.out; omega)
        go_upto_region 18 with fail
        replace BQ : Hid ((w17.setCell ⟨Q, 0, none⟩ (.slice none 0 0)).heap[Q]? = some (.cells #[.slice none 0 0, .int .i64 y1, .int .i64 y2, .slice qd y3.len qe] 27)) := hide (blk_set BQ.out 0 (.slice none 0 0))
        replace G : Hid (Chg (fun _ => False) w _) := hide (((G.out.none (S := fun x => x = Q)).trans GS.out).mono (fun x hx e => by have := HO7.out; omega))
        replace BP := hide (GS.out.blk (by have := HOd.out; omega) BP.out)
        replace BO := hide (GS.out.blk (by have := HOd.out; omega) BO.out)
        replace BC := hide (GS.out.blk (by have := HOd.out; omega) BC.out)
        replace BY := hide (GS.out.blk (by have := HOd.out; omega) BY.out)
        replace TX := hide (TX.out.nqs GS.out)
        replace TC := hide (TC.out.nqs GS.out)
        replace TY := hide (TY.out.nqs GS.out)
        have HLq : Hid (Q < (w17.setCell ⟨Q, 0, none⟩ (.slice none 0 0)).heap.size) := hide (blk_lt BQ.out)
        clear GS m0 m2
        generalize w17.setCell ⟨Q, 0, none⟩ (.slice none 0 0) = w18 at *
        have m0 : w18.cell? ⟨P, 0, none⟩ = some (.slice pa t0.len pc) := blk_cell BP.out 0
        have m1 : w18.cell? ⟨P, 1, none⟩ = some (.int .i64 t1) := blk_cell BP.out 1
        have m2 : w18.cell? ⟨P, 2, none⟩ = some (.int .i64 t2) := blk_cell BP.out 2
        have m3 : w18.cell? ⟨P, 3, none⟩ = some (.slice pd t3.len pe) := blk_cell BP.out 3
        have n0 : w18.cell? ⟨Q, 0, none⟩ = some (.slice none 0 0) := blk_cell BQ.out 0
        have n1 : w18.cell? ⟨Q, 1, none⟩ = some (.int .i64 y1) := blk_cell BQ.out 1
        have n2 : w18.cell? ⟨Q, 2, none⟩ = some (.int .i64 y2) := blk_cell BQ.out 2
        have n3 : w18.cell? ⟨Q, 3, none⟩ = some (.slice qd y3.len qe) := blk_cell BQ.out 3
        have YR : Hid (TV w18 (NQ P w) (.agg #[.slice none 0 0, .int .i64 y1, .int .i64 y2, .slice qd y3.len qe]) (.nil, y1, y2, y3)) := hide (by
          obtain ⟨a1, a2, a3, a4, e1, e2, e3⟩ := Y0.out
          injection e1 with e1
          simp only [Array.mk.injEq, List.cons.injEq, Tm.bs, Tm.kd, Tm.ix, Tm.ag] at e1
          obtain ⟨_, _, _, e4, _⟩ := e1
          injection e4 with e4 _ e5
          subst e4 e5
          exact ⟨none, 0, _, _, rfl, Ts.nil _ _, (e3.chg G.out (fun _ _ h => h)).up (fun x hx => ⟨hx, by have := HP.out; omega⟩)⟩)
        have XW5 : Hid (∀ x, NQ P w x → x < w18.heap.size ∧ x ≠ Q) := hide (fun x hx => by have := G.out.size; have := HP.out; have := hx.1; omega)
        have RR := hide (refrep_any p (t0, t1, t2, t3) (.nil, y1, y2, y3) (z0, z1, z2, z3) (.agg #[.slice pa t0.len pc, .int .i64 t1, .int .i64 t2, .slice pd t3.len pe]) (.agg #[.slice none 0 0, .int .i64 y1, .int .i64 y2, .slice qd y3.len qe]) (.slice xpa p.length xpc) (NQ P w) w18 OKT.out HRZ.out (fun x hx => (XW5.out x hx).1) ((T0.out.chg G.out (fun _ _ h => h)).up (fun x hx => ⟨hx, by have := HP.out; omega⟩)) YR.out (PO.out.1.all G.out))
        clear YR
        go_wp2_with fail
        refine RR.out.mono ?_
        rintro e w19 ⟨⟨v', rfl, tv⟩, g⟩
        obtain ⟨wa, wc2, wd, we, rfl, _, _⟩ := id tv
        have tl := True.intro
        dsimp only [Tm.bs, Tm.kd, Tm.ix, Tm.ag]
        have GA := al w19 (.cells #[.slice wa z0.len wc2, .int .i64 z1, .int .i64 z2, .slice wd z3.len we] 27)
        have BW := hide (blk_new w19 (.cells #[.slice wa z0.len wc2, .int .i64 z1, .int .i64 z2, .slice wd z3.len we] 27))
        have g' := g.trans GA
        have TW : Hid (TV (w19.alloc (.cells #[.slice wa z0.len wc2, .int .i64 z1, .int .i64 z2, .slice wd z3.len we] 27)) (NQ Q (w19.alloc (.cells #[.slice wa z0.len wc2, .int .i64 z1, .int .i64 z2, .slice wd z3.len we] 27))) (.agg #[.slice wa z0.len wc2, .int .i64 z1, .int .i64 z2, .slice wd z3.len we]) _) := hide ((tv.chg GA (fun _ _ h => h)).up (fun x hx => by
          have h1 := g.size
          have h2 := GA.size
          have h3 := HLq.out
          rcases hx with hx | hx
          · have := XW5.out x hx; exact ⟨by omega, this.2⟩
          · exact ⟨by have := hx.2; omega, by have := hx.1; omega⟩))
        replace G := hide (G.out.trans g')
        replace BP := hide (g'.blk (fun h => h) BP.out)
        replace BQ := hide (g'.blk (fun h => h) BQ.out)
        replace BO := hide (g'.blk (fun h => h) BO.out)
        replace BC := hide (g'.blk (fun h => h) BC.out)
        replace BY := hide (g'.blk (fun h => h) BY.out)
        replace TX := hide (TX.out.nq g')
        replace TC := hide (TC.out.nq g')
        replace TY := hide (TY.out.nq g')
        have SN : Hid (w18.heap.size ≤ w19.heap.size) := hide g.size
        clear tv tl g GA g' RR XW5 m0 m1 m2 m3 n0 n1 n2 n3
        go_upto_region 19 with fail
        obtain ⟨W, hW⟩ : ∃ W, w19.heap.size = W := ⟨_, rfl⟩
        rw [hW] at BW ⊢
        have HOe : Hid (P < Q ∧ Q < O ∧ Q < C ∧ Q < Y ∧ Q < W) := hide (by have := HOd.out; have := HLq.out; have := SN.out; omega)
        clear hW SN
        generalize w19.alloc (.cells #[.slice wa z0.len wc2, .int .i64 z1, .int .i64 z2, .slice wd z3.len we] 27) = w20 at *
        have m0 : w20.cell? ⟨C, 0, none⟩ = some (.slice ca c0.len cc) := blk_cell BC.out 0
        have m1 : w20.cell? ⟨Q, 0, none⟩ = some (.slice none 0 0) := blk_cell BQ.out 0
        have m2 := blk_free BQ.out 0
        have GS := hide (Chg.set w20 Q 0 (.slice ca c0.len cc))
        go_upto_region 20 with fail
        replace BQ : Hid ((w20.setCell ⟨Q, 0, none⟩ (.slice ca c0.len cc)).heap[Q]? = some (.cells #[.slice ca c0.len cc, .int .i64 y1, .int .i64 y2, .slice qd y3.len qe] 27)) := hide (blk_set BQ.out 0 (.slice ca c0.len cc))
        replace G : Hid (Chg (fun _ => False) w _) := hide (((G.out.none (S := fun x => x = Q)).trans GS.out).mono (fun x hx e => by have := HO7.out; omega))
        replace BO := hide (GS.out.blk (by have := HOe.out; omega) BO.out)
        replace BC := hide (GS.out.blk (by have := HOe.out; omega) BC.out)
        replace BY := hide (GS.out.blk (by have := HOe.out; omega) BY.out)
        replace BW := hide (GS.out.blk (by have := HOe.out; omega) BW.out)
        replace TX := hide (TX.out.nqs GS.out)
        replace TC := hide (TC.out.nqs GS.out)
        replace TY := hide (TY.out.nqs GS.out)
        replace TW := hide (TW.out.nqs GS.out)
        clear GS m0 m1 m2
        generalize w20.setCell ⟨Q, 0, none⟩ (.slice ca c0.len cc) = w21 at *
        have TQ : Hid (TV w21 (fun x => x < w21.heap.size) (.agg #[.slice ca c0.len cc, .int .i64 y1, .int .i64 y2, .slice qd y3.len qe]) (c0, y1, y2, y3)) := hide (by
          obtain ⟨a1, a2, a3, a4, e1, e2, e3⟩ := Y0.out
          injection e1 with e1
          simp only [Array.mk.injEq, List.cons.injEq, Tm.bs, Tm.kd, Tm.ix, Tm.ag] at e1
          obtain ⟨_, _, _, e4, _⟩ := e1
          injection e4 with e4 _ e5
          subst e4 e5
          obtain ⟨d1, d2, d3, d4, f1, f2, f3⟩ := TC.out
          injection f1 with f1
          simp only [Array.mk.injEq, List.cons.injEq, Tm.bs, Tm.kd, Tm.ix, Tm.ag] at f1
          obtain ⟨f4, _⟩ := f1
          injection f4 with f4 _ f5
          subst f4 f5
          exact ⟨_, _, _, _, rfl, f2.up (fun x hx => hx.1), e3.all G.out⟩)
        have OKW : Hid (TmOk (c0, y1, y2, y3)) := hide (by
          have h1 := atR_ok p _ _ OKT.out HRA.out
          have h2 := atR_all p _ _ HRA.out
          have h3 := ST.out
          have h4 := OKY.out
          dsimp only [Tm.bs, Tm.ag] at h2
          exact ⟨h1.1, h4.2.1, h4.2.2.1, h4.2.2.2.1, by have := SY.out; have := h2; dsimp only [Tm.bs, Tm.ag]; omega⟩)
        have i0 : w21.cell? ⟨O, 0, none⟩ = some (.slice xa z0.len xc) := blk_cell BO.out 0
        have i1 : w21.cell? ⟨O, 1, none⟩ = some (.int .i64 z1) := blk_cell BO.out 1
        have i2 : w21.cell? ⟨O, 2, none⟩ = some (.int .i64 z2) := blk_cell BO.out 2
        have i3 : w21.cell? ⟨O, 3, none⟩ = some (.slice xd z3.len xe) := blk_cell BO.out 3
        have i4 : w21.cell? ⟨W, 0, none⟩ = some (.slice wa z0.len wc2) := blk_cell BW.out 0
        have i5 : w21.cell? ⟨W, 1, none⟩ = some (.int .i64 z1) := blk_cell BW.out 1
        have i6 : w21.cell? ⟨W, 2, none⟩ = some (.int .i64 z2) := blk_cell BW.out 2
        have i7 : w21.cell? ⟨W, 3, none⟩ = some (.slice wd z3.len we) := blk_cell BW.out 3
        have i8 : w21.cell? ⟨Y, 0, none⟩ = some (.slice ya c0.len yc) := blk_cell BY.out 0
        have i9 : w21.cell? ⟨Y, 1, none⟩ = some (.int .i64 y1) := blk_cell BY.out 1
        have i10 : w21.cell? ⟨Y, 2, none⟩ = some (.int .i64 y2) := blk_cell BY.out 2
        have i11 : w21.cell? ⟨Y, 3, none⟩ = some (.slice yd y3.len ye) := blk_cell BY.out 3
        have i12 : w21.cell? ⟨Q, 0, none⟩ = some (.slice ca c0.len cc) := blk_cell BQ.out 0
        have i13 : w21.cell? ⟨Q, 1, none⟩ = some (.int .i64 y1) := blk_cell BQ.out 1
        have i14 : w21.cell? ⟨Q, 2, none⟩ = some (.int .i64 y2) := blk_cell BQ.out 2
        have i15 : w21.cell? ⟨Q, 3, none⟩ = some (.slice qd y3.len qe) := blk_cell BQ.out 3
        refine wp_region_held_drew (S := (fun w' => w'.cell? ⟨O, 0, none⟩ = some (.slice xa z0.len xc) ∧ w'.cell? ⟨O, 1, none⟩ = some (.int .i64 z1) ∧ w'.cell? ⟨O, 2, none⟩ = some (.int .i64 z2) ∧ w'.cell? ⟨O, 3, none⟩ = some (.slice xd z3.len xe) ∧ w'.cell? ⟨W, 0, none⟩ = some (.slice wa z0.len wc2) ∧ w'.cell? ⟨W, 1, none⟩ = some (.int .i64 z1) ∧ w'.cell? ⟨W, 2, none⟩ = some (.int .i64 z2) ∧ w'.cell? ⟨W, 3, none⟩ = some (.slice wd z3.len we) ∧ w'.cell? ⟨Y, 0, none⟩ = some (.slice ya c0.len yc) ∧ w'.cell? ⟨Y, 1, none⟩ = some (.int .i64 y1) ∧ w'.cell? ⟨Y, 2, none⟩ = some (.int .i64 y2) ∧ w'.cell? ⟨Y, 3, none⟩ = some (.slice yd y3.len ye) ∧ w'.cell? ⟨Q, 0, none⟩ = some (.slice ca c0.len cc) ∧ w'.cell? ⟨Q, 1, none⟩ = some (.int .i64 y1) ∧ w'.cell? ⟨Q, 2, none⟩ = some (.int .i64 y2) ∧ w'.cell? ⟨Q, 3, none⟩ = some (.slice qd y3.len qe))) (by kernel_rfl) (by go_keep) (fun hHeld => ?_)
        refine wpAnyH_ready (rs := [0]) (by kernel_rfl) (by simp) ?_
        refine AllReadyH.cons (i := 0) (o := _) rfl (fun K hK => ?_) ?_
        rotate_left
        · exact AllReadyH.nil
        go_simp
        refine (known_any _).mono ?_
        rintro e n1 ⟨rfl, g⟩
        have g' := (Chg.refl (fun _ => False) w21).drew.trans g
        have i0 := g'.cell (fun h => h) i0
        have i1 := g'.cell (fun h => h) i1
        have i2 := g'.cell (fun h => h) i2
        have i3 := g'.cell (fun h => h) i3
        have i4 := g'.cell (fun h => h) i4
        have i5 := g'.cell (fun h => h) i5
        have i6 := g'.cell (fun h => h) i6
        have i7 := g'.cell (fun h => h) i7
        have i8 := g'.cell (fun h => h) i8
        have i9 := g'.cell (fun h => h) i9
        have i10 := g'.cell (fun h => h) i10
        have i11 := g'.cell (fun h => h) i11
        have i12 := g'.cell (fun h => h) i12
        have i13 := g'.cell (fun h => h) i13
        have i14 := g'.cell (fun h => h) i14
        have i15 := g'.cell (fun h => h) i15
        have N1 := hide g'
        clear g g'
        go_simp
        refine hK.out _ _ ⟨i0, i1, i2, i3, i4, i5, i6, i7, i8, i9, i10, i11, i12, i13, i14, i15⟩ (fun hHeld => ?_)
        clear hK K
        try simp only [Act.put, List.getElem_toArray, List.getElem_cons_zero, List.getElem_cons_succ, List.setIfInBounds_toArray, List.set_cons_zero, List.set_cons_succ]
        first
          | (refine wpAnyH_take (i := 1) (v := undef) rfl (by kernel_rfl) (by kernel_rfl) (by kernel_rfl) (fun _ _ _ h => h) (Or.inr ⟨by rfl, rfl⟩) (by assumption) ?_)
          | (refine wpAnyH_take (i := 1) (v := ?_) rfl (by kernel_rfl) (by kernel_rfl) (by kernel_rfl) (fun _ _ _ h => h) (Or.inl ⟨by rfl, ?_⟩) (by assumption) ?_
             rotate_left
             (intro w hSw
              (try dsimp only at hSw)
              (go_simp <;> with_reducible rfl)))
        try simp only [Act.put, List.getElem_toArray, List.getElem_cons_zero, List.getElem_cons_succ, List.setIfInBounds_toArray, List.set_cons_zero, List.set_cons_succ]
        first
          | (refine wpAnyH_take (i := 2) (v := undef) rfl (by kernel_rfl) (by kernel_rfl) (by kernel_rfl) (fun _ _ _ h => h) (Or.inr ⟨by rfl, rfl⟩) (by assumption) ?_)
          | (refine wpAnyH_take (i := 2) (v := ?_) rfl (by kernel_rfl) (by kernel_rfl) (by kernel_rfl) (fun _ _ _ h => h) (Or.inl ⟨by rfl, ?_⟩) (by assumption) ?_
             rotate_left
             (intro w hSw
              (try dsimp only at hSw)
              (go_simp <;> with_reducible rfl)))
        try simp only [Act.put, List.getElem_toArray, List.getElem_cons_zero, List.getElem_cons_succ, List.setIfInBounds_toArray, List.set_cons_zero, List.set_cons_succ]
        first
          | (refine wpAnyH_take (i := 3) (v := undef) rfl (by kernel_rfl) (by kernel_rfl) (by kernel_rfl) (fun _ _ _ h => h) (Or.inr ⟨by rfl, rfl⟩) (by assumption) ?_)
          | (refine wpAnyH_take (i := 3) (v := ?_) rfl (by kernel_rfl) (by kernel_rfl) (by kernel_rfl) (fun _ _ _ h => h) (Or.inl ⟨by rfl, ?_⟩) (by assumption) ?_
             rotate_left
             (intro w hSw
              (try dsimp only at hSw)
              (go_simp <;> with_reducible rfl)))
        try simp only [Act.put, List.getElem_toArray, List.getElem_cons_zero, List.getElem_cons_succ, List.setIfInBounds_toArray, List.set_cons_zero, List.set_cons_succ]
        first
          | (refine wpAnyH_take (i := 4) (v := undef) rfl (by kernel_rfl) (by kernel_rfl) (by kernel_rfl) (fun _ _ _ h => h) (Or.inr ⟨by rfl, rfl⟩) (by assumption) ?_)
          | (refine wpAnyH_take (i := 4) (v := ?_) rfl (by kernel_rfl) (by kernel_rfl) (by kernel_rfl) (fun _ _ _ h => h) (Or.inl ⟨by rfl, ?_⟩) (by assumption) ?_
             rotate_left
             (intro w hSw
              (try dsimp only at hSw)
              (go_simp <;> with_reducible rfl)))
        try simp only [Act.put, List.getElem_toArray, List.getElem_cons_zero, List.getElem_cons_succ, List.setIfInBounds_toArray, List.set_cons_zero, List.set_cons_succ]
        first
          | (refine wpAnyH_take (i := 5) (v := undef) rfl (by kernel_rfl) (by kernel_rfl) (by kernel_rfl) (fun _ _ _ h => h) (Or.inr ⟨by rfl, rfl⟩) (by assumption) ?_)
          | (refine wpAnyH_take (i := 5) (v := ?_) rfl (by kernel_rfl) (by kernel_rfl) (by kernel_rfl) (fun _ _ _ h => h) (Or.inl ⟨by rfl, ?_⟩) (by assumption) ?_
             rotate_left
             (intro w hSw
              (try dsimp only at hSw)
              (go_simp <;> with_reducible rfl)))
        try simp only [Act.put, List.getElem_toArray, List.getElem_cons_zero, List.getElem_cons_succ, List.setIfInBounds_toArray, List.set_cons_zero, List.set_cons_succ]
        first
          | (refine wpAnyH_take (i := 6) (v := undef) rfl (by kernel_rfl) (by kernel_rfl) (by kernel_rfl) (fun _ _ _ h => h) (Or.inr ⟨by rfl, rfl⟩) (by assumption) ?_)
          | (refine wpAnyH_take (i := 6) (v := ?_) rfl (by kernel_rfl) (by kernel_rfl) (by kernel_rfl) (fun _ _ _ h => h) (Or.inl ⟨by rfl, ?_⟩) (by assumption) ?_
             rotate_left
             (intro w hSw
              (try dsimp only at hSw)
              (go_simp <;> with_reducible rfl)))
        try simp only [Act.put, List.getElem_toArray, List.getElem_cons_zero, List.getElem_cons_succ, List.setIfInBounds_toArray, List.set_cons_zero, List.set_cons_succ]
        first
          | (refine wpAnyH_take (i := 8) (v := undef) rfl (by kernel_rfl) (by kernel_rfl) (by kernel_rfl) (fun _ _ _ h => h) (Or.inr ⟨by rfl, rfl⟩) (by assumption) ?_)
          | (refine wpAnyH_take (i := 8) (v := ?_) rfl (by kernel_rfl) (by kernel_rfl) (by kernel_rfl) (fun _ _ _ h => h) (Or.inl ⟨by rfl, ?_⟩) (by assumption) ?_
             rotate_left
             (intro w hSw
              (try dsimp only at hSw)
              (go_simp <;> with_reducible rfl)))
        try simp only [Act.put, List.getElem_toArray, List.getElem_cons_zero, List.getElem_cons_succ, List.setIfInBounds_toArray, List.set_cons_zero, List.set_cons_succ]
        refine wpAnyH_ready (rs := [7]) (by kernel_rfl) (by simp) ?_
        refine AllReadyH.cons (i := 7) (o := _) rfl (fun K hK => ?_) ?_
        rotate_left
        · exact AllReadyH.nil
        go_simp
        refine (of06_any (z0, z1, z2, z3) OKZ.out _ _ n1 (fun x h => h) (TX.out.nqa.all N1.out)).mono ?_
        rintro e n2 ⟨⟨v', rfl, tv⟩, g'⟩
        obtain ⟨oa, oc, od, oe, rfl, _, _⟩ := id tv
        dsimp only [Tm.bs, Tm.kd, Tm.ix, Tm.ag]
        have i0 := g'.cell (fun h => h) i0
        have i1 := g'.cell (fun h => h) i1
        have i2 := g'.cell (fun h => h) i2
        have i3 := g'.cell (fun h => h) i3
        have i4 := g'.cell (fun h => h) i4
        have i5 := g'.cell (fun h => h) i5
        have i6 := g'.cell (fun h => h) i6
        have i7 := g'.cell (fun h => h) i7
        have i8 := g'.cell (fun h => h) i8
        have i9 := g'.cell (fun h => h) i9
        have i10 := g'.cell (fun h => h) i10
        have i11 := g'.cell (fun h => h) i11
        have i12 := g'.cell (fun h => h) i12
        have i13 := g'.cell (fun h => h) i13
        have i14 := g'.cell (fun h => h) i14
        have i15 := g'.cell (fun h => h) i15
        have N2 := hide (N1.out.trans g')
        have TO := hide (tv_new tv)
        clear tv g'
        go_simp
        refine hK.out _ _ ⟨i0, i1, i2, i3, i4, i5, i6, i7, i8, i9, i10, i11, i12, i13, i14, i15⟩ (fun hHeld => ?_)
        clear hK K
        try simp only [Act.put, List.getElem_toArray, List.getElem_cons_zero, List.getElem_cons_succ, List.setIfInBounds_toArray, List.set_cons_zero, List.set_cons_succ]
        refine wpAnyH_ready (rs := [9]) (by kernel_rfl) (by simp) ?_
        refine AllReadyH.cons (i := 9) (o := _) rfl (fun K hK => ?_) ?_
        rotate_left
        · exact AllReadyH.nil
        go_simp
        refine (same06_any (z0, z1, z2, z3) OKZ.out _ _ _ n2 (fun x h => h) TO.out (TW.out.nqa.all N2.out)).mono ?_
        rintro e n3 ⟨rfl, g'⟩
        have i0 := g'.cell (fun h => h) i0
        have i1 := g'.cell (fun h => h) i1
        have i2 := g'.cell (fun h => h) i2
        have i3 := g'.cell (fun h => h) i3
        have i4 := g'.cell (fun h => h) i4
        have i5 := g'.cell (fun h => h) i5
        have i6 := g'.cell (fun h => h) i6
        have i7 := g'.cell (fun h => h) i7
        have i8 := g'.cell (fun h => h) i8
        have i9 := g'.cell (fun h => h) i9
        have i10 := g'.cell (fun h => h) i10
        have i11 := g'.cell (fun h => h) i11
        have i12 := g'.cell (fun h => h) i12
        have i13 := g'.cell (fun h => h) i13
        have i14 := g'.cell (fun h => h) i14
        have i15 := g'.cell (fun h => h) i15
        have N3 := hide (N2.out.trans g')
        clear g' TO
        go_simp
        refine hK.out _ _ ⟨i0, i1, i2, i3, i4, i5, i6, i7, i8, i9, i10, i11, i12, i13, i14, i15⟩ (fun hHeld => ?_)
        clear hK K
        try simp only [Act.put, List.getElem_toArray, List.getElem_cons_zero, List.getElem_cons_succ, List.setIfInBounds_toArray, List.set_cons_zero, List.set_cons_succ]
        first
          | (refine wpAnyH_take (i := 10) (v := undef) rfl (by kernel_rfl) (by kernel_rfl) (by kernel_rfl) (fun _ _ _ h => h) (Or.inr ⟨by rfl, rfl⟩) (by assumption) ?_)
          | (refine wpAnyH_take (i := 10) (v := ?_) rfl (by kernel_rfl) (by kernel_rfl) (by kernel_rfl) (fun _ _ _ h => h) (Or.inl ⟨by rfl, ?_⟩) (by assumption) ?_
             rotate_left
             (intro w hSw
              (try dsimp only at hSw)
              (go_simp <;> with_reducible rfl)))
        try simp only [Act.put, List.getElem_toArray, List.getElem_cons_zero, List.getElem_cons_succ, List.setIfInBounds_toArray, List.set_cons_zero, List.set_cons_succ]
        first
          | (refine wpAnyH_take (i := 11) (v := undef) rfl (by kernel_rfl) (by kernel_rfl) (by kernel_rfl) (fun _ _ _ h => h) (Or.inr ⟨by rfl, rfl⟩) (by assumption) ?_)
          | (refine wpAnyH_take (i := 11) (v := ?_) rfl (by kernel_rfl) (by kernel_rfl) (by kernel_rfl) (fun _ _ _ h => h) (Or.inl ⟨by rfl, ?_⟩) (by assumption) ?_
             rotate_left
             (intro w hSw
              (try dsimp only at hSw)
              (go_simp <;> with_reducible rfl)))
        try simp only [Act.put, List.getElem_toArray, List.getElem_cons_zero, List.getElem_cons_succ, List.setIfInBounds_toArray, List.set_cons_zero, List.set_cons_succ]
        first
          | (refine wpAnyH_take (i := 12) (v := undef) rfl (by kernel_rfl) (by kernel_rfl) (by kernel_rfl) (fun _ _ _ h => h) (Or.inr ⟨by rfl, rfl⟩) (by assumption) ?_)
          | (refine wpAnyH_take (i := 12) (v := ?_) rfl (by kernel_rfl) (by kernel_rfl) (by kernel_rfl) (fun _ _ _ h => h) (Or.inl ⟨by rfl, ?_⟩) (by assumption) ?_
             rotate_left
             (intro w hSw
              (try dsimp only at hSw)
              (go_simp <;> with_reducible rfl)))
        try simp only [Act.put, List.getElem_toArray, List.getElem_cons_zero, List.getElem_cons_succ, List.setIfInBounds_toArray, List.set_cons_zero, List.set_cons_succ]
        first
          | (refine wpAnyH_take (i := 13) (v := undef) rfl (by kernel_rfl) (by kernel_rfl) (by kernel_rfl) (fun _ _ _ h => h) (Or.inr ⟨by rfl, rfl⟩) (by assumption) ?_)
          | (refine wpAnyH_take (i := 13) (v := ?_) rfl (by kernel_rfl) (by kernel_rfl) (by kernel_rfl) (fun _ _ _ h => h) (Or.inl ⟨by rfl, ?_⟩) (by assumption) ?_
             rotate_left
             (intro w hSw
              (try dsimp only at hSw)
              (go_simp <;> with_reducible rfl)))
        try simp only [Act.put, List.getElem_toArray, List.getElem_cons_zero, List.getElem_cons_succ, List.setIfInBounds_toArray, List.set_cons_zero, List.set_cons_succ]
        first
          | (refine wpAnyH_take (i := 14) (v := undef) rfl (by kernel_rfl) (by kernel_rfl) (by kernel_rfl) (fun _ _ _ h => h) (Or.inr ⟨by rfl, rfl⟩) (by assumption) ?_)
          | (refine wpAnyH_take (i := 14) (v := ?_) rfl (by kernel_rfl) (by kernel_rfl) (by kernel_rfl) (fun _ _ _ h => h) (Or.inl ⟨by rfl, ?_⟩) (by assumption) ?_
             rotate_left
             (intro w hSw
              (try dsimp only at hSw)
              (go_simp <;> with_reducible rfl)))
        try simp only [Act.put, List.getElem_toArray, List.getElem_cons_zero, List.getElem_cons_succ, List.setIfInBounds_toArray, List.set_cons_zero, List.set_cons_succ]
        first
          | (refine wpAnyH_take (i := 15) (v := undef) rfl (by kernel_rfl) (by kernel_rfl) (by kernel_rfl) (fun _ _ _ h => h) (Or.inr ⟨by rfl, rfl⟩) (by assumption) ?_)
          | (refine wpAnyH_take (i := 15) (v := ?_) rfl (by kernel_rfl) (by kernel_rfl) (by kernel_rfl) (fun _ _ _ h => h) (Or.inl ⟨by rfl, ?_⟩) (by assumption) ?_
             rotate_left
             (intro w hSw
              (try dsimp only at hSw)
              (go_simp <;> with_reducible rfl)))
        try simp only [Act.put, List.getElem_toArray, List.getElem_cons_zero, List.getElem_cons_succ, List.setIfInBounds_toArray, List.set_cons_zero, List.set_cons_succ]
        first
          | (refine wpAnyH_take (i := 16) (v := undef) rfl (by kernel_rfl) (by kernel_rfl) (by kernel_rfl) (fun _ _ _ h => h) (Or.inr ⟨by rfl, rfl⟩) (by assumption) ?_)
          | (refine wpAnyH_take (i := 16) (v := ?_) rfl (by kernel_rfl) (by kernel_rfl) (by kernel_rfl) (fun _ _ _ h => h) (Or.inl ⟨by rfl, ?_⟩) (by assumption) ?_
             rotate_left
             (intro w hSw
              (try dsimp only at hSw)
              (go_simp <;> with_reducible rfl)))
        try simp only [Act.put, List.getElem_toArray, List.getElem_cons_zero, List.getElem_cons_succ, List.setIfInBounds_toArray, List.set_cons_zero, List.set_cons_succ]
        first
          | (refine wpAnyH_take (i := 18) (v := undef) rfl (by kernel_rfl) (by kernel_rfl) (by kernel_rfl) (fun _ _ _ h => h) (Or.inr ⟨by rfl, rfl⟩) (by assumption) ?_)
          | (refine wpAnyH_take (i := 18) (v := ?_) rfl (by kernel_rfl) (by kernel_rfl) (by kernel_rfl) (fun _ _ _ h => h) (Or.inl ⟨by rfl, ?_⟩) (by assumption) ?_
             rotate_left
             (intro w hSw
              (try dsimp only at hSw)
              (go_simp <;> with_reducible rfl)))
        try simp only [Act.put, List.getElem_toArray, List.getElem_cons_zero, List.getElem_cons_succ, List.setIfInBounds_toArray, List.set_cons_zero, List.set_cons_succ]
        refine wpAnyH_ready (rs := [17]) (by kernel_rfl) (by simp) ?_
        refine AllReadyH.cons (i := 17) (o := _) rfl (fun K hK => ?_) ?_
        rotate_left
        · exact AllReadyH.nil
        go_simp
        refine (of06_any (c0, y1, y2, y3) OKW.out _ _ n3 (fun x h => h) (TY.out.nqa.all N3.out)).mono ?_
        rintro e n4 ⟨⟨v', rfl, tv⟩, g'⟩
        obtain ⟨oa, oc, od, oe, rfl, _, _⟩ := id tv
        dsimp only [Tm.bs, Tm.kd, Tm.ix, Tm.ag]
        have i0 := g'.cell (fun h => h) i0
        have i1 := g'.cell (fun h => h) i1
        have i2 := g'.cell (fun h => h) i2
        have i3 := g'.cell (fun h => h) i3
        have i4 := g'.cell (fun h => h) i4
        have i5 := g'.cell (fun h => h) i5
        have i6 := g'.cell (fun h => h) i6
        have i7 := g'.cell (fun h => h) i7
        have i8 := g'.cell (fun h => h) i8
        have i9 := g'.cell (fun h => h) i9
        have i10 := g'.cell (fun h => h) i10
        have i11 := g'.cell (fun h => h) i11
        have i12 := g'.cell (fun h => h) i12
        have i13 := g'.cell (fun h => h) i13
        have i14 := g'.cell (fun h => h) i14
        have i15 := g'.cell (fun h => h) i15
        have N4 := hide (N3.out.trans g')
        have TO := hide (tv_new tv)
        clear tv g'
        go_simp
        refine hK.out _ _ ⟨i0, i1, i2, i3, i4, i5, i6, i7, i8, i9, i10, i11, i12, i13, i14, i15⟩ (fun hHeld => ?_)
        clear hK K
        try simp only [Act.put, List.getElem_toArray, List.getElem_cons_zero, List.getElem_cons_succ, List.setIfInBounds_toArray, List.set_cons_zero, List.set_cons_succ]
        refine wpAnyH_ready (rs := [19]) (by kernel_rfl) (by simp) ?_
        refine AllReadyH.cons (i := 19) (o := _) rfl (fun K hK => ?_) ?_
        rotate_left
        · exact AllReadyH.nil
        go_simp
        refine (same06_any (c0, y1, y2, y3) OKW.out _ _ _ n4 (fun x h => h) TO.out (TQ.out.all N4.out)).mono ?_
        rintro e n5 ⟨rfl, g'⟩
        have i0 := g'.cell (fun h => h) i0
        have i1 := g'.cell (fun h => h) i1
        have i2 := g'.cell (fun h => h) i2
        have i3 := g'.cell (fun h => h) i3
        have i4 := g'.cell (fun h => h) i4
        have i5 := g'.cell (fun h => h) i5
        have i6 := g'.cell (fun h => h) i6
        have i7 := g'.cell (fun h => h) i7
        have i8 := g'.cell (fun h => h) i8
        have i9 := g'.cell (fun h => h) i9
        have i10 := g'.cell (fun h => h) i10
        have i11 := g'.cell (fun h => h) i11
        have i12 := g'.cell (fun h => h) i12
        have i13 := g'.cell (fun h => h) i13
        have i14 := g'.cell (fun h => h) i14
        have i15 := g'.cell (fun h => h) i15
        have N5 := hide (N4.out.trans g')
        clear g' TO
        go_simp
        refine hK.out _ _ ⟨i0, i1, i2, i3, i4, i5, i6, i7, i8, i9, i10, i11, i12, i13, i14, i15⟩ (fun hHeld => ?_)
        clear hK K
        try simp only [Act.put, List.getElem_toArray, List.getElem_cons_zero, List.getElem_cons_succ, List.setIfInBounds_toArray, List.set_cons_zero, List.set_cons_succ]
        first
          | (refine wpAnyH_take (i := 20) (v := undef) rfl (by kernel_rfl) (by kernel_rfl) (by kernel_rfl) (fun _ _ _ h => h) (Or.inr ⟨by rfl, rfl⟩) (by assumption) ?_)
          | (refine wpAnyH_take (i := 20) (v := ?_) rfl (by kernel_rfl) (by kernel_rfl) (by kernel_rfl) (fun _ _ _ h => h) (Or.inl ⟨by rfl, ?_⟩) (by assumption) ?_
             rotate_left
             (intro w hSw
              (try dsimp only at hSw)
              (go_simp <;> with_reducible rfl)))
        try simp only [Act.put, List.getElem_toArray, List.getElem_cons_zero, List.getElem_cons_succ, List.setIfInBounds_toArray, List.set_cons_zero, List.set_cons_succ]
        first
          | (refine wpAnyH_take (i := 21) (v := undef) rfl (by kernel_rfl) (by kernel_rfl) (by kernel_rfl) (fun _ _ _ h => h) (Or.inr ⟨by rfl, rfl⟩) (by assumption) ?_)
          | (refine wpAnyH_take (i := 21) (v := ?_) rfl (by kernel_rfl) (by kernel_rfl) (by kernel_rfl) (fun _ _ _ h => h) (Or.inl ⟨by rfl, ?_⟩) (by assumption) ?_
             rotate_left
             (intro w hSw
              (try dsimp only at hSw)
              (go_simp <;> with_reducible rfl)))
        try simp only [Act.put, List.getElem_toArray, List.getElem_cons_zero, List.getElem_cons_succ, List.setIfInBounds_toArray, List.set_cons_zero, List.set_cons_succ]
        refine wpAnyH_done (by kernel_rfl) ?_ _
        have GF := hide (G.out.trans N5.out)
        go_wp2_with fail
        go_ret
        exact ⟨rfl, GF.out⟩

theorem repls_law (W : World) (hT : Tabs W) (t : Tm) {v : Value} (hv : TmIs W v t) (y : Tm) {bv : Value} (hb : TmIs W bv y) (x : IsIn) {u : Value} (hu : IsIs W u x) (z : IsIn) {uo : Value} (hz : IsIs W uo z) : Calls Tryd.prog 5 #[v, bv, u, uo] W fun e W' => e = .returned (.bool true) ∧ Below W.heap.size W W' :=
  (repls_walk t y x z v bv u uo W hv hb hu hz).mono fun e W' ⟨h, g⟩ => ⟨h, g.below (Nat.le_refl _) (fun _ h => h.elim)⟩
end Go.Proofs.YtnpcapdlgcaniaaDoor
