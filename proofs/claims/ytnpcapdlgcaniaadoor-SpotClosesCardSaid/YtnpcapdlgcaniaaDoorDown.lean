/- spot.down: tells a place and those within to yield. -/
import Derived.Test.YtnpcapdlgcaniaaDoorPlaces
import Derived.Test.YtnpcapdlgcaniaaDoorAt
namespace Go.Proofs.YtnpcapdlgcaniaaDoor
open Go.RowKit Go.Shelf
attribute [local go_sem] Oper.semAt_some
set_option linter.unusedVariables false
set_option linter.unusedSimpArgs false

/-- a place that is told: the path's slice, the term's cells; what they are -/
abbrev Nd := Value × Value × List Int × Tm
def encT (x : Nd) : Array Value := #[x.1, x.2.1]
def pr (x : Nd) : List Int × Tm := x.2.2
/-- what is known of it -/
def QxT (x : Nd) (V W : World) : Prop := Il W (fun y => V.heap.size ≤ y ∧ y < W.heap.size) x.1 x.2.2.1 ∧ TV W (fun y => V.heap.size ≤ y ∧ y < W.heap.size) x.2.1 x.2.2.2

/-- what down has come to in its loop -/
def DInv (G : Nat → TypeId → Prop) (J : List Nd → World → Prop) (pre : List Nd) (p : List Int) (t : Tm) (w wr : World) (i : Nat) : Prop :=
  ∃ ys : List Nd, ys.map pr = (p, t) :: kidsP p 0 (t.ag.first i) ∧ J (pre ++ ys) wr ∧ KpG G w wr

theorem wpIn_append_run {F : Fence} {n : Nat} {P : Program} (w : World) {o : Oper} {a : Act} {K : Act → World → Prop} {Q : Exit → Act → World → Prop} (s x : Operand) (t : TypeId)
    (ho : o.op = .call { callee := .builtin .append, args := #[s, x], argTypes := #[t, t] }) (v u : Value) (hs : a.eval s = v) (hx : a.eval x = u) {v' : Value} {w' : World}
    (hr : (Builtin.append_ #[t, t] o.type #[v, u]).run P w = .ok v' w') (h : K (a.put o.dst v') w') : o.wpIn F n P a w K Q := by
  unfold Oper.wpIn
  refine ⟨?_, ?_⟩
  · simp [Oper.about, ho, resolve, Target.leads, Sem.run_pure]
  · rw [Oper.semAt_plain F _ _ (by rw [ho]; intro c hc'; cases hc')]
    simp [execOp, ho, resolve, invoke, builtin, hs, hx, hr, Result.andThen]
    exact h

/-- a drawn region's walk by way of a state that every order comes to -/
theorem any_via {F : Fence} {n : Nat} {P : Program} {md : Region.Mode} {ops : Array Oper} {Q : Exit → Act → World → Prop} {fuel : Nat} {listed : Array Bool} {a : Act} {w : World} (T : Act → World → Prop) (fuel' : Nat) (listed' : Array Bool)
    (ht : ∀ a w, T a w → wpAnyIn F n P md ops Q fuel' listed' a w) (hs : (∀ a w L, L = listed' → T a w → wpAnyIn F n P md ops Q fuel' L a w) → wpAnyIn F n P md ops Q fuel listed a w) : wpAnyIn F n P md ops Q fuel listed a w :=
  hs (fun a w L e h => by subst e; exact ht a w h)

set_option maxRecDepth 100000 in
set_option maxHeartbeats 8000000 in
theorem down_step (l N B0 : Nat) (G : Nat → TypeId → Prop) (X : Nat → Prop) (hXG : ∀ x t, X x → G x t) (hX0 : ∀ x, X x → x < B0) (hBG : ∀ x, B0 ≤ x → G x 3 ∧ G x 35) (J Jx : List Nd → World → Prop)
    (hJ : Grows J) (hY : ∀ m, Asks Fence.wide m Tryd.prog l encT QxT (KpG G) N J Jx)
    (sz : Nat)
    (ih : ∀ (t : Tm), t.ag.size < sz → ∀ (n : Nat) (v : Value) (a : Option Addr) (k c : Nat) (p : List Int) (pre : List Nd) (W : World), TmOk t → p.length + t.ag.size ≤ 100000 → B0 ≤ W.heap.size → TV W X v t → PathV W (fun x => B0 ≤ x ∧ x < W.heap.size) a k c p → J pre W → pre.length + 1 + t.ag.cnt ≤ N →
      CallsIn Fence.wide n Tryd.prog 50 #[v, .slice a k c, .func (.yield l) #[] #[]] W fun e W' =>
        (e = .returned (.bool true) ∧ (∃ ys : List Nd, ys.map pr = placesP p t ∧ J (pre ++ ys) W') ∧ KpG G W W') ∨
        (e = .returned (.bool false) ∧ ∃ q : List Nd, q.map pr <+: placesP p t ∧ Jx (pre ++ q) W'))
    (t : Tm) (hf : t.ag.size ≤ sz) (n : Nat) (v : Value) (a : Option Addr) (k c : Nat) (p : List Int) (pre : List Nd) (W : World) (ok : TmOk t) (hp : p.length + t.ag.size ≤ 100000) (hB : B0 ≤ W.heap.size) (hv : TV W X v t) (hpv : PathV W (fun x => B0 ≤ x ∧ x < W.heap.size) a k c p) (h0 : J pre W) (hN : pre.length + 1 + t.ag.cnt ≤ N) :
    CallsIn Fence.wide n Tryd.prog 50 #[v, .slice a k c, .func (.yield l) #[] #[]] W fun e W' =>
      (e = .returned (.bool true) ∧ (∃ ys : List Nd, ys.map pr = placesP p t ∧ J (pre ++ ys) W') ∧ KpG G W W') ∨
      (e = .returned (.bool false) ∧ ∃ q : List Nd, q.map pr <+: placesP p t ∧ Jx (pre ++ q) W') := by
  obtain ⟨b, kd, ix, f⟩ := t
  obtain ⟨ba, bc, fa, fc, rfl, tb, tr⟩ := id hv
  dsimp only [Tm.bs, Tm.kd, Tm.ix, Tm.ag] at *
  have IH := hide ih
  have OK := hide ok
  have htl := Tms.toL_len f
  have HF := hide hf
  have HP := hide hp
  have hfl : f.len ≤ 100000 := by have := Tms.len_size f; omega
  have HB := hide hB
  have HX := hide hX0
  have HBG := hide hBG
  have HXG := hide hXG
  have HJ := hide hJ
  have HY := hide hY
  have HN := hide hN
  have TR0 := hide tr
  have PV0 := hide hpv
  have G1 := al W (.cells #[.slice ba b.len bc, .int .i64 kd, .int .i64 ix, .slice fa f.len fc] 35)
  have BX := hide (blk_new W (.cells #[.slice ba b.len bc, .int .i64 kd, .int .i64 ix, .slice fa f.len fc] 35))
  have TB := hide (tb.chg G1 (fun _ _ h => h))
  have TR := hide (tr.chg G1 (fun _ _ h => h))
  have PV := hide ((hpv.chg G1).up (Y := fun x => B0 ≤ x ∧ x < (W.alloc (.cells #[.slice ba b.len bc, .int .i64 kd, .int .i64 ix, .slice fa f.len fc] 35)).heap.size) (fun x hx => ⟨hx.1, Nat.lt_of_lt_of_le hx.2 G1.size⟩))
  have J1 := hide (hJ.chg h0 G1)
  have GG := hide G1
  have b0 := blk_cell BX.out 0
  have b1 := blk_cell BX.out 1
  have b2 := blk_cell BX.out 2
  have b3 := blk_cell BX.out 3
  simp only [List.getElem?_toArray, List.getElem?_cons_zero, List.getElem?_cons_succ] at b0 b1 b2 b3
  clear ih ok hf hp hB hX0 hBG hXG hJ hY hN hv hpv h0 G1 tb tr
  refine callsIn_of_wp Tryd.func50 rfl trivial ?_ rfl
  simp only [Tryd.ntmps50, List.size_toArray, List.length_cons, List.length_nil, Nat.reduceAdd, Nat.reduceSub, Array.replicate_succ, Array.replicate_zero, List.push_toArray, List.append_toArray, List.nil_append, List.cons_append]
  gi_wp2
  generalize hW1 : (W.alloc (.cells #[.slice ba b.len bc, .int .i64 kd, .int .i64 ix, .slice fa f.len fc] 35)) = W1 at *
  have HW1 := hide hW1
  clear hW1
  obtain ⟨R, hR⟩ : ∃ R, W.heap.size = R := ⟨_, rfl⟩
  have HR := hide hR
  rw [hR] at BX b0 b1 b2 b3
  try rw [hR]
  clear hR
  refine wpIn_region_any (by kernel_rfl) ?_
  change wpAnyIn _ _ _ _ _ _ _ _ _ (World.drew _)
  have D0 : W1.drew.cell? ⟨R, 0, none⟩ = _ := b0
  refine wpAnyIn_take (i := 0) (v := ?_) rfl rfl (by kernel_rfl) (by kernel_rfl) (by kernel_rfl) (fun _ _ _ h => h) ⟨Or.inl ⟨by rfl, ?_⟩, fun _ => rfl⟩ ?_
  rotate_left
  · intro w; go_simp; with_reducible rfl
  refine wpAnyIn_take (i := 1) (v := ?_) rfl rfl (by kernel_rfl) (by kernel_rfl) (by kernel_rfl) (fun _ _ _ h => h) ⟨Or.inl ⟨by rfl, ?_⟩, fun _ => rfl⟩ ?_
  rotate_left
  · intro w; go_simp; with_reducible rfl
  -- the clone of the path and the load of the term, in either order
  refine any_via (fun a' w' => ∃ v', a' = { tmps := #[.agg #[.slice ba b.len bc, .int .i64 kd, .int .i64 ix, .slice fa f.len fc], .slice a k c, .func (.yield l) #[] #[], .pointer (some ⟨R, 0, none⟩), undef, undef, .bool false, undef, undef, .func (.yield l) #[] #[], .slice a k c, v', .agg #[.slice ba b.len bc, .int .i64 kd, .int .i64 ix, .slice fa f.len fc], undef, undef, undef, undef, undef, undef, undef, undef, undef, undef, undef, undef, undef, undef, undef, undef, undef, undef, undef, undef, undef], defers := [] } ∧ Il w' (fun y => W1.heap.size ≤ y ∧ y < w'.heap.size) v' p ∧ Chg (fun _ => False) W1 w') 3 #[true, true, true, true, false, false, false] ?tail ?start
  case start =>
    intro HT
    refine wpAnyIn_ready (rs := [2, 3]) (by kernel_rfl) (by simp) ?_
    refine AllReadyIn.cons rfl (fun K hK => ?_) (AllReadyIn.cons rfl (fun K hK => ?_) AllReadyIn.nil)
    · go_simp
      refine ⟨trivial, fun h => (by cases h), ?_⟩
      refine (callsIn_wide.2 (iclone_any p (by have := HP.out; omega) (.slice a k c) _ W1.drew PV.out.2.2.2.1)).mono ?_
      rintro e w2 ⟨⟨v', rfl, hil⟩, g⟩
      have g2 : Chg (fun _ => False) W1 w2 := (Chg.refl _ W1).drew.trans g
      have c0 := g2.cell (fun h => h) b0
      have c1 := g2.cell (fun h => h) b1
      have c2 := g2.cell (fun h => h) b2
      have c3 := g2.cell (fun h => h) b3
      refine hK _ _ ?_
      refine wpAnyIn_ready (rs := [3]) (by kernel_rfl) (by simp) ?_
      refine AllReadyIn.cons rfl (fun K hK => ?_) AllReadyIn.nil
      go_simp
      exact hK _ _ (HT _ _ _ (by kernel_rfl) ⟨v', rfl, hil, g2⟩)
    · go_simp
      refine hK _ _ ?_
      refine wpAnyIn_ready (rs := [2]) (by kernel_rfl) (by simp) ?_
      refine AllReadyIn.cons rfl (fun K hK => ?_) AllReadyIn.nil
      go_simp
      refine ⟨trivial, fun h => (by cases h), ?_⟩
      refine (callsIn_wide.2 (iclone_any p (by have := HP.out; omega) (.slice a k c) _ W1.drew PV.out.2.2.2.1)).mono ?_
      rintro e w2 ⟨⟨v', rfl, hil⟩, g⟩
      have g2 : Chg (fun _ => False) W1 w2 := (Chg.refl _ W1).drew.trans g
      exact hK _ _ (HT _ _ _ (by kernel_rfl) ⟨v', rfl, hil, g2⟩)
  rintro a' w2 ⟨v', rfl, hil, g2⟩
  refine wpAnyIn_ready (rs := [4]) (by kernel_rfl) (by simp) ?_
  refine AllReadyIn.cons rfl (fun K hK => ?_) AllReadyIn.nil
  have CP := copy_any (b, kd, ix, f) OK.out (.agg #[.slice ba b.len bc, .int .i64 kd, .int .i64 ix, .slice fa f.len fc]) X w2 (fun x hx => by have := HX.out x hx; have := HB.out; have := GG.out.size; have := g2.size; omega) ⟨ba, bc, fa, fc, rfl, TB.out.chg g2 (fun _ _ h => h), TR.out.chg g2 (fun _ _ h => h)⟩
  go_simp
  refine ⟨trivial, fun h => (by cases h), ?_⟩
  refine (callsIn_wide.2 CP).mono ?_
  rintro e w3 ⟨⟨vt, rfl, htv⟩, g3⟩
  have g4 := g2.trans g3
  refine hK _ _ ?_
  clear hK K CP
  obtain ⟨fn, tmps, assign, body, hy, hR⟩ := HY.out (n - 1) pre (v', vt, p, (b, kd, ix, f)) W1 w3 J1.out g4 ⟨(hil.chg g3 (fun _ _ h => h)).up (fun x hx => ⟨hx.1, Nat.lt_of_lt_of_le hx.2 g3.size⟩), htv.up (fun x hx => ⟨Nat.le_trans g2.size hx.1, hx.2⟩)⟩ (by have := HN.out; omega)
  dsimp only [encT] at hy
  have PV3 := hide ((PV.out.chg g4).up (Y := fun x => B0 ≤ x ∧ x < w3.heap.size) (fun x hx => ⟨hx.1, Nat.lt_of_lt_of_le hx.2 g4.size⟩))
  have BX3 := hide (g4.blk (fun h => h) BX.out)
  have TB3 := hide (TB.out.chg g4 (fun _ _ h => h))
  have TR3 := hide (TR.out.chg g4 (fun _ _ h => h))
  have GG3 := hide (GG.out.trans g4)
  clear PV BX TB TR GG J1 g4 g3 g2 hil htv b0 b1 b2 b3 D0 HW1
  refine wpAnyIn_ready (rs := [5]) (by kernel_rfl) (by simp) ?_
  refine AllReadyIn.cons rfl (fun K hK => ?_) AllReadyIn.nil
  go_simp
  refine ⟨fun h => (by cases h), ?_⟩
  refine hR.mono ?_
  clear hR hy
  rintro e W3 (⟨rfl, hJ3, hk3⟩ | ⟨rfl, hJx3⟩)
  · have KP : KpG G W W3 := (KpG.of_same GG3.out).trans hk3
    have BX4 := hide (hk3.blk BX3.out (HBG.out R (by have := HB.out; have := HR.out; omega)).2)
    have D0 : Hid (DInv G J pre p (b, kd, ix, f) W W3 0) := hide ⟨[(v', vt, p, (b, kd, ix, f))], rfl, hJ3, KP⟩
    have b3 := blk_cell BX4.out 3
    simp only [List.getElem?_toArray, List.getElem?_cons_zero, List.getElem?_cons_succ] at b3
    clear hJ3 hk3 KP TB3 TR3 PV3 BX3 GG3 BX4
    refine hK _ _ ?_
    clear hK K
    refine wpAnyIn_ready (rs := [6]) (by kernel_rfl) (by simp) ?_
    refine AllReadyIn.cons rfl (fun K hK => ?_) AllReadyIn.nil
    go_simp
    refine hK _ _ ?_
    clear hK K
    refine wpAnyIn_done (by kernel_rfl) ?_ _
    gi_wp2
    clear b3
    gi_loopw [19] (fun iv wr => ∃ i : Nat, i ≤ f.len ∧ iv = .int .i64 i ∧ Hid (DInv G J pre p (b, kd, ix, f) W wr i)) (fun iv _ => f.len - (intOf iv).toNat)
    case atStart => exact ⟨0, Nat.zero_le _, rfl, D0⟩
    case round =>
      clear D0
      obtain ⟨i, hi, rfl, hD⟩ := hrel
      by_cases hlt : i < f.len
      · have hit : i < f.toL.length := by omega
        obtain ⟨ys, e1, hJ, hK⟩ := hD.out
        have HVr := TR0.out.kp hK HXG.out
        obtain ⟨la, lc, hlv, hl⟩ := HVr
        rcases hl with hz | ⟨g, off, rfl, hg, hl⟩
        · subst hz; exact absurd hlt (Nat.not_lt_zero _)
        injection hlv with e2 e3 e4
        subst e2
        clear e3 e4
        obtain ⟨⟨vkb, c0, tb⟩, c1, c2, vi, c3, ti⟩ := tlies_get hl i hit
        obtain ⟨kba, kbc, rfl, _⟩ := id tb
        obtain ⟨ka, kc, rfl, _⟩ := id ti
        have i1 : (0 : Int) ≤ (i : Int) := by omega
        have i2 : (i : Int) < (f.len : Int) := by omega
        dsimp only [Tm.bs, Tm.kd, Tm.ix, Tm.ag] at c0 c1 c2 c3 tb ti
        have TI := hide (And.intro tb ti)
        have NF := hide (kidsP_first p f i hit)
        have PF := hide (kidsP_first_pre p f (i + 1))
        have KC := hide (f.kid_cnt p i hit)
        have KS := hide (f.kid_size i hit)
        have OKi := hide (sub_ok OK.out hit)
        clear tb ti hl
        dsimp only [Tm.bs, Tm.kd, Tm.ix, Tm.ag] at KC KS OKi NF
        generalize hsub : f.toL[i] = s at *
        obtain ⟨s0, s1, s2, s3⟩ := s
        dsimp only at c0 c1 c2 c3 TI KC KS OKi NF
        clear hsub
        have A1 := al wr (.cells #[.slice kba s0.len kbc, .int .i64 s1, .int .i64 s2, .slice ka s3.len kc] 35)
        have BP := hide (blk_new wr (.cells #[.slice kba s0.len kbc, .int .i64 s1, .int .i64 s2, .slice ka s3.len kc] 35))
        have TV2 := hide (show TV (wr.alloc (.cells #[.slice kba s0.len kbc, .int .i64 s1, .int .i64 s2, .slice ka s3.len kc] 35)) X (.agg #[.slice kba s0.len kbc, .int .i64 s1, .int .i64 s2, .slice ka s3.len kc]) (s0, s1, s2, s3) from ⟨kba, kbc, ka, kc, rfl, TI.out.1.chg A1 (fun _ _ h => h), TI.out.2.chg A1 (fun _ _ h => h)⟩)
        have PVr := hide (((PV0.out.kp hK (fun x hx => (HBG.out x hx.1).1)).chg A1).up (Y := fun x => B0 ≤ x ∧ x < (wr.alloc (.cells #[.slice kba s0.len kbc, .int .i64 s1, .int .i64 s2, .slice ka s3.len kc] 35)).heap.size) (fun x hx => ⟨hx.1, Nat.lt_of_lt_of_le hx.2 (Nat.le_trans hK.1 A1.size)⟩))
        have J2 := hide (HJ.out.chg hJ A1)
        have K2 := hide (hK.trans (KpG.of_same A1))
        have E1 := hide e1
        clear TI hJ hK e1
        gi_wp2
        generalize (wr.alloc (.cells #[.slice kba s0.len kbc, .int .i64 s1, .int .i64 s2, .slice ka s3.len kc] 35)) = w2 at *
        obtain ⟨P, hP⟩ : ∃ P, wr.heap.size = P := ⟨_, rfl⟩
        rw [hP] at BP
        try rw [hP]
        clear hP A1
        have d0 := blk_cell BP.out 0
        have d1 := blk_cell BP.out 1
        have d2 := blk_cell BP.out 2
        have d3 := blk_cell BP.out 3
        simp only [List.getElem?_toArray, List.getElem?_cons_zero, List.getElem?_cons_succ] at d0 d1 d2 d3
        obtain ⟨w4, hw4⟩ : ∃ w4, (w2.alloc (.cells #[.int .i64 (i : Int)] 3)).drew = w4 := ⟨_, rfl⟩
        have A4 : Chg (fun _ => False) w2 w4 := by rw [← hw4]; exact (al w2 _).drew
        have B4 : w4.heap[w2.heap.size]? = some (.cells #[.int .i64 (i : Int)] 3) := by rw [← hw4]; exact blk_new w2 _
        obtain ⟨g5, c5, w5, hr, PV5, A5⟩ := path_more (PVr.out.chg A4) (fun x hx => Nat.lt_of_lt_of_le hx.2 A4.size) (by have := HP.out; omega) (i : Int) _ B4 1 28
        have CL := hide (show k ≤ 1000000 ∧ k ≤ c ∧ (a = none → k = 0 ∧ c = 0) from ⟨by have := PVr.out.1; have := HP.out; omega, PVr.out.2.1, PVr.out.2.2.1⟩)
        have f0 := A4.cell (fun h => h) d0
        have f1 := A4.cell (fun h => h) d1
        have f2 := A4.cell (fun h => h) d2
        have f3 := A4.cell (fun h => h) d3
        have h0 := A5.cell (fun h => h) f0
        have h1 := A5.cell (fun h => h) f1
        have h2 := A5.cell (fun h => h) f2
        have h3 := A5.cell (fun h => h) f3
        have PW := hide (PV5.up (Y := fun x => B0 ≤ x ∧ x < w5.heap.size) (fun x hx => by
          rcases hx with hx | hx
          · exact ⟨hx.1, by have := hx.2; have := A4.size; have := A5.size; omega⟩
          · exact ⟨by have := hx.1; have := HB.out; have := K2.out.1; have := A4.size; omega, hx.2⟩))
        have A6 := hide (A4.trans A5)
        clear PV5 A4 B4 A5
        refine wpIn_region_any (by kernel_rfl) ?_
        change wpAnyIn _ _ _ _ _ _ _ _ _ (World.drew _)
        refine wpAnyIn_take (i := 1) (v := ?_) rfl rfl (by kernel_rfl) (by kernel_rfl) (by kernel_rfl) (fun _ _ _ h => h) ⟨Or.inl ⟨by rfl, ?_⟩, fun _ => rfl⟩ ?_
        rotate_left
        · intro w; go_simp; with_reducible rfl
        refine wpAnyIn_take (i := 3) (v := ?_) rfl rfl (by kernel_rfl) (by kernel_rfl) (by kernel_rfl) (fun _ _ _ h => h) ⟨Or.inl ⟨by rfl, ?_⟩, fun _ => rfl⟩ ?_
        rotate_left
        · intro w; go_simp; with_reducible rfl
        refine wpAnyIn_take (i := 6) (v := ?_) rfl rfl (by kernel_rfl) (by kernel_rfl) (by kernel_rfl) (fun _ _ _ h => h) ⟨Or.inl ⟨by rfl, ?_⟩, fun _ => rfl⟩ ?_
        rotate_left
        · intro w; go_simp; with_reducible rfl
        refine any_via (fun a' w' => a' = { tmps := #[.agg #[.slice ba b.len bc, .int .i64 kd, .int .i64 ix, .slice (some ⟨g, off, none⟩) f.len fc], .slice a k c, .func (.yield l) #[] #[], .pointer (some ⟨R, 0, none⟩), undef, undef, u6, .int .i64 (i : Int), .pointer (some ⟨P, 0, none⟩), .func (.yield l) #[] #[], .slice a k c, v', .agg #[.slice ba b.len bc, .int .i64 kd, .int .i64 ix, .slice (some ⟨g, off, none⟩) f.len fc], vt, .bool true, .bool false, .pointer (some ⟨R, 3, none⟩), .slice (some ⟨g, off, none⟩) f.len fc, .int .i64 (f.len : Int), .int .i64 (i : Int), .bool true, .int .i64 (i : Int), .pointer (some ⟨g, off + i * 4, none⟩), .agg #[.slice kba s0.len kbc, .int .i64 s1, .int .i64 s2, .slice ka s3.len kc], .agg #[.slice kba s0.len kbc, .int .i64 s1, .int .i64 s2, .slice ka s3.len kc], .slice a k c, .slice a k k, .int .i64 (i : Int), .slice (some ⟨w2.heap.size, 0, none⟩) 1 1, .slice (some ⟨g5, 0, none⟩) (k + 1) c5, .func (.yield l) #[] #[], u31, u32, u33], defers := [] } ∧ w' = w5) 2 #[true, true, true, true, true, true, true, false, false] ?tail2 ?start2
        case start2 =>
          intro HT
          refine wpAnyIn_ready (rs := [0, 2, 4]) (by kernel_rfl) (by simp) ?_
          refine AllReadyIn.cons rfl (fun K hK => ?_) (AllReadyIn.cons rfl (fun K hK => ?_) (AllReadyIn.cons rfl (fun K hK => ?_) AllReadyIn.nil))
          · go_simp
            refine hK _ _ ?_
            clear hK K
            refine wpAnyIn_ready (rs := [2, 4]) (by kernel_rfl) (by simp) ?_
            refine AllReadyIn.cons rfl (fun K hK => ?_) (AllReadyIn.cons rfl (fun K hK => ?_) AllReadyIn.nil)
            · go_simp
              refine ⟨trivial, fun h => (by cases h), ?_⟩
              refine (callsIn_wide.2 (clip_any a k c CL.out.1 CL.out.2.1 CL.out.2.2 _)).mono ?_
              rintro e _ ⟨rfl, rfl⟩
              refine hK _ _ ?_
              clear hK K
              refine wpAnyIn_ready (rs := [4]) (by kernel_rfl) (by simp) ?_
              refine AllReadyIn.cons rfl (fun K hK => ?_) AllReadyIn.nil
              go_simp
              try rw [hw4]
              refine hK _ _ ?_
              clear hK K
              refine wpAnyIn_ready (rs := [5]) (by kernel_rfl) (by simp) ?_
              refine AllReadyIn.cons rfl (fun K hK => ?_) AllReadyIn.nil
              rw [if_pos (by rfl)]
              refine wpIn_append_run w4 _ _ _ rfl _ _ rfl rfl hr ?_
              refine hK _ _ ?_
              clear hK K
              exact HT _ _ _ (by kernel_rfl) ⟨rfl, rfl⟩
            · go_simp
              try rw [hw4]
              refine hK _ _ ?_
              clear hK K
              refine wpAnyIn_ready (rs := [2]) (by kernel_rfl) (by simp) ?_
              refine AllReadyIn.cons rfl (fun K hK => ?_) AllReadyIn.nil
              go_simp
              refine ⟨trivial, fun h => (by cases h), ?_⟩
              refine (callsIn_wide.2 (clip_any a k c CL.out.1 CL.out.2.1 CL.out.2.2 _)).mono ?_
              rintro e _ ⟨rfl, rfl⟩
              refine hK _ _ ?_
              clear hK K
              refine wpAnyIn_ready (rs := [5]) (by kernel_rfl) (by simp) ?_
              refine AllReadyIn.cons rfl (fun K hK => ?_) AllReadyIn.nil
              rw [if_pos (by rfl)]
              refine wpIn_append_run w4 _ _ _ rfl _ _ rfl rfl hr ?_
              refine hK _ _ ?_
              clear hK K
              exact HT _ _ _ (by kernel_rfl) ⟨rfl, rfl⟩
          · go_simp
            refine ⟨trivial, fun h => (by cases h), ?_⟩
            refine (callsIn_wide.2 (clip_any a k c CL.out.1 CL.out.2.1 CL.out.2.2 _)).mono ?_
            rintro e _ ⟨rfl, rfl⟩
            refine hK _ _ ?_
            clear hK K
            refine wpAnyIn_ready (rs := [0, 4]) (by kernel_rfl) (by simp) ?_
            refine AllReadyIn.cons rfl (fun K hK => ?_) (AllReadyIn.cons rfl (fun K hK => ?_) AllReadyIn.nil)
            · go_simp
              refine hK _ _ ?_
              clear hK K
              refine wpAnyIn_ready (rs := [4]) (by kernel_rfl) (by simp) ?_
              refine AllReadyIn.cons rfl (fun K hK => ?_) AllReadyIn.nil
              go_simp
              try rw [hw4]
              refine hK _ _ ?_
              clear hK K
              refine wpAnyIn_ready (rs := [5]) (by kernel_rfl) (by simp) ?_
              refine AllReadyIn.cons rfl (fun K hK => ?_) AllReadyIn.nil
              rw [if_pos (by rfl)]
              refine wpIn_append_run w4 _ _ _ rfl _ _ rfl rfl hr ?_
              refine hK _ _ ?_
              clear hK K
              exact HT _ _ _ (by kernel_rfl) ⟨rfl, rfl⟩
            · go_simp
              try rw [hw4]
              refine hK _ _ ?_
              clear hK K
              refine wpAnyIn_ready (rs := [0, 5]) (by kernel_rfl) (by simp) ?_
              refine AllReadyIn.cons rfl (fun K hK => ?_) (AllReadyIn.cons rfl (fun K hK => ?_) AllReadyIn.nil)
              · go_simp
                refine hK _ _ ?_
                clear hK K
                refine wpAnyIn_ready (rs := [5]) (by kernel_rfl) (by simp) ?_
                refine AllReadyIn.cons rfl (fun K hK => ?_) AllReadyIn.nil
                rw [if_pos (by rfl)]
                refine wpIn_append_run w4 _ _ _ rfl _ _ rfl rfl hr ?_
                refine hK _ _ ?_
                clear hK K
                exact HT _ _ _ (by kernel_rfl) ⟨rfl, rfl⟩
              · rw [if_pos (by rfl)]
                refine wpIn_append_run w4 _ _ _ rfl _ _ rfl rfl hr ?_
                refine hK _ _ ?_
                clear hK K
                refine wpAnyIn_ready (rs := [0]) (by kernel_rfl) (by simp) ?_
                refine AllReadyIn.cons rfl (fun K hK => ?_) AllReadyIn.nil
                go_simp
                refine hK _ _ ?_
                clear hK K
                exact HT _ _ _ (by kernel_rfl) ⟨rfl, rfl⟩
          · go_simp
            try rw [hw4]
            refine hK _ _ ?_
            clear hK K
            refine wpAnyIn_ready (rs := [0, 2]) (by kernel_rfl) (by simp) ?_
            refine AllReadyIn.cons rfl (fun K hK => ?_) (AllReadyIn.cons rfl (fun K hK => ?_) AllReadyIn.nil)
            · go_simp
              refine hK _ _ ?_
              clear hK K
              refine wpAnyIn_ready (rs := [2]) (by kernel_rfl) (by simp) ?_
              refine AllReadyIn.cons rfl (fun K hK => ?_) AllReadyIn.nil
              go_simp
              refine ⟨trivial, fun h => (by cases h), ?_⟩
              refine (callsIn_wide.2 (clip_any a k c CL.out.1 CL.out.2.1 CL.out.2.2 _)).mono ?_
              rintro e _ ⟨rfl, rfl⟩
              refine hK _ _ ?_
              clear hK K
              refine wpAnyIn_ready (rs := [5]) (by kernel_rfl) (by simp) ?_
              refine AllReadyIn.cons rfl (fun K hK => ?_) AllReadyIn.nil
              rw [if_pos (by rfl)]
              refine wpIn_append_run w4 _ _ _ rfl _ _ rfl rfl hr ?_
              refine hK _ _ ?_
              clear hK K
              exact HT _ _ _ (by kernel_rfl) ⟨rfl, rfl⟩
            · go_simp
              refine ⟨trivial, fun h => (by cases h), ?_⟩
              refine (callsIn_wide.2 (clip_any a k c CL.out.1 CL.out.2.1 CL.out.2.2 _)).mono ?_
              rintro e _ ⟨rfl, rfl⟩
              refine hK _ _ ?_
              clear hK K
              refine wpAnyIn_ready (rs := [0, 5]) (by kernel_rfl) (by simp) ?_
              refine AllReadyIn.cons rfl (fun K hK => ?_) (AllReadyIn.cons rfl (fun K hK => ?_) AllReadyIn.nil)
              · go_simp
                refine hK _ _ ?_
                clear hK K
                refine wpAnyIn_ready (rs := [5]) (by kernel_rfl) (by simp) ?_
                refine AllReadyIn.cons rfl (fun K hK => ?_) AllReadyIn.nil
                rw [if_pos (by rfl)]
                refine wpIn_append_run w4 _ _ _ rfl _ _ rfl rfl hr ?_
                refine hK _ _ ?_
                clear hK K
                exact HT _ _ _ (by kernel_rfl) ⟨rfl, rfl⟩
              · rw [if_pos (by rfl)]
                refine wpIn_append_run w4 _ _ _ rfl _ _ rfl rfl hr ?_
                refine hK _ _ ?_
                clear hK K
                refine wpAnyIn_ready (rs := [0]) (by kernel_rfl) (by simp) ?_
                refine AllReadyIn.cons rfl (fun K hK => ?_) AllReadyIn.nil
                go_simp
                refine hK _ _ ?_
                clear hK K
                exact HT _ _ _ (by kernel_rfl) ⟨rfl, rfl⟩
        rintro a' w' ⟨rfl, rfl⟩
        clear hr c0 c1 c2 c3 d0 d1 d2 d3 f0 f1 f2 f3 h0 h1 h2 h3 CL PVr hw4 w4
        have ci := IH.out (s0, s1, s2, s3) (by have := HF.out; have := KS.out.1; dsimp only [Tm.ag] at *; omega) (n - 1) (.agg #[.slice kba s0.len kbc, .int .i64 s1, .int .i64 s2, .slice ka s3.len kc]) (some ⟨g5, 0, none⟩) (k + 1) c5 (p ++ [(i : Int)]) (pre ++ ys) w' OKi.out (by rw [List.length_append, List.length_singleton]; have := HP.out; have := KS.out.1; dsimp only [Tm.ag] at *; omega) (by have := HB.out; have := K2.out.1; have := A6.out.size; omega) (TV2.out.chg A6.out (fun _ _ h => h)) PW.out (HJ.out.chg J2.out A6.out) (by
          have h1 := congrArg List.length E1.out
          rw [List.length_map, List.length_cons] at h1
          have := HN.out
          have := KC.out
          rw [List.length_append]
          dsimp only [Tm.ag] at *
          omega)
        refine wpAnyIn_ready (rs := [7]) (by kernel_rfl) (by simp) ?_
        refine AllReadyIn.cons rfl (fun K hK => ?_) AllReadyIn.nil
        go_simp
        refine ⟨trivial, fun h => (by cases h), ?_⟩
        refine ci.mono ?_
        clear ci
        rintro e W5 (⟨rfl, ⟨zs, ez, hJ5⟩, hk5⟩ | ⟨rfl, q, hq, hx5⟩)
        · have D5 : Hid (DInv G J pre p (b, kd, ix, f) W W5 (i + 1)) := hide ⟨ys ++ zs, by rw [List.map_append, E1.out, ez, NF.out, List.cons_append], by rw [← List.append_assoc]; exact hJ5, K2.out.trans ((KpG.of_same A6.out).trans hk5)⟩
          clear hJ5 hk5 ez
          refine hK _ _ ?_
          clear hK K
          refine wpAnyIn_ready (rs := [8]) (by kernel_rfl) (by simp) ?_
          refine AllReadyIn.cons rfl (fun K hK => ?_) AllReadyIn.nil
          go_simp
          refine hK _ _ ?_
          clear hK K
          refine wpAnyIn_done (by kernel_rfl) ?_ _
          gi_wp2
          go_roundw
          case rel => exact ⟨i + 1, by omega, by go_num, D5⟩
          case measure => simp [intOf]; omega
        · have HQ : Hid ((ys ++ q).map pr <+: placesP p (b, kd, ix, f) ∧ Jx (pre ++ (ys ++ q)) W5) := hide (by
            refine ⟨?_, by rw [← List.append_assoc]; exact hx5⟩
            rw [List.map_append, E1.out, List.cons_append]
            obtain ⟨r, hr⟩ := hq
            have PF2 := PF.out
            try dsimp only [Tm.ag] at PF2
            rw [NF.out] at PF2
            obtain ⟨r2, hr2⟩ := PF2
            exact ⟨r ++ r2, by unfold placesP; dsimp only [Tm.ag]; rw [← hr2, ← hr, List.cons_append]; simp only [List.append_assoc]⟩)
          clear hq hx5
          refine hK _ _ ?_
          clear hK K
          refine wpAnyIn_ready (rs := [8]) (by kernel_rfl) (by simp) ?_
          refine AllReadyIn.cons rfl (fun K hK => ?_) AllReadyIn.nil
          go_simp
          refine hK _ _ ?_
          clear hK K
          refine wpAnyIn_done (by kernel_rfl) ?_ _
          gi_wp2
          go_ret
          exact .inr ⟨rfl, ys ++ q, HQ.out.1, HQ.out.2⟩
      · have hif : i = f.len := by omega
        obtain ⟨ys, e1, hJ, hK⟩ := hD.out
        dsimp only [Tm.ag] at e1
        rw [hif, Tms.first_all] at e1
        have E1 := hide e1
        have KW := hide hK
        subst hif
        clear hD e1 hK
        gi_wp2
        go_ret
        exact .inl ⟨rfl, ⟨ys, E1.out, hJ⟩, KW.out⟩
  · clear TB3 TR3 PV3 BX3 GG3
    refine hK _ _ ?_
    clear hK K
    refine wpAnyIn_ready (rs := [6]) (by kernel_rfl) (by simp) ?_
    refine AllReadyIn.cons rfl (fun K hK => ?_) AllReadyIn.nil
    go_simp
    refine hK _ _ ?_
    clear hK K
    refine wpAnyIn_done (by kernel_rfl) ?_ _
    gi_wp2
    go_ret
    exact .inr ⟨rfl, [(v', vt, p, (b, kd, ix, f))], ⟨kidsP p 0 f, rfl⟩, hJx3⟩

theorem down_in (l N B0 : Nat) (G : Nat → TypeId → Prop) (X : Nat → Prop) (hXG : ∀ x t, X x → G x t) (hX0 : ∀ x, X x → x < B0) (hBG : ∀ x, B0 ≤ x → G x 3 ∧ G x 35) (J Jx : List Nd → World → Prop)
    (hJ : Grows J) (hY : ∀ m, Asks Fence.wide m Tryd.prog l encT QxT (KpG G) N J Jx) (sz : Nat) :
    ∀ (t : Tm), t.ag.size ≤ sz → ∀ (n : Nat) (v : Value) (a : Option Addr) (k c : Nat) (p : List Int) (pre : List Nd) (W : World), TmOk t → p.length + t.ag.size ≤ 100000 → B0 ≤ W.heap.size → TV W X v t → PathV W (fun x => B0 ≤ x ∧ x < W.heap.size) a k c p → J pre W → pre.length + 1 + t.ag.cnt ≤ N →
      CallsIn Fence.wide n Tryd.prog 50 #[v, .slice a k c, .func (.yield l) #[] #[]] W fun e W' =>
        (e = .returned (.bool true) ∧ (∃ ys : List Nd, ys.map pr = placesP p t ∧ J (pre ++ ys) W') ∧ KpG G W W') ∨
        (e = .returned (.bool false) ∧ ∃ q : List Nd, q.map pr <+: placesP p t ∧ Jx (pre ++ q) W') := by
  induction sz with
  | zero => exact fun t ht => down_step l N B0 G X hXG hX0 hBG J Jx hJ hY 0 (fun s hs => absurd hs (Nat.not_lt_zero _)) t ht
  | succ sz ih => exact fun t ht => down_step l N B0 G X hXG hX0 hBG J Jx hJ hY (sz + 1) (fun s hs => ih s (by omega)) t ht

set_option maxHeartbeats 1000000 in
/-- Each's function tells. -/
theorem each_tells (n : Nat) (Bt : Nat) (G : Nat → TypeId → Prop) (X : Nat → Prop) (w : World) (hXG : ∀ x t, X x → G x t) (hX : ∀ x, X x → x < w.heap.size) (hBG : ∀ x, w.heap.size ≤ x → G x 3 ∧ G x 35) (t : Tm) (ok : TmOk t) (ba : Option Addr) (bc : Nat) (fa : Option Addr) (fc : Nat)
    (hb : w.heap[Bt]? = some (.cells #[.slice ba t.bs.len bc, .int .i64 t.kd, .int .i64 t.ix, .slice fa t.ag.len fc] 35)) (hv : TV w X (.agg #[.slice ba t.bs.len bc, .int .i64 t.kd, .int .i64 t.ix, .slice fa t.ag.len fc]) t) :
    Tells Fence.wide n Tryd.prog 49 #[.pointer (some ⟨Bt, 0, none⟩)] encT QxT (KpG G) (fun ys => ys.map pr = placesP [] t) (fun q => q.map pr <+: placesP [] t) (1 + t.ag.cnt) w := by
  intro l J Jx W hW hJ hY h0
  have HYa : ∀ m, Asks Fence.wide m Tryd.prog l encT QxT (KpG G) (1 + t.ag.cnt) J Jx := fun m pre x W0 W1 hj hc hq hl => yieldAt_any rfl m (hY pre x W0 W1 hj hc hq hl)
  have hs : t.ag.size ≤ 100000 := by have := ok.2.2.2.2; omega
  have dn := hide (down_in l (1 + t.ag.cnt) w.heap.size G X hXG hX hBG J Jx hJ HYa t.ag.size t (Nat.le_refl _) (n - 1) _ none 0 0 [] [] W ok (by simpa using hs) hW.size (hv.chg hW (fun _ _ h => h)) (PathV.nil _ _) h0 (by simp))
  have b2 := hW.blk (fun h => h) hb
  have c0 := blk_cell b2 0
  have c1 := blk_cell b2 1
  have c2 := blk_cell b2 2
  have c3 := blk_cell b2 3
  simp only [List.getElem?_toArray, List.getElem?_cons_zero, List.getElem?_cons_succ] at c0 c1 c2 c3
  clear hY HYa hv
  refine callsIn_of_wp Tryd.func49 rfl trivial ?_ rfl
  simp only [Tryd.ntmps49, List.size_toArray, List.length_cons, List.length_nil, Nat.reduceAdd, Nat.reduceSub, Array.replicate_succ, Array.replicate_zero, List.push_toArray, List.append_toArray, List.nil_append, List.cons_append]
  gi_wp2
  refine ⟨trivial, fun h => (by cases h), ?_⟩
  refine dn.out.mono ?_
  rintro e W1 (⟨rfl, ⟨ys, e1, hJ1⟩, _⟩ | ⟨rfl, q, hq, hx⟩)
  · gi_wp2
    go_end0
    exact ⟨⟨_, rfl⟩, .inl ⟨ys, e1, hJ1⟩⟩
  · gi_wp2
    go_end0
    exact ⟨⟨_, rfl⟩, .inr ⟨q, hq, hx⟩⟩

theorem each_in (n : Nat) (x0 x1 x2 x3 : Value) (w : World) :
    CallsIn Fence.wide n Tryd.prog 23 #[.agg #[x0, x1, x2, x3]] w fun e w' => e = .returned (.func (.func 49) #[] #[.pointer (some ⟨w.heap.size, 0, none⟩)]) ∧ w' = w.alloc (.cells #[x0, x1, x2, x3] 35) := by
  refine callsIn_of_wp Tryd.func23 rfl trivial ?_ rfl
  simp only [Tryd.ntmps23, List.size_toArray, List.length_cons, List.length_nil, Nat.reduceAdd, Nat.reduceSub, Array.replicate_succ, Array.replicate_zero, List.push_toArray, List.append_toArray, List.nil_append, List.cons_append]
  gi_wp2
  go_ret
  exact ⟨rfl, rfl⟩
end Go.Proofs.YtnpcapdlgcaniaaDoor
