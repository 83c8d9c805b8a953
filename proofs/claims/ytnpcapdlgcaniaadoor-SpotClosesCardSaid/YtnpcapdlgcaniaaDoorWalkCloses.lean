/- SpotCloses' walk. -/
import Derived.Test.YtnpcapdlgcaniaaDoorCheck36
import Derived.Test.YtnpcapdlgcaniaaDoorWorld28
import Derived.Test.YtnpcapdlgcaniaaDoorOpen32
import Derived.Test.YtnpcapdlgcaniaaDoorKnown
import Derived.Test.YtnpcapdlgcaniaaDoorOf06
import Derived.Test.YtnpcapdlgcaniaaDoorSame06
import Derived.Test.YtnpcapdlgcaniaaDoorFew06
import Derived.Test.YtnpcapdlgcaniaaDoorOpensW
import Derived.Test.YtnpcapdlgcaniaaDoorLeafC
namespace Go.Proofs.YtnpcapdlgcaniaaDoor
open Go.RowKit
set_option linter.unusedVariables false
set_option linter.unusedSimpArgs false

/-- what Few says of a term -/
theorem few_okC {t : Tm} (h1 : In64' t.ix) (h2 : TIn t.ag) (h : 1 + t.bs.size + t.ag.size ≤ 150) : TmOk t := by
 have := Tms.len_size t.ag
 exact ⟨by omega, h1, by omega, tok_of h2 (by omega), by omega⟩

theorem tv_rows {w : World} {X : Nat → Prop} {t0 : Fs} {t1 t2 : Int} {t3 : Tms} {pa pd : Option Addr} {pc pe : Nat} (h : TV w X (.agg #[.slice pa t0.len pc, .int .i64 t1, .int .i64 t2, .slice pd t3.len pe]) (t0, t1, t2, t3)) : Ts w X (.slice pa t0.len pc) t0 ∧ Tr w X (.slice pd t3.len pe) t3 := by
 obtain ⟨a, c, d, e, ev, h1, h2⟩ := h
 injection ev with ev
 injection ev with ev
 simp only [List.cons.injEq, and_true] at ev
 obtain ⟨e1, _, _, e2⟩ := ev
 dsimp only [Tm.bs, Tm.ag] at *
 rw [e1, e2]
 exact ⟨h1, h2⟩
theorem open_close (f b : Fs) (k i : Int) (a : Tms) : openG (f.app b, k, i, a) (f.len : Int) = ((b, k, i, a), f, 0) := by
 have e := Fs.app_toL f b
 have l := Fs.toL_len f
 have h1 : (f.app b).from f.len = b := by
  unfold Fs.from
  rw [e, ← l, List.drop_left]
  exact Fs.ofL_toL b
 have h2 : (f.app b).to f.len = f := by
  unfold Fs.to
  rw [e, ← l, List.take_left]
  exact Fs.ofL_toL f
 have h3 := Fs.app_len f b
 unfold openG
 dsimp only [Tm.bs, Tm.kd, Tm.ix, Tm.ag]
 rw [if_pos (by omega), Int.toNat_natCast, h1, h2]

theorem tyv_row {w : World} {X : Nat → Prop} {f : Fs} {b : Int} {a : Option Addr} {c : Nat} (h : TyV w X (.agg #[.slice a f.len c, .int .i64 b]) (f, b)) : Ts w X (.slice a f.len c) f := by
 obtain ⟨a', c', ev, h1⟩ := h
 injection ev with ev
 injection ev with ev
 simp only [List.cons.injEq, and_true] at ev
 dsimp only at *
 rw [ev]
 exact h1
theorem check_same (cs ms cx t0 : Fs) (t1 t2 : Int) (t3 : Tms) (b : Int) : checkG cs ms .nil (cx.app t0, t1, t2, t3) (cx.app t0, b) = checkG cs ms cx (t0, t1, t2, t3) (t0, b) := by
 unfold checkG isOne
 dsimp only [Tm.bs, Tm.kd, Tm.ix, Tm.ag]
 rw [Fs.nil_app]
 simp only [decide_true, Bool.true_and]
theorem Fs.ofL_size (l : List (Fs × Int)) : ∀ m : List (Fs × Int), (Fs.ofL (l ++ m)).size = (Fs.ofL l).size + (Fs.ofL m).size := by
 intro m
 induction l with
 | nil => simp [Fs.ofL, Fs.size]
 | cons x l ih => obtain ⟨k, b⟩ := x; simp only [List.cons_append, Fs.ofL, Fs.size, ih]; omega
theorem Fs.cut_size (f : Fs) (m : Nat) : (f.to m).size + (f.from m).size = f.size := by
 unfold Fs.to Fs.from
 rw [← Fs.ofL_size, List.take_append_drop, Fs.ofL_toL]
theorem Fs.to_size (f : Fs) (m : Nat) : (f.to m).size ≤ f.size := by have := Fs.cut_size f m; omega
theorem cut_ok {t0 : Fs} {t1 t2 : Int} {t3 : Tms} (h : TmOk (t0, t1, t2, t3)) (m : Nat) : TmOk (t0.from m, t1, t2, t3) := by
 have := Fs.cut_size t0 m
 obtain ⟨h1, h2, h3, h4, h5⟩ := h
 dsimp only [Tm.bs, Tm.ix, Tm.ag] at *
 exact ⟨by dsimp only [Tm.bs]; omega, h2, h3, h4, by dsimp only [Tm.bs, Tm.ag]; omega⟩
theorem run_to22 (a : Option Addr) (len cap n : Nat) (hn : n ≤ cap) (w : World) : (Instr.slice 22 (.slice a len cap) none (some (.int .i64 n)) none).run Tryd.prog w = .ok (.slice a n cap) w := by
 have q2 : ¬ (cap < n) := by omega
 obtain ⟨i0, hi0, hz0, hz1, hz2⟩ := info_parts size92
 simp [Instr.slice, Instr.sliceBounds, Instr.sliceBound, run_underlying Tryd.underlying22, asIntOf, sizeOf, typeInfo, hi0, hz1, go_sem, q2]

set_option maxRecDepth 100000 in
set_option maxHeartbeats 64000000 in
theorem closes_walk (wl : Int × Fs × Fs) (cx : Fs) (t : Tm) (q : Int) (v vx u : Value) (w : World) (hw : WldIs w v wl) (hx : FsIs w vx cx) (ht : TmC w u t) :
  Calls Tryd.prog 7 #[v, vx, u, .int .i64 q] w fun e w' => e = .returned (.bool true) ∧ Chg (fun _ => False) w w' := by
 obtain ⟨wn, cs, ms⟩ := wl
 obtain ⟨ca, cc, ma, mc, rfl, g1, g2⟩ := hw
 obtain ⟨xa', xc', rfl, _⟩ := id hx
 obtain ⟨⟨htv, hti⟩, htc⟩ := ht
 obtain ⟨t0, t1, t2, t3⟩ := t
 obtain ⟨pa, pc, pd, pe, rfl, h1, h2⟩ := htv
 have HCAP : Hid (t0.len ≤ pc) := hide (by
  obtain ⟨_, _, _, e, h, _⟩ := htc.fst
  injection e with e1 e2 e3
  dsimp only [Tm.bs] at *
  omega)
 clear htc
 dsimp only [Tm.bs, Tm.kd, Tm.ix, Tm.ag] at *
 have HTI := hide hti
 have T0 : Hid (TV w (fun x => x < w.heap.size) (.agg #[.slice pa t0.len pc, .int .i64 t1, .int .i64 t2, .slice pd t3.len pe]) (t0, t1, t2, t3)) := hide ⟨pa, pc, pd, pe, rfl, h1, h2⟩
 have C0 := hide g1
 have M0 := hide g2
 have X0 : Hid (Ts w (fun x => x < w.heap.size) (.slice xa' cx.len xc') cx) := hide hx
 have G1 := al w (.cells #[.int .i64 wn, .slice ca cs.len cc, .slice ma ms.len mc] 63)
 have b0 := blk_new w (.cells #[.int .i64 wn, .slice ca cs.len cc, .slice ma ms.len mc] 63)
 have G2 := al (w.alloc (.cells #[.int .i64 wn, .slice ca cs.len cc, .slice ma ms.len mc] 63)) (.cells #[.slice pa t0.len pc, .int .i64 t1, .int .i64 t2, .slice pd t3.len pe] 27)
 have b1 := blk_new (w.alloc (.cells #[.int .i64 wn, .slice ca cs.len cc, .slice ma ms.len mc] 63)) (.cells #[.slice pa t0.len pc, .int .i64 t1, .int .i64 t2, .slice pd t3.len pe] 27)
 rw [al_sz] at b1
 have GG := hide (G1.trans G2)
 have BW := hide (G2.blk (fun h => h) b0)
 have BT := hide b1
 clear G1 G2 b0 b1 h1 h2 g1 g2 hx hti
 obtain ⟨P, hP⟩ : ∃ P, w.heap.size = P := ⟨_, rfl⟩
 have HP := hide hP
 rw [hP] at BW BT
 go_enter Tryd.func7, Tryd.ntmps7
 go_upto_region 1 with fail
 try rw [hP]
 clear hP
 generalize (w.alloc (.cells #[.int .i64 wn, .slice ca cs.len cc, .slice ma ms.len mc] 63)).alloc (.cells #[.slice pa t0.len pc, .int .i64 t1, .int .i64 t2, .slice pd t3.len pe] 27) = w1 at *
 have z0 : w1.cell? ⟨P + 1, 0, none⟩ = some (.slice pa t0.len pc) := blk_cell BT.out 0
 have z1 : w1.cell? ⟨P + 1, 1, none⟩ = some (.int .i64 t1) := blk_cell BT.out 1
 have z2 : w1.cell? ⟨P + 1, 2, none⟩ = some (.int .i64 t2) := blk_cell BT.out 2
 have z3 : w1.cell? ⟨P + 1, 3, none⟩ = some (.slice pd t3.len pe) := blk_cell BT.out 3
 have GL := al w1 (.cells #[.slice pa t0.len pc, .int .i64 t1, .int .i64 t2, .slice pd t3.len pe] 27)
 have bl := blk_new w1 (.cells #[.slice pa t0.len pc, .int .i64 t1, .int .i64 t2, .slice pd t3.len pe] 27)
 have tva := T0.out.all (GG.out.trans GL)
 obtain ⟨_, _, _, _, eva, k1, k2⟩ := id tva
 injection eva with eva
 injection eva with eva
 simp only [List.cons.injEq, and_true] at eva
 obtain ⟨e1, _, _, e2⟩ := eva
 rw [← e1] at k1
 rw [← e2] at k2
 clear e1 e2
 have FW := hide (L06Few_any (.cons t0 t1 t2 t3 .nil) (by simp only [Tms.len]; omega) (.slice (some ⟨w1.heap.size, 0, none⟩) 1 1) (fun x => x < (w1.alloc (.cells #[.slice pa t0.len pc, .int .i64 t1, .int .i64 t2, .slice pd t3.len pe] 27)).heap.size) _ (fun x h => h) ⟨_, 1, rfl, Or.inr ⟨w1.heap.size, 0, rfl, blk_lt bl, tlies_cons.2 ⟨⟨_, blk_cell bl 0, k1⟩, blk_cell bl 1, blk_cell bl 2, ⟨_, blk_cell bl 3, k2⟩, trivial⟩⟩⟩)
 have GL2 := hide GL
 clear GL bl tva k1 k2
 go_wp2_with fail
 refine FW.out.mono ?_
 generalize w1.alloc (.cells #[.slice pa t0.len pc, .int .i64 t1, .int .i64 t2, .slice pd t3.len pe] 27) = w1b at *
 rintro e w2 ⟨⟨r, rfl, hr⟩, g3⟩
 have GW2 := hide (GL2.out.trans g3)
 have HR := hide hr
 clear g3 hr FW GL2 z0 z1 z2 z3
 replace GG := hide (GG.out.trans GW2.out)
 replace BW := hide (GW2.out.blk (fun h => h) BW.out)
 replace BT := hide (GW2.out.blk (fun h => h) BT.out)
 clear GW2
 cases r
 ·
  go_wp2_with fail
  refine (known_any _).mono ?_
  rintro e w5 ⟨rfl, g5⟩
  have G5 := hide (GG.out.trans g5)
  clear g5
  go_wp2_with fail
  go_ret
  exact ⟨rfl, G5.out⟩
 have ST : Hid (1 + t0.size + t3.size ≤ 150) := hide (HR.out rfl (t0, t1, t2, t3) (by simp [Tms.toL]))
 clear HR
 have z0 : w2.cell? ⟨P, 0, none⟩ = some (.int .i64 wn) := blk_cell BW.out 0
 have z1 : w2.cell? ⟨P, 1, none⟩ = some (.slice ca cs.len cc) := blk_cell BW.out 1
 have z2 : w2.cell? ⟨P, 2, none⟩ = some (.slice ma ms.len mc) := blk_cell BW.out 2
 have SM := hide (small_any wn cs ms cx ca cc ma mc (.slice xa' cx.len xc') w2 (C0.out.all GG.out) (M0.out.all GG.out) (X0.out.all GG.out))
 go_wp2_with fail
 refine SM.out.mono ?_
 rintro e w3 ⟨⟨r, rfl, hr⟩, g3⟩
 replace GG := hide (GG.out.trans g3)
 replace BW := hide (g3.blk (fun h => h) BW.out)
 replace BT := hide (g3.blk (fun h => h) BT.out)
 have HR := hide hr
 clear g3 hr SM z0 z1 z2
 cases r
 ·
  go_wp2_with fail
  refine (known_any _).mono ?_
  rintro e w5 ⟨rfl, g5⟩
  have G5 := hide (GG.out.trans g5)
  clear g5
  go_wp2_with fail
  go_ret
  exact ⟨rfl, G5.out⟩
 have SW := hide (HR.out rfl)
 clear HR
 have OKT := hide (few_okC (t := (t0, t1, t2, t3)) HTI.out.2.1 HTI.out.2.2 ST.out)
 have OKY : Hid (TmOk (cx.app t0, t1, t2, t3)) := hide (by
  have h := OKT.out
  have h1 := Fs.app_size cx t0
  have h2 := SW.out.2.2
  have h3 := ST.out
  exact ⟨by dsimp only [Tm.bs]; omega, h.2.1, h.2.2.1, h.2.2.2.1, by dsimp only [Tm.bs, Tm.ag]; omega⟩)
 go_upto_region 3 with fail
 go_cut [9, 10, 11] (fun s9 s10 s11 wx => ∃ (A X : Nat) (va : Option Addr) (vc : Nat) (na : Option Addr) (nc : Nat) (ka : Option Addr) (kc : Nat) (xa : Option Addr) (xc : Nat) (xd : Option Addr) (xe : Nat), s9 = .pointer (some ⟨A, 0, none⟩) ∧ s10 = .slice ka cx.len kc ∧ s11 = .pointer (some ⟨X, 0, none⟩) ∧ Hid (wx.heap[A]? = some (.cells #[.int .i64 wn, .slice va cs.len vc, .slice na ms.len nc] 66)) ∧ Hid (wx.heap[X]? = some (.cells #[.slice xa t0.len xc, .int .i64 t1, .int .i64 t2, .slice xd t3.len xe] 35)) ∧ Hid (Ts wx (fun x => x < wx.heap.size) (.slice va cs.len vc) cs) ∧ Hid (Ts wx (fun x => x < wx.heap.size) (.slice na ms.len nc) ms) ∧ Hid (Ts wx (fun x => x < wx.heap.size) (.slice ka cx.len kc) cx) ∧ Hid (TV wx (fun x => x < wx.heap.size) (.agg #[.slice xa t0.len xc, .int .i64 t1, .int .i64 t2, .slice xd t3.len xe]) (t0, t1, t2, t3)) ∧ Hid (Chg (fun _ => False) w3 wx))
 case first =>
  as_aux_lemma =>
   refine wp_region_held_drew (S := fun w' => Hid (Chg (fun _ => False) w3 w')) (by kernel_rfl) (hide (Chg.refl (fun _ => False) w3).drew) (fun hHeld => ?_)
   refine wpAnyH_take (i := 0) (v := ?_) rfl (by kernel_rfl) (by kernel_rfl) (by kernel_rfl) (fun _ _ _ h => h) (Or.inl ⟨by rfl, ?_⟩) (by assumption) ?_
   rotate_left
   (intro w' hSw
    replace hSw := hSw.out
    have r0 : w'.cell? ⟨P, 0, none⟩ = some (.int .i64 wn) := blk_cell (hSw.blk (fun h => h) BW.out) 0
    have r1 : w'.cell? ⟨P, 1, none⟩ = some (.slice ca cs.len cc) := blk_cell (hSw.blk (fun h => h) BW.out) 1
    have r2 : w'.cell? ⟨P, 2, none⟩ = some (.slice ma ms.len mc) := blk_cell (hSw.blk (fun h => h) BW.out) 2
    clear hSw
    (go_simp <;> with_reducible rfl))
   try simp only [Act.put, List.getElem_toArray, List.getElem_cons_zero, List.getElem_cons_succ, List.setIfInBounds_toArray, List.set_cons_zero, List.set_cons_succ]
   first
    | (refine wpAnyH_take (i := 2) (v := undef) rfl (by kernel_rfl) (by kernel_rfl) (by kernel_rfl) (fun _ _ _ h => h) (Or.inr ⟨by rfl, rfl⟩) (by assumption) ?_)
    | (refine wpAnyH_take (i := 2) (v := ?_) rfl (by kernel_rfl) (by kernel_rfl) (by kernel_rfl) (fun _ _ _ h => h) (Or.inl ⟨by rfl, ?_⟩) (by assumption) ?_
       rotate_left
       (intro w hSw
        (try dsimp only at hSw)
        (go_simp <;> with_reducible rfl)))
   try simp only [Act.put, List.getElem_toArray, List.getElem_cons_zero, List.getElem_cons_succ, List.setIfInBounds_toArray, List.set_cons_zero, List.set_cons_succ]
   refine wpAnyH_take (i := 4) (v := ?_) rfl (by kernel_rfl) (by kernel_rfl) (by kernel_rfl) (fun _ _ _ h => h) (Or.inl ⟨by rfl, ?_⟩) (by assumption) ?_
   rotate_left
   (intro w' hSw
    replace hSw := hSw.out
    have r0 : w'.cell? ⟨(P + 1), 0, none⟩ = some (.slice pa t0.len pc) := blk_cell (hSw.blk (fun h => h) BT.out) 0
    have r1 : w'.cell? ⟨(P + 1), 1, none⟩ = some (.int .i64 t1) := blk_cell (hSw.blk (fun h => h) BT.out) 1
    have r2 : w'.cell? ⟨(P + 1), 2, none⟩ = some (.int .i64 t2) := blk_cell (hSw.blk (fun h => h) BT.out) 2
    have r3 : w'.cell? ⟨(P + 1), 3, none⟩ = some (.slice pd t3.len pe) := blk_cell (hSw.blk (fun h => h) BT.out) 3
    clear hSw
    (go_simp <;> with_reducible rfl))
   try simp only [Act.put, List.getElem_toArray, List.getElem_cons_zero, List.getElem_cons_succ, List.setIfInBounds_toArray, List.set_cons_zero, List.set_cons_succ]
   refine wpAnyH_ready (rs := [1, 6, 7]) (by kernel_rfl) (by simp) ?_
   refine AllReadyH.cons (i := 1) (o := _) rfl (fun K hK => ?_) ?_
   ·
    go_simp
    have GC : Hid (Chg (fun _ => False) w3 w3.drew) := hide ((Chg.refl (fun _ => False) w3).drew)
    refine (world_any wn cs ms (by have := SW.out.1; omega) (by have := SW.out.2.1; omega) ca cc ma mc w3.drew ((C0.out.all GG.out).all GC.out) ((M0.out.all GG.out).all GC.out)).mono ?_
    rintro e v1 ⟨⟨va, vc, na, nc, rfl, tv1, tv2⟩, g'⟩
    have TVA : Hid (Ts v1 (fun x => w3.heap.size ≤ x ∧ x < v1.heap.size) (.slice va cs.len vc) cs) := hide tv1
    have TVN : Hid (Ts v1 (fun x => w3.heap.size ≤ x ∧ x < v1.heap.size) (.slice na ms.len nc) ms) := hide tv2
    have GW : Hid (Chg (fun _ => False) w3 v1) := hide (GC.out.trans g')
    have S1 : Hid (w3.heap.size ≤ v1.heap.size) := hide g'.size
    clear g' tv1 tv2 GC
    go_simp
    refine hK.out _ _ GW (fun hHeld => ?_)
    clear hK K
    try simp only [Act.put, List.getElem_toArray, List.getElem_cons_zero, List.getElem_cons_succ, List.setIfInBounds_toArray, List.set_cons_zero, List.set_cons_succ]
    refine wpAnyH_ready (rs := [3, 6, 7]) (by kernel_rfl) (by simp) ?_
    refine AllReadyH.cons (i := 3) (o := _) rfl (fun K hK => ?_) ?_
    ·
     go_simp
     have GC : Hid (Chg (fun _ => False) w3 v1) := hide (GW.out)
     refine (types_any cx (by have := SW.out.2.2; omega) _ (fun x => x < v1.heap.size) v1 (fun _ h => h) ((X0.out.all GG.out).all GC.out)).mono ?_
     rintro e v2 ⟨⟨v', rfl, tv⟩, g'⟩
     obtain ⟨ka, kc, rfl, _⟩ := id tv
     have TVA := hide (TVA.out.chg g' (fun _ _ h => h))
     have TVN := hide (TVN.out.chg g' (fun _ _ h => h))
     have TCX : Hid (Ts v2 (fun x => v1.heap.size ≤ x ∧ x < v2.heap.size) (.slice ka cx.len kc) cx) := hide tv
     have GW : Hid (Chg (fun _ => False) w3 v2) := hide (GC.out.trans g')
     have S2 : Hid (v1.heap.size ≤ v2.heap.size) := hide g'.size
     clear g' tv GC
     go_simp
     refine hK.out _ _ GW (fun hHeld => ?_)
     clear hK K
     try simp only [Act.put, List.getElem_toArray, List.getElem_cons_zero, List.getElem_cons_succ, List.setIfInBounds_toArray, List.set_cons_zero, List.set_cons_succ]
     refine wpAnyH_ready (rs := [5, 6, 7]) (by kernel_rfl) (by simp) ?_
     refine AllReadyH.cons (i := 5) (o := _) rfl (fun K hK => ?_) ?_
     ·
      go_simp
      have GC : Hid (Chg (fun _ => False) w3 v2) := hide (GW.out)
      refine (to06_any (t0, t1, t2, t3) OKT.out _ (fun x => x < v2.heap.size) v2 (fun _ h => h) ((T0.out.all GG.out).all GC.out)).mono ?_
      rintro e v3 ⟨⟨v', rfl, tv⟩, g'⟩
      obtain ⟨xa, xc, xd, xe, rfl, _, _⟩ := id tv
      dsimp only [Tm.bs, Tm.kd, Tm.ix, Tm.ag]
      have TVA := hide (TVA.out.chg g' (fun _ _ h => h))
      have TVN := hide (TVN.out.chg g' (fun _ _ h => h))
      have TCX := hide (TCX.out.chg g' (fun _ _ h => h))
      have TXT : Hid (TV v3 (fun x => v2.heap.size ≤ x ∧ x < v3.heap.size) (.agg #[.slice xa t0.len xc, .int .i64 t1, .int .i64 t2, .slice xd t3.len xe]) (t0, t1, t2, t3)) := hide tv
      have GW : Hid (Chg (fun _ => False) w3 v3) := hide (GC.out.trans g')
      have S3 : Hid (v2.heap.size ≤ v3.heap.size) := hide g'.size
      clear g' tv GC
      go_simp
      refine hK.out _ _ GW (fun hHeld => ?_)
      clear hK K
      try simp only [Act.put, List.getElem_toArray, List.getElem_cons_zero, List.getElem_cons_succ, List.setIfInBounds_toArray, List.set_cons_zero, List.set_cons_succ]
      refine wpAnyH_ready (rs := [6, 7]) (by kernel_rfl) (by simp) ?_
      refine AllReadyH.cons (i := 6) (o := _) rfl (fun K hK => ?_) ?_
      ·
       go_simp
       have GC : Hid (Chg (fun _ => False) w3 v3) := hide (GW.out)
       have GA := (al v3 (.cells #[.int .i64 0, .slice none 0 0, .slice none 0 0] 66))
       have BA : Hid ((v3.alloc (.cells #[.int .i64 0, .slice none 0 0, .slice none 0 0] 66)).heap[v3.heap.size]? = some (.cells #[.int .i64 0, .slice none 0 0, .slice none 0 0] 66)) := hide (blk_new v3 (.cells #[.int .i64 0, .slice none 0 0, .slice none 0 0] 66))
       have GW : Hid (Chg (fun _ => False) w3 (v3.alloc (.cells #[.int .i64 0, .slice none 0 0, .slice none 0 0] 66))) := hide (GC.out.trans GA)
       have TVA := hide (TVA.out.chg GA (fun _ _ h => h))
       have TVN := hide (TVN.out.chg GA (fun _ _ h => h))
       have TCX := hide (TCX.out.chg GA (fun _ _ h => h))
       have TXT := hide (TXT.out.chg GA (fun _ _ h => h))
       have S4 : Hid (v3.heap.size < (v3.alloc (.cells #[.int .i64 0, .slice none 0 0, .slice none 0 0] 66)).heap.size) := hide (blk_lt BA.out)
       clear GA GC
       go_simp
       refine hK.out _ _ GW (fun hHeld => ?_)
       clear hK K
       try simp only [Act.put, List.getElem_toArray, List.getElem_cons_zero, List.getElem_cons_succ, List.setIfInBounds_toArray, List.set_cons_zero, List.set_cons_succ]
       obtain ⟨A, hA⟩ : ∃ A, v3.heap.size = A := ⟨_, rfl⟩
       have HA := hide hA
       rw [hA] at BA ⊢
       clear hA
       generalize (v3.alloc (.cells #[.int .i64 0, .slice none 0 0, .slice none 0 0] 66)) = v4 at *
       refine wpAnyH_ready (rs := [7]) (by kernel_rfl) (by simp) ?_
       refine AllReadyH.cons (i := 7) (o := _) rfl (fun K hK => ?_) ?_
       rotate_left
       ·
        exact AllReadyH.nil
       go_simp
       have GC : Hid (Chg (fun _ => False) w3 v4) := hide (GW.out)
       have GA := (al v4 (.cells #[.slice none 0 0, .int .i64 0, .int .i64 0, .slice none 0 0] 35))
       have BX : Hid ((v4.alloc (.cells #[.slice none 0 0, .int .i64 0, .int .i64 0, .slice none 0 0] 35)).heap[v4.heap.size]? = some (.cells #[.slice none 0 0, .int .i64 0, .int .i64 0, .slice none 0 0] 35)) := hide (blk_new v4 (.cells #[.slice none 0 0, .int .i64 0, .int .i64 0, .slice none 0 0] 35))
       have GW : Hid (Chg (fun _ => False) w3 (v4.alloc (.cells #[.slice none 0 0, .int .i64 0, .int .i64 0, .slice none 0 0] 35))) := hide (GC.out.trans GA)
       have TVA := hide (TVA.out.chg GA (fun _ _ h => h))
       have TVN := hide (TVN.out.chg GA (fun _ _ h => h))
       have TCX := hide (TCX.out.chg GA (fun _ _ h => h))
       have TXT := hide (TXT.out.chg GA (fun _ _ h => h))
       have BA := hide (GA.blk (fun h => h) BA.out)
       have S5 : Hid (v4.heap.size < (v4.alloc (.cells #[.slice none 0 0, .int .i64 0, .int .i64 0, .slice none 0 0] 35)).heap.size) := hide (blk_lt BX.out)
       clear GA GC
       go_simp
       refine hK.out _ _ GW (fun hHeld => ?_)
       clear hK K
       try simp only [Act.put, List.getElem_toArray, List.getElem_cons_zero, List.getElem_cons_succ, List.setIfInBounds_toArray, List.set_cons_zero, List.set_cons_succ]
       obtain ⟨X, hX⟩ : ∃ X, v4.heap.size = X := ⟨_, rfl⟩
       have HX := hide hX
       rw [hX] at BX ⊢
       clear hX
       generalize (v4.alloc (.cells #[.slice none 0 0, .int .i64 0, .int .i64 0, .slice none 0 0] 35)) = v5 at *
       refine wpAnyH_ready (rs := [8]) (by kernel_rfl) (by simp) ?_
       refine AllReadyH.cons (i := 8) (o := _) rfl (fun K hK => ?_) ?_
       rotate_left
       ·
        exact AllReadyH.nil
       obtain ⟨u1, u2, LF⟩ := leaf_st (.int .i64 wn) (.slice va cs.len vc) (.slice na ms.len nc) (.slice xa t0.len xc) (.int .i64 t1) (.int .i64 t2) (.slice xd t3.len xe) (by have := S1.out; have := S2.out; have := S3.out; have := S4.out; have := S5.out; have := HA.out; have := HX.out; omega) (by have := S1.out; have := S2.out; have := S3.out; have := S4.out; have := S5.out; have := HA.out; have := HX.out; omega) (by have := S1.out; have := S2.out; have := S3.out; have := S4.out; have := S5.out; have := HA.out; have := HX.out; omega) BA.out BX.out GW.out
       have TVA := LF.mv _ _ _ TVA.out (fun x hx => by have := S1.out; have := S2.out; have := S3.out; have := S4.out; have := S5.out; have := HA.out; have := HX.out; omega)
       have TVN := LF.mv _ _ _ TVN.out (fun x hx => by have := S1.out; have := S2.out; have := S3.out; have := S4.out; have := S5.out; have := HA.out; have := HX.out; omega)
       have TCX := LF.mv _ _ _ TCX.out (fun x hx => by have := S1.out; have := S2.out; have := S3.out; have := S4.out; have := S5.out; have := HA.out; have := HX.out; omega)
       have TXT := LF.mvt _ _ _ TXT.out (fun x hx => by have := S1.out; have := S2.out; have := S3.out; have := S4.out; have := S5.out; have := HA.out; have := HX.out; omega)
       have GW := LF.g1
       obtain ⟨a0, a1, a2, f0, f1, f2⟩ := LF.ca
       have LF := hide LF
       clear BA BX HA HX
       go_simp
       rw [LF.out.e1]
       clear a0 a1 a2 f0 f1 f2
       refine hK.out _ _ GW (fun hHeld => ?_)
       clear hK K
       try simp only [Act.put, List.getElem_toArray, List.getElem_cons_zero, List.getElem_cons_succ, List.setIfInBounds_toArray, List.set_cons_zero, List.set_cons_succ]
       first
        | (refine wpAnyH_take (i := 9) (v := undef) rfl (by kernel_rfl) (by kernel_rfl) (by kernel_rfl) (fun _ _ _ h => h) (Or.inr ⟨by rfl, rfl⟩) (by assumption) ?_)
        | (refine wpAnyH_take (i := 9) (v := ?_) rfl (by kernel_rfl) (by kernel_rfl) (by kernel_rfl) (fun _ _ _ h => h) (Or.inl ⟨by rfl, ?_⟩) (by assumption) ?_
           rotate_left
           (intro w hSw
            (try dsimp only at hSw)
            (go_simp <;> with_reducible rfl)))
       try simp only [Act.put, List.getElem_toArray, List.getElem_cons_zero, List.getElem_cons_succ, List.setIfInBounds_toArray, List.set_cons_zero, List.set_cons_succ]
       refine wpAnyH_ready (rs := [10]) (by kernel_rfl) (by simp) ?_
       refine AllReadyH.cons (i := 10) (o := _) rfl (fun K hK => ?_) ?_
       rotate_left
       ·
        exact AllReadyH.nil
       as_aux_lemma =>
        obtain ⟨a0, a1, a2, a3, f0, f1, f2, f3⟩ := LF.out.cx
        go_simp
        rw [LF.out.e2]
        clear a0 a1 a2 a3 f0 f1 f2 f3
        refine hK.out _ _ LF.out.g2 (fun hHeld => ?_)
        clear hK K
        try simp only [Act.put, List.getElem_toArray, List.getElem_cons_zero, List.getElem_cons_succ, List.setIfInBounds_toArray, List.set_cons_zero, List.set_cons_succ]
        refine wpAnyH_done (by kernel_rfl) ?_ _
        go_wp2_with fail
        go_meet
        exact ⟨A, X, va, vc, na, nc, ka, kc, xa, xc, xd, xe, rfl, rfl, rfl, LF.out.b1, LF.out.b2, TVA, TVN, TCX, TXT, LF.out.g2⟩
      refine AllReadyH.cons (i := 7) (o := _) rfl (fun K hK => ?_) ?_
      rotate_left
      ·
       exact AllReadyH.nil
      go_simp
      have GC : Hid (Chg (fun _ => False) w3 v3) := hide (GW.out)
      have GA := (al v3 (.cells #[.slice none 0 0, .int .i64 0, .int .i64 0, .slice none 0 0] 35))
      have BX : Hid ((v3.alloc (.cells #[.slice none 0 0, .int .i64 0, .int .i64 0, .slice none 0 0] 35)).heap[v3.heap.size]? = some (.cells #[.slice none 0 0, .int .i64 0, .int .i64 0, .slice none 0 0] 35)) := hide (blk_new v3 (.cells #[.slice none 0 0, .int .i64 0, .int .i64 0, .slice none 0 0] 35))
      have GW : Hid (Chg (fun _ => False) w3 (v3.alloc (.cells #[.slice none 0 0, .int .i64 0, .int .i64 0, .slice none 0 0] 35))) := hide (GC.out.trans GA)
      have TVA := hide (TVA.out.chg GA (fun _ _ h => h))
      have TVN := hide (TVN.out.chg GA (fun _ _ h => h))
      have TCX := hide (TCX.out.chg GA (fun _ _ h => h))
      have TXT := hide (TXT.out.chg GA (fun _ _ h => h))
      have S4 : Hid (v3.heap.size < (v3.alloc (.cells #[.slice none 0 0, .int .i64 0, .int .i64 0, .slice none 0 0] 35)).heap.size) := hide (blk_lt BX.out)
      clear GA GC
      go_simp
      refine hK.out _ _ GW (fun hHeld => ?_)
      clear hK K
      try simp only [Act.put, List.getElem_toArray, List.getElem_cons_zero, List.getElem_cons_succ, List.setIfInBounds_toArray, List.set_cons_zero, List.set_cons_succ]
      obtain ⟨X, hX⟩ : ∃ X, v3.heap.size = X := ⟨_, rfl⟩
      have HX := hide hX
      rw [hX] at BX ⊢
      clear hX
      generalize (v3.alloc (.cells #[.slice none 0 0, .int .i64 0, .int .i64 0, .slice none 0 0] 35)) = v4 at *
      refine wpAnyH_ready (rs := [6]) (by kernel_rfl) (by simp) ?_
      refine AllReadyH.cons (i := 6) (o := _) rfl (fun K hK => ?_) ?_
      rotate_left
      ·
       exact AllReadyH.nil
      go_simp
      have GC : Hid (Chg (fun _ => False) w3 v4) := hide (GW.out)
      have GA := (al v4 (.cells #[.int .i64 0, .slice none 0 0, .slice none 0 0] 66))
      have BA : Hid ((v4.alloc (.cells #[.int .i64 0, .slice none 0 0, .slice none 0 0] 66)).heap[v4.heap.size]? = some (.cells #[.int .i64 0, .slice none 0 0, .slice none 0 0] 66)) := hide (blk_new v4 (.cells #[.int .i64 0, .slice none 0 0, .slice none 0 0] 66))
      have GW : Hid (Chg (fun _ => False) w3 (v4.alloc (.cells #[.int .i64 0, .slice none 0 0, .slice none 0 0] 66))) := hide (GC.out.trans GA)
      have TVA := hide (TVA.out.chg GA (fun _ _ h => h))
      have TVN := hide (TVN.out.chg GA (fun _ _ h => h))
      have TCX := hide (TCX.out.chg GA (fun _ _ h => h))
      have TXT := hide (TXT.out.chg GA (fun _ _ h => h))
      have BX := hide (GA.blk (fun h => h) BX.out)
      have S5 : Hid (v4.heap.size < (v4.alloc (.cells #[.int .i64 0, .slice none 0 0, .slice none 0 0] 66)).heap.size) := hide (blk_lt BA.out)
      clear GA GC
      go_simp
      refine hK.out _ _ GW (fun hHeld => ?_)
      clear hK K
      try simp only [Act.put, List.getElem_toArray, List.getElem_cons_zero, List.getElem_cons_succ, List.setIfInBounds_toArray, List.set_cons_zero, List.set_cons_succ]
      obtain ⟨A, hA⟩ : ∃ A, v4.heap.size = A := ⟨_, rfl⟩
      have HA := hide hA
      rw [hA] at BA ⊢
      clear hA
      generalize (v4.alloc (.cells #[.int .i64 0, .slice none 0 0, .slice none 0 0] 66)) = v5 at *
      refine wpAnyH_ready (rs := [8]) (by kernel_rfl) (by simp) ?_
      refine AllReadyH.cons (i := 8) (o := _) rfl (fun K hK => ?_) ?_
      rotate_left
      ·
       exact AllReadyH.nil
      obtain ⟨u1, u2, LF⟩ := leaf_st (.int .i64 wn) (.slice va cs.len vc) (.slice na ms.len nc) (.slice xa t0.len xc) (.int .i64 t1) (.int .i64 t2) (.slice xd t3.len xe) (by have := S1.out; have := S2.out; have := S3.out; have := S4.out; have := S5.out; have := HA.out; have := HX.out; omega) (by have := S1.out; have := S2.out; have := S3.out; have := S4.out; have := S5.out; have := HA.out; have := HX.out; omega) (by have := S1.out; have := S2.out; have := S3.out; have := S4.out; have := S5.out; have := HA.out; have := HX.out; omega) BA.out BX.out GW.out
      have TVA := LF.mv _ _ _ TVA.out (fun x hx => by have := S1.out; have := S2.out; have := S3.out; have := S4.out; have := S5.out; have := HA.out; have := HX.out; omega)
      have TVN := LF.mv _ _ _ TVN.out (fun x hx => by have := S1.out; have := S2.out; have := S3.out; have := S4.out; have := S5.out; have := HA.out; have := HX.out; omega)
      have TCX := LF.mv _ _ _ TCX.out (fun x hx => by have := S1.out; have := S2.out; have := S3.out; have := S4.out; have := S5.out; have := HA.out; have := HX.out; omega)
      have TXT := LF.mvt _ _ _ TXT.out (fun x hx => by have := S1.out; have := S2.out; have := S3.out; have := S4.out; have := S5.out; have := HA.out; have := HX.out; omega)
      have GW := LF.g1
      obtain ⟨a0, a1, a2, f0, f1, f2⟩ := LF.ca
      have LF := hide LF
      clear BA BX HA HX
      go_simp
      rw [LF.out.e1]
      clear a0 a1 a2 f0 f1 f2
      refine hK.out _ _ GW (fun hHeld => ?_)
      clear hK K
      try simp only [Act.put, List.getElem_toArray, List.getElem_cons_zero, List.getElem_cons_succ, List.setIfInBounds_toArray, List.set_cons_zero, List.set_cons_succ]
      first
       | (refine wpAnyH_take (i := 9) (v := undef) rfl (by kernel_rfl) (by kernel_rfl) (by kernel_rfl) (fun _ _ _ h => h) (Or.inr ⟨by rfl, rfl⟩) (by assumption) ?_)
       | (refine wpAnyH_take (i := 9) (v := ?_) rfl (by kernel_rfl) (by kernel_rfl) (by kernel_rfl) (fun _ _ _ h => h) (Or.inl ⟨by rfl, ?_⟩) (by assumption) ?_
          rotate_left
          (intro w hSw
           (try dsimp only at hSw)
           (go_simp <;> with_reducible rfl)))
      try simp only [Act.put, List.getElem_toArray, List.getElem_cons_zero, List.getElem_cons_succ, List.setIfInBounds_toArray, List.set_cons_zero, List.set_cons_succ]
      refine wpAnyH_ready (rs := [10]) (by kernel_rfl) (by simp) ?_
      refine AllReadyH.cons (i := 10) (o := _) rfl (fun K hK => ?_) ?_
      rotate_left
      ·
       exact AllReadyH.nil
      as_aux_lemma =>
       obtain ⟨a0, a1, a2, a3, f0, f1, f2, f3⟩ := LF.out.cx
       go_simp
       rw [LF.out.e2]
       clear a0 a1 a2 a3 f0 f1 f2 f3
       refine hK.out _ _ LF.out.g2 (fun hHeld => ?_)
       clear hK K
       try simp only [Act.put, List.getElem_toArray, List.getElem_cons_zero, List.getElem_cons_succ, List.setIfInBounds_toArray, List.set_cons_zero, List.set_cons_succ]
       refine wpAnyH_done (by kernel_rfl) ?_ _
       go_wp2_with fail
       go_meet
       exact ⟨A, X, va, vc, na, nc, ka, kc, xa, xc, xd, xe, rfl, rfl, rfl, LF.out.b1, LF.out.b2, TVA, TVN, TCX, TXT, LF.out.g2⟩
     refine AllReadyH.cons (i := 6) (o := _) rfl (fun K hK => ?_) ?_
     ·
      go_simp
      have GC : Hid (Chg (fun _ => False) w3 v2) := hide (GW.out)
      have GA := (al v2 (.cells #[.int .i64 0, .slice none 0 0, .slice none 0 0] 66))
      have BA : Hid ((v2.alloc (.cells #[.int .i64 0, .slice none 0 0, .slice none 0 0] 66)).heap[v2.heap.size]? = some (.cells #[.int .i64 0, .slice none 0 0, .slice none 0 0] 66)) := hide (blk_new v2 (.cells #[.int .i64 0, .slice none 0 0, .slice none 0 0] 66))
      have GW : Hid (Chg (fun _ => False) w3 (v2.alloc (.cells #[.int .i64 0, .slice none 0 0, .slice none 0 0] 66))) := hide (GC.out.trans GA)
      have TVA := hide (TVA.out.chg GA (fun _ _ h => h))
      have TVN := hide (TVN.out.chg GA (fun _ _ h => h))
      have TCX := hide (TCX.out.chg GA (fun _ _ h => h))
      have S3 : Hid (v2.heap.size < (v2.alloc (.cells #[.int .i64 0, .slice none 0 0, .slice none 0 0] 66)).heap.size) := hide (blk_lt BA.out)
      clear GA GC
      go_simp
      refine hK.out _ _ GW (fun hHeld => ?_)
      clear hK K
      try simp only [Act.put, List.getElem_toArray, List.getElem_cons_zero, List.getElem_cons_succ, List.setIfInBounds_toArray, List.set_cons_zero, List.set_cons_succ]
      obtain ⟨A, hA⟩ : ∃ A, v2.heap.size = A := ⟨_, rfl⟩
      have HA := hide hA
      rw [hA] at BA ⊢
      clear hA
      generalize (v2.alloc (.cells #[.int .i64 0, .slice none 0 0, .slice none 0 0] 66)) = v3 at *
      refine wpAnyH_ready (rs := [5, 7]) (by kernel_rfl) (by simp) ?_
      refine AllReadyH.cons (i := 5) (o := _) rfl (fun K hK => ?_) ?_
      ·
       go_simp
       have GC : Hid (Chg (fun _ => False) w3 v3) := hide (GW.out)
       refine (to06_any (t0, t1, t2, t3) OKT.out _ (fun x => x < v3.heap.size) v3 (fun _ h => h) ((T0.out.all GG.out).all GC.out)).mono ?_
       rintro e v4 ⟨⟨v', rfl, tv⟩, g'⟩
       obtain ⟨xa, xc, xd, xe, rfl, _, _⟩ := id tv
       dsimp only [Tm.bs, Tm.kd, Tm.ix, Tm.ag]
       have TVA := hide (TVA.out.chg g' (fun _ _ h => h))
       have TVN := hide (TVN.out.chg g' (fun _ _ h => h))
       have TCX := hide (TCX.out.chg g' (fun _ _ h => h))
       have BA := hide (g'.blk (fun h => h) BA.out)
       have TXT : Hid (TV v4 (fun x => v3.heap.size ≤ x ∧ x < v4.heap.size) (.agg #[.slice xa t0.len xc, .int .i64 t1, .int .i64 t2, .slice xd t3.len xe]) (t0, t1, t2, t3)) := hide tv
       have GW : Hid (Chg (fun _ => False) w3 v4) := hide (GC.out.trans g')
       have S4 : Hid (v3.heap.size ≤ v4.heap.size) := hide g'.size
       clear g' tv GC
       go_simp
       refine hK.out _ _ GW (fun hHeld => ?_)
       clear hK K
       try simp only [Act.put, List.getElem_toArray, List.getElem_cons_zero, List.getElem_cons_succ, List.setIfInBounds_toArray, List.set_cons_zero, List.set_cons_succ]
       refine wpAnyH_ready (rs := [7]) (by kernel_rfl) (by simp) ?_
       refine AllReadyH.cons (i := 7) (o := _) rfl (fun K hK => ?_) ?_
       rotate_left
       ·
        exact AllReadyH.nil
       go_simp
       have GC : Hid (Chg (fun _ => False) w3 v4) := hide (GW.out)
       have GA := (al v4 (.cells #[.slice none 0 0, .int .i64 0, .int .i64 0, .slice none 0 0] 35))
       have BX : Hid ((v4.alloc (.cells #[.slice none 0 0, .int .i64 0, .int .i64 0, .slice none 0 0] 35)).heap[v4.heap.size]? = some (.cells #[.slice none 0 0, .int .i64 0, .int .i64 0, .slice none 0 0] 35)) := hide (blk_new v4 (.cells #[.slice none 0 0, .int .i64 0, .int .i64 0, .slice none 0 0] 35))
       have GW : Hid (Chg (fun _ => False) w3 (v4.alloc (.cells #[.slice none 0 0, .int .i64 0, .int .i64 0, .slice none 0 0] 35))) := hide (GC.out.trans GA)
       have TVA := hide (TVA.out.chg GA (fun _ _ h => h))
       have TVN := hide (TVN.out.chg GA (fun _ _ h => h))
       have TCX := hide (TCX.out.chg GA (fun _ _ h => h))
       have TXT := hide (TXT.out.chg GA (fun _ _ h => h))
       have BA := hide (GA.blk (fun h => h) BA.out)
       have S5 : Hid (v4.heap.size < (v4.alloc (.cells #[.slice none 0 0, .int .i64 0, .int .i64 0, .slice none 0 0] 35)).heap.size) := hide (blk_lt BX.out)
       clear GA GC
       go_simp
       refine hK.out _ _ GW (fun hHeld => ?_)
       clear hK K
       try simp only [Act.put, List.getElem_toArray, List.getElem_cons_zero, List.getElem_cons_succ, List.setIfInBounds_toArray, List.set_cons_zero, List.set_cons_succ]
       obtain ⟨X, hX⟩ : ∃ X, v4.heap.size = X := ⟨_, rfl⟩
       have HX := hide hX
       rw [hX] at BX ⊢
       clear hX
       generalize (v4.alloc (.cells #[.slice none 0 0, .int .i64 0, .int .i64 0, .slice none 0 0] 35)) = v5 at *
       refine wpAnyH_ready (rs := [8]) (by kernel_rfl) (by simp) ?_
       refine AllReadyH.cons (i := 8) (o := _) rfl (fun K hK => ?_) ?_
       rotate_left
       ·
        exact AllReadyH.nil
       obtain ⟨u1, u2, LF⟩ := leaf_st (.int .i64 wn) (.slice va cs.len vc) (.slice na ms.len nc) (.slice xa t0.len xc) (.int .i64 t1) (.int .i64 t2) (.slice xd t3.len xe) (by have := S1.out; have := S2.out; have := S3.out; have := S4.out; have := S5.out; have := HA.out; have := HX.out; omega) (by have := S1.out; have := S2.out; have := S3.out; have := S4.out; have := S5.out; have := HA.out; have := HX.out; omega) (by have := S1.out; have := S2.out; have := S3.out; have := S4.out; have := S5.out; have := HA.out; have := HX.out; omega) BA.out BX.out GW.out
       have TVA := LF.mv _ _ _ TVA.out (fun x hx => by have := S1.out; have := S2.out; have := S3.out; have := S4.out; have := S5.out; have := HA.out; have := HX.out; omega)
       have TVN := LF.mv _ _ _ TVN.out (fun x hx => by have := S1.out; have := S2.out; have := S3.out; have := S4.out; have := S5.out; have := HA.out; have := HX.out; omega)
       have TCX := LF.mv _ _ _ TCX.out (fun x hx => by have := S1.out; have := S2.out; have := S3.out; have := S4.out; have := S5.out; have := HA.out; have := HX.out; omega)
       have TXT := LF.mvt _ _ _ TXT.out (fun x hx => by have := S1.out; have := S2.out; have := S3.out; have := S4.out; have := S5.out; have := HA.out; have := HX.out; omega)
       have GW := LF.g1
       obtain ⟨a0, a1, a2, f0, f1, f2⟩ := LF.ca
       have LF := hide LF
       clear BA BX HA HX
       go_simp
       rw [LF.out.e1]
       clear a0 a1 a2 f0 f1 f2
       refine hK.out _ _ GW (fun hHeld => ?_)
       clear hK K
       try simp only [Act.put, List.getElem_toArray, List.getElem_cons_zero, List.getElem_cons_succ, List.setIfInBounds_toArray, List.set_cons_zero, List.set_cons_succ]
       first
        | (refine wpAnyH_take (i := 9) (v := undef) rfl (by kernel_rfl) (by kernel_rfl) (by kernel_rfl) (fun _ _ _ h => h) (Or.inr ⟨by rfl, rfl⟩) (by assumption) ?_)
        | (refine wpAnyH_take (i := 9) (v := ?_) rfl (by kernel_rfl) (by kernel_rfl) (by kernel_rfl) (fun _ _ _ h => h) (Or.inl ⟨by rfl, ?_⟩) (by assumption) ?_
           rotate_left
           (intro w hSw
            (try dsimp only at hSw)
            (go_simp <;> with_reducible rfl)))
       try simp only [Act.put, List.getElem_toArray, List.getElem_cons_zero, List.getElem_cons_succ, List.setIfInBounds_toArray, List.set_cons_zero, List.set_cons_succ]
       refine wpAnyH_ready (rs := [10]) (by kernel_rfl) (by simp) ?_
       refine AllReadyH.cons (i := 10) (o := _) rfl (fun K hK => ?_) ?_
       rotate_left
       ·
        exact AllReadyH.nil
       as_aux_lemma =>
        obtain ⟨a0, a1, a2, a3, f0, f1, f2, f3⟩ := LF.out.cx
        go_simp
        rw [LF.out.e2]
        clear a0 a1 a2 a3 f0 f1 f2 f3
        refine hK.out _ _ LF.out.g2 (fun hHeld => ?_)
        clear hK K
        try simp only [Act.put, List.getElem_toArray, List.getElem_cons_zero, List.getElem_cons_succ, List.setIfInBounds_toArray, List.set_cons_zero, List.set_cons_succ]
        refine wpAnyH_done (by kernel_rfl) ?_ _
        go_wp2_with fail
        go_meet
        exact ⟨A, X, va, vc, na, nc, ka, kc, xa, xc, xd, xe, rfl, rfl, rfl, LF.out.b1, LF.out.b2, TVA, TVN, TCX, TXT, LF.out.g2⟩
      refine AllReadyH.cons (i := 7) (o := _) rfl (fun K hK => ?_) ?_
      rotate_left
      ·
       exact AllReadyH.nil
      go_simp
      have GC : Hid (Chg (fun _ => False) w3 v3) := hide (GW.out)
      have GA := (al v3 (.cells #[.slice none 0 0, .int .i64 0, .int .i64 0, .slice none 0 0] 35))
      have BX : Hid ((v3.alloc (.cells #[.slice none 0 0, .int .i64 0, .int .i64 0, .slice none 0 0] 35)).heap[v3.heap.size]? = some (.cells #[.slice none 0 0, .int .i64 0, .int .i64 0, .slice none 0 0] 35)) := hide (blk_new v3 (.cells #[.slice none 0 0, .int .i64 0, .int .i64 0, .slice none 0 0] 35))
      have GW : Hid (Chg (fun _ => False) w3 (v3.alloc (.cells #[.slice none 0 0, .int .i64 0, .int .i64 0, .slice none 0 0] 35))) := hide (GC.out.trans GA)
      have TVA := hide (TVA.out.chg GA (fun _ _ h => h))
      have TVN := hide (TVN.out.chg GA (fun _ _ h => h))
      have TCX := hide (TCX.out.chg GA (fun _ _ h => h))
      have BA := hide (GA.blk (fun h => h) BA.out)
      have S4 : Hid (v3.heap.size < (v3.alloc (.cells #[.slice none 0 0, .int .i64 0, .int .i64 0, .slice none 0 0] 35)).heap.size) := hide (blk_lt BX.out)
      clear GA GC
      go_simp
      refine hK.out _ _ GW (fun hHeld => ?_)
      clear hK K
      try simp only [Act.put, List.getElem_toArray, List.getElem_cons_zero, List.getElem_cons_succ, List.setIfInBounds_toArray, List.set_cons_zero, List.set_cons_succ]
      obtain ⟨X, hX⟩ : ∃ X, v3.heap.size = X := ⟨_, rfl⟩
      have HX := hide hX
      rw [hX] at BX ⊢
      clear hX
      generalize (v3.alloc (.cells #[.slice none 0 0, .int .i64 0, .int .i64 0, .slice none 0 0] 35)) = v4 at *
      refine wpAnyH_ready (rs := [5]) (by kernel_rfl) (by simp) ?_
      refine AllReadyH.cons (i := 5) (o := _) rfl (fun K hK => ?_) ?_
      rotate_left
      ·
       exact AllReadyH.nil
      go_simp
      have GC : Hid (Chg (fun _ => False) w3 v4) := hide (GW.out)
      refine (to06_any (t0, t1, t2, t3) OKT.out _ (fun x => x < v4.heap.size) v4 (fun _ h => h) ((T0.out.all GG.out).all GC.out)).mono ?_
      rintro e v5 ⟨⟨v', rfl, tv⟩, g'⟩
      obtain ⟨xa, xc, xd, xe, rfl, _, _⟩ := id tv
      dsimp only [Tm.bs, Tm.kd, Tm.ix, Tm.ag]
      have TVA := hide (TVA.out.chg g' (fun _ _ h => h))
      have TVN := hide (TVN.out.chg g' (fun _ _ h => h))
      have TCX := hide (TCX.out.chg g' (fun _ _ h => h))
      have BA := hide (g'.blk (fun h => h) BA.out)
      have BX := hide (g'.blk (fun h => h) BX.out)
      have TXT : Hid (TV v5 (fun x => v4.heap.size ≤ x ∧ x < v5.heap.size) (.agg #[.slice xa t0.len xc, .int .i64 t1, .int .i64 t2, .slice xd t3.len xe]) (t0, t1, t2, t3)) := hide tv
      have GW : Hid (Chg (fun _ => False) w3 v5) := hide (GC.out.trans g')
      have S5 : Hid (v4.heap.size ≤ v5.heap.size) := hide g'.size
      clear g' tv GC
      go_simp
      refine hK.out _ _ GW (fun hHeld => ?_)
      clear hK K
      try simp only [Act.put, List.getElem_toArray, List.getElem_cons_zero, List.getElem_cons_succ, List.setIfInBounds_toArray, List.set_cons_zero, List.set_cons_succ]
      refine wpAnyH_ready (rs := [8]) (by kernel_rfl) (by simp) ?_
      refine AllReadyH.cons (i := 8) (o := _) rfl (fun K hK => ?_) ?_
      rotate_left
      ·
       exact AllReadyH.nil
      obtain ⟨u1, u2, LF⟩ := leaf_st (.int .i64 wn) (.slice va cs.len vc) (.slice na ms.len nc) (.slice xa t0.len xc) (.int .i64 t1) (.int .i64 t2) (.slice xd t3.len xe) (by have := S1.out; have := S2.out; have := S3.out; have := S4.out; have := S5.out; have := HA.out; have := HX.out; omega) (by have := S1.out; have := S2.out; have := S3.out; have := S4.out; have := S5.out; have := HA.out; have := HX.out; omega) (by have := S1.out; have := S2.out; have := S3.out; have := S4.out; have := S5.out; have := HA.out; have := HX.out; omega) BA.out BX.out GW.out
      have TVA := LF.mv _ _ _ TVA.out (fun x hx => by have := S1.out; have := S2.out; have := S3.out; have := S4.out; have := S5.out; have := HA.out; have := HX.out; omega)
      have TVN := LF.mv _ _ _ TVN.out (fun x hx => by have := S1.out; have := S2.out; have := S3.out; have := S4.out; have := S5.out; have := HA.out; have := HX.out; omega)
      have TCX := LF.mv _ _ _ TCX.out (fun x hx => by have := S1.out; have := S2.out; have := S3.out; have := S4.out; have := S5.out; have := HA.out; have := HX.out; omega)
      have TXT := LF.mvt _ _ _ TXT.out (fun x hx => by have := S1.out; have := S2.out; have := S3.out; have := S4.out; have := S5.out; have := HA.out; have := HX.out; omega)
      have GW := LF.g1
      obtain ⟨a0, a1, a2, f0, f1, f2⟩ := LF.ca
      have LF := hide LF
      clear BA BX HA HX
      go_simp
      rw [LF.out.e1]
      clear a0 a1 a2 f0 f1 f2
      refine hK.out _ _ GW (fun hHeld => ?_)
      clear hK K
      try simp only [Act.put, List.getElem_toArray, List.getElem_cons_zero, List.getElem_cons_succ, List.setIfInBounds_toArray, List.set_cons_zero, List.set_cons_succ]
      first
       | (refine wpAnyH_take (i := 9) (v := undef) rfl (by kernel_rfl) (by kernel_rfl) (by kernel_rfl) (fun _ _ _ h => h) (Or.inr ⟨by rfl, rfl⟩) (by assumption) ?_)
       | (refine wpAnyH_take (i := 9) (v := ?_) rfl (by kernel_rfl) (by kernel_rfl) (by kernel_rfl) (fun _ _ _ h => h) (Or.inl ⟨by rfl, ?_⟩) (by assumption) ?_
          rotate_left
          (intro w hSw
           (try dsimp only at hSw)
           (go_simp <;> with_reducible rfl)))
      try simp only [Act.put, List.getElem_toArray, List.getElem_cons_zero, List.getElem_cons_succ, List.setIfInBounds_toArray, List.set_cons_zero, List.set_cons_succ]
      refine wpAnyH_ready (rs := [10]) (by kernel_rfl) (by simp) ?_
      refine AllReadyH.cons (i := 10) (o := _) rfl (fun K hK => ?_) ?_
      rotate_left
      ·
       exact AllReadyH.nil
      as_aux_lemma =>
       obtain ⟨a0, a1, a2, a3, f0, f1, f2, f3⟩ := LF.out.cx
       go_simp
       rw [LF.out.e2]
       clear a0 a1 a2 a3 f0 f1 f2 f3
       refine hK.out _ _ LF.out.g2 (fun hHeld => ?_)
       clear hK K
       try simp only [Act.put, List.getElem_toArray, List.getElem_cons_zero, List.getElem_cons_succ, List.setIfInBounds_toArray, List.set_cons_zero, List.set_cons_succ]
       refine wpAnyH_done (by kernel_rfl) ?_ _
       go_wp2_with fail
       go_meet
       exact ⟨A, X, va, vc, na, nc, ka, kc, xa, xc, xd, xe, rfl, rfl, rfl, LF.out.b1, LF.out.b2, TVA, TVN, TCX, TXT, LF.out.g2⟩
     refine AllReadyH.cons (i := 7) (o := _) rfl (fun K hK => ?_) ?_
     rotate_left
     ·
      exact AllReadyH.nil
     go_simp
     have GC : Hid (Chg (fun _ => False) w3 v2) := hide (GW.out)
     have GA := (al v2 (.cells #[.slice none 0 0, .int .i64 0, .int .i64 0, .slice none 0 0] 35))
     have BX : Hid ((v2.alloc (.cells #[.slice none 0 0, .int .i64 0, .int .i64 0, .slice none 0 0] 35)).heap[v2.heap.size]? = some (.cells #[.slice none 0 0, .int .i64 0, .int .i64 0, .slice none 0 0] 35)) := hide (blk_new v2 (.cells #[.slice none 0 0, .int .i64 0, .int .i64 0, .slice none 0 0] 35))
     have GW : Hid (Chg (fun _ => False) w3 (v2.alloc (.cells #[.slice none 0 0, .int .i64 0, .int .i64 0, .slice none 0 0] 35))) := hide (GC.out.trans GA)
     have TVA := hide (TVA.out.chg GA (fun _ _ h => h))
     have TVN := hide (TVN.out.chg GA (fun _ _ h => h))
     have TCX := hide (TCX.out.chg GA (fun _ _ h => h))
     have S3 : Hid (v2.heap.size < (v2.alloc (.cells #[.slice none 0 0, .int .i64 0, .int .i64 0, .slice none 0 0] 35)).heap.size) := hide (blk_lt BX.out)
     clear GA GC
     go_simp
     refine hK.out _ _ GW (fun hHeld => ?_)
     clear hK K
     try simp only [Act.put, List.getElem_toArray, List.getElem_cons_zero, List.getElem_cons_succ, List.setIfInBounds_toArray, List.set_cons_zero, List.set_cons_succ]
     obtain ⟨X, hX⟩ : ∃ X, v2.heap.size = X := ⟨_, rfl⟩
     have HX := hide hX
     rw [hX] at BX ⊢
     clear hX
     generalize (v2.alloc (.cells #[.slice none 0 0, .int .i64 0, .int .i64 0, .slice none 0 0] 35)) = v3 at *
     refine wpAnyH_ready (rs := [5, 6]) (by kernel_rfl) (by simp) ?_
     refine AllReadyH.cons (i := 5) (o := _) rfl (fun K hK => ?_) ?_
     ·
      go_simp
      have GC : Hid (Chg (fun _ => False) w3 v3) := hide (GW.out)
      refine (to06_any (t0, t1, t2, t3) OKT.out _ (fun x => x < v3.heap.size) v3 (fun _ h => h) ((T0.out.all GG.out).all GC.out)).mono ?_
      rintro e v4 ⟨⟨v', rfl, tv⟩, g'⟩
      obtain ⟨xa, xc, xd, xe, rfl, _, _⟩ := id tv
      dsimp only [Tm.bs, Tm.kd, Tm.ix, Tm.ag]
      have TVA := hide (TVA.out.chg g' (fun _ _ h => h))
      have TVN := hide (TVN.out.chg g' (fun _ _ h => h))
      have TCX := hide (TCX.out.chg g' (fun _ _ h => h))
      have BX := hide (g'.blk (fun h => h) BX.out)
      have TXT : Hid (TV v4 (fun x => v3.heap.size ≤ x ∧ x < v4.heap.size) (.agg #[.slice xa t0.len xc, .int .i64 t1, .int .i64 t2, .slice xd t3.len xe]) (t0, t1, t2, t3)) := hide tv
      have GW : Hid (Chg (fun _ => False) w3 v4) := hide (GC.out.trans g')
      have S4 : Hid (v3.heap.size ≤ v4.heap.size) := hide g'.size
      clear g' tv GC
      go_simp
      refine hK.out _ _ GW (fun hHeld => ?_)
      clear hK K
      try simp only [Act.put, List.getElem_toArray, List.getElem_cons_zero, List.getElem_cons_succ, List.setIfInBounds_toArray, List.set_cons_zero, List.set_cons_succ]
      refine wpAnyH_ready (rs := [6]) (by kernel_rfl) (by simp) ?_
      refine AllReadyH.cons (i := 6) (o := _) rfl (fun K hK => ?_) ?_
      rotate_left
      ·
       exact AllReadyH.nil
      go_simp
      have GC : Hid (Chg (fun _ => False) w3 v4) := hide (GW.out)
      have GA := (al v4 (.cells #[.int .i64 0, .slice none 0 0, .slice none 0 0] 66))
      have BA : Hid ((v4.alloc (.cells #[.int .i64 0, .slice none 0 0, .slice none 0 0] 66)).heap[v4.heap.size]? = some (.cells #[.int .i64 0, .slice none 0 0, .slice none 0 0] 66)) := hide (blk_new v4 (.cells #[.int .i64 0, .slice none 0 0, .slice none 0 0] 66))
      have GW : Hid (Chg (fun _ => False) w3 (v4.alloc (.cells #[.int .i64 0, .slice none 0 0, .slice none 0 0] 66))) := hide (GC.out.trans GA)
      have TVA := hide (TVA.out.chg GA (fun _ _ h => h))
      have TVN := hide (TVN.out.chg GA (fun _ _ h => h))
      have TCX := hide (TCX.out.chg GA (fun _ _ h => h))
      have TXT := hide (TXT.out.chg GA (fun _ _ h => h))
      have BX := hide (GA.blk (fun h => h) BX.out)
      have S5 : Hid (v4.heap.size < (v4.alloc (.cells #[.int .i64 0, .slice none 0 0, .slice none 0 0] 66)).heap.size) := hide (blk_lt BA.out)
      clear GA GC
      go_simp
      refine hK.out _ _ GW (fun hHeld => ?_)
      clear hK K
      try simp only [Act.put, List.getElem_toArray, List.getElem_cons_zero, List.getElem_cons_succ, List.setIfInBounds_toArray, List.set_cons_zero, List.set_cons_succ]
      obtain ⟨A, hA⟩ : ∃ A, v4.heap.size = A := ⟨_, rfl⟩
      have HA := hide hA
      rw [hA] at BA ⊢
      clear hA
      generalize (v4.alloc (.cells #[.int .i64 0, .slice none 0 0, .slice none 0 0] 66)) = v5 at *
      refine wpAnyH_ready (rs := [8]) (by kernel_rfl) (by simp) ?_
      refine AllReadyH.cons (i := 8) (o := _) rfl (fun K hK => ?_) ?_
      rotate_left
      ·
       exact AllReadyH.nil
      obtain ⟨u1, u2, LF⟩ := leaf_st (.int .i64 wn) (.slice va cs.len vc) (.slice na ms.len nc) (.slice xa t0.len xc) (.int .i64 t1) (.int .i64 t2) (.slice xd t3.len xe) (by have := S1.out; have := S2.out; have := S3.out; have := S4.out; have := S5.out; have := HA.out; have := HX.out; omega) (by have := S1.out; have := S2.out; have := S3.out; have := S4.out; have := S5.out; have := HA.out; have := HX.out; omega) (by have := S1.out; have := S2.out; have := S3.out; have := S4.out; have := S5.out; have := HA.out; have := HX.out; omega) BA.out BX.out GW.out
      have TVA := LF.mv _ _ _ TVA.out (fun x hx => by have := S1.out; have := S2.out; have := S3.out; have := S4.out; have := S5.out; have := HA.out; have := HX.out; omega)
      have TVN := LF.mv _ _ _ TVN.out (fun x hx => by have := S1.out; have := S2.out; have := S3.out; have := S4.out; have := S5.out; have := HA.out; have := HX.out; omega)
      have TCX := LF.mv _ _ _ TCX.out (fun x hx => by have := S1.out; have := S2.out; have := S3.out; have := S4.out; have := S5.out; have := HA.out; have := HX.out; omega)
      have TXT := LF.mvt _ _ _ TXT.out (fun x hx => by have := S1.out; have := S2.out; have := S3.out; have := S4.out; have := S5.out; have := HA.out; have := HX.out; omega)
      have GW := LF.g1
      obtain ⟨a0, a1, a2, f0, f1, f2⟩ := LF.ca
      have LF := hide LF
      clear BA BX HA HX
      go_simp
      rw [LF.out.e1]
      clear a0 a1 a2 f0 f1 f2
      refine hK.out _ _ GW (fun hHeld => ?_)
      clear hK K
      try simp only [Act.put, List.getElem_toArray, List.getElem_cons_zero, List.getElem_cons_succ, List.setIfInBounds_toArray, List.set_cons_zero, List.set_cons_succ]
      first
       | (refine wpAnyH_take (i := 9) (v := undef) rfl (by kernel_rfl) (by kernel_rfl) (by kernel_rfl) (fun _ _ _ h => h) (Or.inr ⟨by rfl, rfl⟩) (by assumption) ?_)
       | (refine wpAnyH_take (i := 9) (v := ?_) rfl (by kernel_rfl) (by kernel_rfl) (by kernel_rfl) (fun _ _ _ h => h) (Or.inl ⟨by rfl, ?_⟩) (by assumption) ?_
          rotate_left
          (intro w hSw
           (try dsimp only at hSw)
           (go_simp <;> with_reducible rfl)))
      try simp only [Act.put, List.getElem_toArray, List.getElem_cons_zero, List.getElem_cons_succ, List.setIfInBounds_toArray, List.set_cons_zero, List.set_cons_succ]
      refine wpAnyH_ready (rs := [10]) (by kernel_rfl) (by simp) ?_
      refine AllReadyH.cons (i := 10) (o := _) rfl (fun K hK => ?_) ?_
      rotate_left
      ·
       exact AllReadyH.nil
      as_aux_lemma =>
       obtain ⟨a0, a1, a2, a3, f0, f1, f2, f3⟩ := LF.out.cx
       go_simp
       rw [LF.out.e2]
       clear a0 a1 a2 a3 f0 f1 f2 f3
       refine hK.out _ _ LF.out.g2 (fun hHeld => ?_)
       clear hK K
       try simp only [Act.put, List.getElem_toArray, List.getElem_cons_zero, List.getElem_cons_succ, List.setIfInBounds_toArray, List.set_cons_zero, List.set_cons_succ]
       refine wpAnyH_done (by kernel_rfl) ?_ _
       go_wp2_with fail
       go_meet
       exact ⟨A, X, va, vc, na, nc, ka, kc, xa, xc, xd, xe, rfl, rfl, rfl, LF.out.b1, LF.out.b2, TVA, TVN, TCX, TXT, LF.out.g2⟩
     refine AllReadyH.cons (i := 6) (o := _) rfl (fun K hK => ?_) ?_
     rotate_left
     ·
      exact AllReadyH.nil
     go_simp
     have GC : Hid (Chg (fun _ => False) w3 v3) := hide (GW.out)
     have GA := (al v3 (.cells #[.int .i64 0, .slice none 0 0, .slice none 0 0] 66))
     have BA : Hid ((v3.alloc (.cells #[.int .i64 0, .slice none 0 0, .slice none 0 0] 66)).heap[v3.heap.size]? = some (.cells #[.int .i64 0, .slice none 0 0, .slice none 0 0] 66)) := hide (blk_new v3 (.cells #[.int .i64 0, .slice none 0 0, .slice none 0 0] 66))
     have GW : Hid (Chg (fun _ => False) w3 (v3.alloc (.cells #[.int .i64 0, .slice none 0 0, .slice none 0 0] 66))) := hide (GC.out.trans GA)
     have TVA := hide (TVA.out.chg GA (fun _ _ h => h))
     have TVN := hide (TVN.out.chg GA (fun _ _ h => h))
     have TCX := hide (TCX.out.chg GA (fun _ _ h => h))
     have BX := hide (GA.blk (fun h => h) BX.out)
     have S4 : Hid (v3.heap.size < (v3.alloc (.cells #[.int .i64 0, .slice none 0 0, .slice none 0 0] 66)).heap.size) := hide (blk_lt BA.out)
     clear GA GC
     go_simp
     refine hK.out _ _ GW (fun hHeld => ?_)
     clear hK K
     try simp only [Act.put, List.getElem_toArray, List.getElem_cons_zero, List.getElem_cons_succ, List.setIfInBounds_toArray, List.set_cons_zero, List.set_cons_succ]
     obtain ⟨A, hA⟩ : ∃ A, v3.heap.size = A := ⟨_, rfl⟩
     have HA := hide hA
     rw [hA] at BA ⊢
     clear hA
     generalize (v3.alloc (.cells #[.int .i64 0, .slice none 0 0, .slice none 0 0] 66)) = v4 at *
     refine wpAnyH_ready (rs := [5]) (by kernel_rfl) (by simp) ?_
     refine AllReadyH.cons (i := 5) (o := _) rfl (fun K hK => ?_) ?_
     rotate_left
     ·
      exact AllReadyH.nil
     go_simp
     have GC : Hid (Chg (fun _ => False) w3 v4) := hide (GW.out)
     refine (to06_any (t0, t1, t2, t3) OKT.out _ (fun x => x < v4.heap.size) v4 (fun _ h => h) ((T0.out.all GG.out).all GC.out)).mono ?_
     rintro e v5 ⟨⟨v', rfl, tv⟩, g'⟩
     obtain ⟨xa, xc, xd, xe, rfl, _, _⟩ := id tv
     dsimp only [Tm.bs, Tm.kd, Tm.ix, Tm.ag]
     have TVA := hide (TVA.out.chg g' (fun _ _ h => h))
     have TVN := hide (TVN.out.chg g' (fun _ _ h => h))
     have TCX := hide (TCX.out.chg g' (fun _ _ h => h))
     have BA := hide (g'.blk (fun h => h) BA.out)
     have BX := hide (g'.blk (fun h => h) BX.out)
     have TXT : Hid (TV v5 (fun x => v4.heap.size ≤ x ∧ x < v5.heap.size) (.agg #[.slice xa t0.len xc, .int .i64 t1, .int .i64 t2, .slice xd t3.len xe]) (t0, t1, t2, t3)) := hide tv
     have GW : Hid (Chg (fun _ => False) w3 v5) := hide (GC.out.trans g')
     have S5 : Hid (v4.heap.size ≤ v5.heap.size) := hide g'.size
     clear g' tv GC
     go_simp
     refine hK.out _ _ GW (fun hHeld => ?_)
     clear hK K
     try simp only [Act.put, List.getElem_toArray, List.getElem_cons_zero, List.getElem_cons_succ, List.setIfInBounds_toArray, List.set_cons_zero, List.set_cons_succ]
     refine wpAnyH_ready (rs := [8]) (by kernel_rfl) (by simp) ?_
     refine AllReadyH.cons (i := 8) (o := _) rfl (fun K hK => ?_) ?_
     rotate_left
     ·
      exact AllReadyH.nil
     obtain ⟨u1, u2, LF⟩ := leaf_st (.int .i64 wn) (.slice va cs.len vc) (.slice na ms.len nc) (.slice xa t0.len xc) (.int .i64 t1) (.int .i64 t2) (.slice xd t3.len xe) (by have := S1.out; have := S2.out; have := S3.out; have := S4.out; have := S5.out; have := HA.out; have := HX.out; omega) (by have := S1.out; have := S2.out; have := S3.out; have := S4.out; have := S5.out; have := HA.out; have := HX.out; omega) (by have := S1.out; have := S2.out; have := S3.out; have := S4.out; have := S5.out; have := HA.out; have := HX.out; omega) BA.out BX.out GW.out
     have TVA := LF.mv _ _ _ TVA.out (fun x hx => by have := S1.out; have := S2.out; have := S3.out; have := S4.out; have := S5.out; have := HA.out; have := HX.out; omega)
     have TVN := LF.mv _ _ _ TVN.out (fun x hx => by have := S1.out; have := S2.out; have := S3.out; have := S4.out; have := S5.out; have := HA.out; have := HX.out; omega)
     have TCX := LF.mv _ _ _ TCX.out (fun x hx => by have := S1.out; have := S2.out; have := S3.out; have := S4.out; have := S5.out; have := HA.out; have := HX.out; omega)
     have TXT := LF.mvt _ _ _ TXT.out (fun x hx => by have := S1.out; have := S2.out; have := S3.out; have := S4.out; have := S5.out; have := HA.out; have := HX.out; omega)
     have GW := LF.g1
     obtain ⟨a0, a1, a2, f0, f1, f2⟩ := LF.ca
     have LF := hide LF
     clear BA BX HA HX
     go_simp
     rw [LF.out.e1]
     clear a0 a1 a2 f0 f1 f2
     refine hK.out _ _ GW (fun hHeld => ?_)
     clear hK K
     try simp only [Act.put, List.getElem_toArray, List.getElem_cons_zero, List.getElem_cons_succ, List.setIfInBounds_toArray, List.set_cons_zero, List.set_cons_succ]
     first
      | (refine wpAnyH_take (i := 9) (v := undef) rfl (by kernel_rfl) (by kernel_rfl) (by kernel_rfl) (fun _ _ _ h => h) (Or.inr ⟨by rfl, rfl⟩) (by assumption) ?_)
      | (refine wpAnyH_take (i := 9) (v := ?_) rfl (by kernel_rfl) (by kernel_rfl) (by kernel_rfl) (fun _ _ _ h => h) (Or.inl ⟨by rfl, ?_⟩) (by assumption) ?_
         rotate_left
         (intro w hSw
          (try dsimp only at hSw)
          (go_simp <;> with_reducible rfl)))
     try simp only [Act.put, List.getElem_toArray, List.getElem_cons_zero, List.getElem_cons_succ, List.setIfInBounds_toArray, List.set_cons_zero, List.set_cons_succ]
     refine wpAnyH_ready (rs := [10]) (by kernel_rfl) (by simp) ?_
     refine AllReadyH.cons (i := 10) (o := _) rfl (fun K hK => ?_) ?_
     rotate_left
     ·
      exact AllReadyH.nil
     as_aux_lemma =>
      obtain ⟨a0, a1, a2, a3, f0, f1, f2, f3⟩ := LF.out.cx
      go_simp
      rw [LF.out.e2]
      clear a0 a1 a2 a3 f0 f1 f2 f3
      refine hK.out _ _ LF.out.g2 (fun hHeld => ?_)
      clear hK K
      try simp only [Act.put, List.getElem_toArray, List.getElem_cons_zero, List.getElem_cons_succ, List.setIfInBounds_toArray, List.set_cons_zero, List.set_cons_succ]
      refine wpAnyH_done (by kernel_rfl) ?_ _
      go_wp2_with fail
      go_meet
      exact ⟨A, X, va, vc, na, nc, ka, kc, xa, xc, xd, xe, rfl, rfl, rfl, LF.out.b1, LF.out.b2, TVA, TVN, TCX, TXT, LF.out.g2⟩
    refine AllReadyH.cons (i := 6) (o := _) rfl (fun K hK => ?_) ?_
    ·
     go_simp
     have GC : Hid (Chg (fun _ => False) w3 v1) := hide (GW.out)
     have GA := (al v1 (.cells #[.int .i64 0, .slice none 0 0, .slice none 0 0] 66))
     have BA : Hid ((v1.alloc (.cells #[.int .i64 0, .slice none 0 0, .slice none 0 0] 66)).heap[v1.heap.size]? = some (.cells #[.int .i64 0, .slice none 0 0, .slice none 0 0] 66)) := hide (blk_new v1 (.cells #[.int .i64 0, .slice none 0 0, .slice none 0 0] 66))
     have GW : Hid (Chg (fun _ => False) w3 (v1.alloc (.cells #[.int .i64 0, .slice none 0 0, .slice none 0 0] 66))) := hide (GC.out.trans GA)
     have TVA := hide (TVA.out.chg GA (fun _ _ h => h))
     have TVN := hide (TVN.out.chg GA (fun _ _ h => h))
     have S2 : Hid (v1.heap.size < (v1.alloc (.cells #[.int .i64 0, .slice none 0 0, .slice none 0 0] 66)).heap.size) := hide (blk_lt BA.out)
     clear GA GC
     go_simp
     refine hK.out _ _ GW (fun hHeld => ?_)
     clear hK K
     try simp only [Act.put, List.getElem_toArray, List.getElem_cons_zero, List.getElem_cons_succ, List.setIfInBounds_toArray, List.set_cons_zero, List.set_cons_succ]
     obtain ⟨A, hA⟩ : ∃ A, v1.heap.size = A := ⟨_, rfl⟩
     have HA := hide hA
     rw [hA] at BA ⊢
     clear hA
     generalize (v1.alloc (.cells #[.int .i64 0, .slice none 0 0, .slice none 0 0] 66)) = v2 at *
     refine wpAnyH_ready (rs := [3, 7]) (by kernel_rfl) (by simp) ?_
     refine AllReadyH.cons (i := 3) (o := _) rfl (fun K hK => ?_) ?_
     ·
      go_simp
      have GC : Hid (Chg (fun _ => False) w3 v2) := hide (GW.out)
      refine (types_any cx (by have := SW.out.2.2; omega) _ (fun x => x < v2.heap.size) v2 (fun _ h => h) ((X0.out.all GG.out).all GC.out)).mono ?_
      rintro e v3 ⟨⟨v', rfl, tv⟩, g'⟩
      obtain ⟨ka, kc, rfl, _⟩ := id tv
      have TVA := hide (TVA.out.chg g' (fun _ _ h => h))
      have TVN := hide (TVN.out.chg g' (fun _ _ h => h))
      have BA := hide (g'.blk (fun h => h) BA.out)
      have TCX : Hid (Ts v3 (fun x => v2.heap.size ≤ x ∧ x < v3.heap.size) (.slice ka cx.len kc) cx) := hide tv
      have GW : Hid (Chg (fun _ => False) w3 v3) := hide (GC.out.trans g')
      have S3 : Hid (v2.heap.size ≤ v3.heap.size) := hide g'.size
      clear g' tv GC
      go_simp
      refine hK.out _ _ GW (fun hHeld => ?_)
      clear hK K
      try simp only [Act.put, List.getElem_toArray, List.getElem_cons_zero, List.getElem_cons_succ, List.setIfInBounds_toArray, List.set_cons_zero, List.set_cons_succ]
      refine wpAnyH_ready (rs := [5, 7]) (by kernel_rfl) (by simp) ?_
      refine AllReadyH.cons (i := 5) (o := _) rfl (fun K hK => ?_) ?_
      ·
       go_simp
       have GC : Hid (Chg (fun _ => False) w3 v3) := hide (GW.out)
       refine (to06_any (t0, t1, t2, t3) OKT.out _ (fun x => x < v3.heap.size) v3 (fun _ h => h) ((T0.out.all GG.out).all GC.out)).mono ?_
       rintro e v4 ⟨⟨v', rfl, tv⟩, g'⟩
       obtain ⟨xa, xc, xd, xe, rfl, _, _⟩ := id tv
       dsimp only [Tm.bs, Tm.kd, Tm.ix, Tm.ag]
       have TVA := hide (TVA.out.chg g' (fun _ _ h => h))
       have TVN := hide (TVN.out.chg g' (fun _ _ h => h))
       have TCX := hide (TCX.out.chg g' (fun _ _ h => h))
       have BA := hide (g'.blk (fun h => h) BA.out)
       have TXT : Hid (TV v4 (fun x => v3.heap.size ≤ x ∧ x < v4.heap.size) (.agg #[.slice xa t0.len xc, .int .i64 t1, .int .i64 t2, .slice xd t3.len xe]) (t0, t1, t2, t3)) := hide tv
       have GW : Hid (Chg (fun _ => False) w3 v4) := hide (GC.out.trans g')
       have S4 : Hid (v3.heap.size ≤ v4.heap.size) := hide g'.size
       clear g' tv GC
       go_simp
       refine hK.out _ _ GW (fun hHeld => ?_)
       clear hK K
       try simp only [Act.put, List.getElem_toArray, List.getElem_cons_zero, List.getElem_cons_succ, List.setIfInBounds_toArray, List.set_cons_zero, List.set_cons_succ]
       refine wpAnyH_ready (rs := [7]) (by kernel_rfl) (by simp) ?_
       refine AllReadyH.cons (i := 7) (o := _) rfl (fun K hK => ?_) ?_
       rotate_left
       ·
        exact AllReadyH.nil
       go_simp
       have GC : Hid (Chg (fun _ => False) w3 v4) := hide (GW.out)
       have GA := (al v4 (.cells #[.slice none 0 0, .int .i64 0, .int .i64 0, .slice none 0 0] 35))
       have BX : Hid ((v4.alloc (.cells #[.slice none 0 0, .int .i64 0, .int .i64 0, .slice none 0 0] 35)).heap[v4.heap.size]? = some (.cells #[.slice none 0 0, .int .i64 0, .int .i64 0, .slice none 0 0] 35)) := hide (blk_new v4 (.cells #[.slice none 0 0, .int .i64 0, .int .i64 0, .slice none 0 0] 35))
       have GW : Hid (Chg (fun _ => False) w3 (v4.alloc (.cells #[.slice none 0 0, .int .i64 0, .int .i64 0, .slice none 0 0] 35))) := hide (GC.out.trans GA)
       have TVA := hide (TVA.out.chg GA (fun _ _ h => h))
       have TVN := hide (TVN.out.chg GA (fun _ _ h => h))
       have TCX := hide (TCX.out.chg GA (fun _ _ h => h))
       have TXT := hide (TXT.out.chg GA (fun _ _ h => h))
       have BA := hide (GA.blk (fun h => h) BA.out)
       have S5 : Hid (v4.heap.size < (v4.alloc (.cells #[.slice none 0 0, .int .i64 0, .int .i64 0, .slice none 0 0] 35)).heap.size) := hide (blk_lt BX.out)
       clear GA GC
       go_simp
       refine hK.out _ _ GW (fun hHeld => ?_)
       clear hK K
       try simp only [Act.put, List.getElem_toArray, List.getElem_cons_zero, List.getElem_cons_succ, List.setIfInBounds_toArray, List.set_cons_zero, List.set_cons_succ]
       obtain ⟨X, hX⟩ : ∃ X, v4.heap.size = X := ⟨_, rfl⟩
       have HX := hide hX
       rw [hX] at BX ⊢
       clear hX
       generalize (v4.alloc (.cells #[.slice none 0 0, .int .i64 0, .int .i64 0, .slice none 0 0] 35)) = v5 at *
       refine wpAnyH_ready (rs := [8]) (by kernel_rfl) (by simp) ?_
       refine AllReadyH.cons (i := 8) (o := _) rfl (fun K hK => ?_) ?_
       rotate_left
       ·
        exact AllReadyH.nil
       obtain ⟨u1, u2, LF⟩ := leaf_st (.int .i64 wn) (.slice va cs.len vc) (.slice na ms.len nc) (.slice xa t0.len xc) (.int .i64 t1) (.int .i64 t2) (.slice xd t3.len xe) (by have := S1.out; have := S2.out; have := S3.out; have := S4.out; have := S5.out; have := HA.out; have := HX.out; omega) (by have := S1.out; have := S2.out; have := S3.out; have := S4.out; have := S5.out; have := HA.out; have := HX.out; omega) (by have := S1.out; have := S2.out; have := S3.out; have := S4.out; have := S5.out; have := HA.out; have := HX.out; omega) BA.out BX.out GW.out
       have TVA := LF.mv _ _ _ TVA.out (fun x hx => by have := S1.out; have := S2.out; have := S3.out; have := S4.out; have := S5.out; have := HA.out; have := HX.out; omega)
       have TVN := LF.mv _ _ _ TVN.out (fun x hx => by have := S1.out; have := S2.out; have := S3.out; have := S4.out; have := S5.out; have := HA.out; have := HX.out; omega)
       have TCX := LF.mv _ _ _ TCX.out (fun x hx => by have := S1.out; have := S2.out; have := S3.out; have := S4.out; have := S5.out; have := HA.out; have := HX.out; omega)
       have TXT := LF.mvt _ _ _ TXT.out (fun x hx => by have := S1.out; have := S2.out; have := S3.out; have := S4.out; have := S5.out; have := HA.out; have := HX.out; omega)
       have GW := LF.g1
       obtain ⟨a0, a1, a2, f0, f1, f2⟩ := LF.ca
       have LF := hide LF
       clear BA BX HA HX
       go_simp
       rw [LF.out.e1]
       clear a0 a1 a2 f0 f1 f2
       refine hK.out _ _ GW (fun hHeld => ?_)
       clear hK K
       try simp only [Act.put, List.getElem_toArray, List.getElem_cons_zero, List.getElem_cons_succ, List.setIfInBounds_toArray, List.set_cons_zero, List.set_cons_succ]
       first
        | (refine wpAnyH_take (i := 9) (v := undef) rfl (by kernel_rfl) (by kernel_rfl) (by kernel_rfl) (fun _ _ _ h => h) (Or.inr ⟨by rfl, rfl⟩) (by assumption) ?_)
        | (refine wpAnyH_take (i := 9) (v := ?_) rfl (by kernel_rfl) (by kernel_rfl) (by kernel_rfl) (fun _ _ _ h => h) (Or.inl ⟨by rfl, ?_⟩) (by assumption) ?_
           rotate_left
           (intro w hSw
            (try dsimp only at hSw)
            (go_simp <;> with_reducible rfl)))
       try simp only [Act.put, List.getElem_toArray, List.getElem_cons_zero, List.getElem_cons_succ, List.setIfInBounds_toArray, List.set_cons_zero, List.set_cons_succ]
       refine wpAnyH_ready (rs := [10]) (by kernel_rfl) (by simp) ?_
       refine AllReadyH.cons (i := 10) (o := _) rfl (fun K hK => ?_) ?_
       rotate_left
       ·
        exact AllReadyH.nil
       as_aux_lemma =>
        obtain ⟨a0, a1, a2, a3, f0, f1, f2, f3⟩ := LF.out.cx
        go_simp
        rw [LF.out.e2]
        clear a0 a1 a2 a3 f0 f1 f2 f3
        refine hK.out _ _ LF.out.g2 (fun hHeld => ?_)
        clear hK K
        try simp only [Act.put, List.getElem_toArray, List.getElem_cons_zero, List.getElem_cons_succ, List.setIfInBounds_toArray, List.set_cons_zero, List.set_cons_succ]
        refine wpAnyH_done (by kernel_rfl) ?_ _
        go_wp2_with fail
        go_meet
        exact ⟨A, X, va, vc, na, nc, ka, kc, xa, xc, xd, xe, rfl, rfl, rfl, LF.out.b1, LF.out.b2, TVA, TVN, TCX, TXT, LF.out.g2⟩
      refine AllReadyH.cons (i := 7) (o := _) rfl (fun K hK => ?_) ?_
      rotate_left
      ·
       exact AllReadyH.nil
      go_simp
      have GC : Hid (Chg (fun _ => False) w3 v3) := hide (GW.out)
      have GA := (al v3 (.cells #[.slice none 0 0, .int .i64 0, .int .i64 0, .slice none 0 0] 35))
      have BX : Hid ((v3.alloc (.cells #[.slice none 0 0, .int .i64 0, .int .i64 0, .slice none 0 0] 35)).heap[v3.heap.size]? = some (.cells #[.slice none 0 0, .int .i64 0, .int .i64 0, .slice none 0 0] 35)) := hide (blk_new v3 (.cells #[.slice none 0 0, .int .i64 0, .int .i64 0, .slice none 0 0] 35))
      have GW : Hid (Chg (fun _ => False) w3 (v3.alloc (.cells #[.slice none 0 0, .int .i64 0, .int .i64 0, .slice none 0 0] 35))) := hide (GC.out.trans GA)
      have TVA := hide (TVA.out.chg GA (fun _ _ h => h))
      have TVN := hide (TVN.out.chg GA (fun _ _ h => h))
      have TCX := hide (TCX.out.chg GA (fun _ _ h => h))
      have BA := hide (GA.blk (fun h => h) BA.out)
      have S4 : Hid (v3.heap.size < (v3.alloc (.cells #[.slice none 0 0, .int .i64 0, .int .i64 0, .slice none 0 0] 35)).heap.size) := hide (blk_lt BX.out)
      clear GA GC
      go_simp
      refine hK.out _ _ GW (fun hHeld => ?_)
      clear hK K
      try simp only [Act.put, List.getElem_toArray, List.getElem_cons_zero, List.getElem_cons_succ, List.setIfInBounds_toArray, List.set_cons_zero, List.set_cons_succ]
      obtain ⟨X, hX⟩ : ∃ X, v3.heap.size = X := ⟨_, rfl⟩
      have HX := hide hX
      rw [hX] at BX ⊢
      clear hX
      generalize (v3.alloc (.cells #[.slice none 0 0, .int .i64 0, .int .i64 0, .slice none 0 0] 35)) = v4 at *
      refine wpAnyH_ready (rs := [5]) (by kernel_rfl) (by simp) ?_
      refine AllReadyH.cons (i := 5) (o := _) rfl (fun K hK => ?_) ?_
      rotate_left
      ·
       exact AllReadyH.nil
      go_simp
      have GC : Hid (Chg (fun _ => False) w3 v4) := hide (GW.out)
      refine (to06_any (t0, t1, t2, t3) OKT.out _ (fun x => x < v4.heap.size) v4 (fun _ h => h) ((T0.out.all GG.out).all GC.out)).mono ?_
      rintro e v5 ⟨⟨v', rfl, tv⟩, g'⟩
      obtain ⟨xa, xc, xd, xe, rfl, _, _⟩ := id tv
      dsimp only [Tm.bs, Tm.kd, Tm.ix, Tm.ag]
      have TVA := hide (TVA.out.chg g' (fun _ _ h => h))
      have TVN := hide (TVN.out.chg g' (fun _ _ h => h))
      have TCX := hide (TCX.out.chg g' (fun _ _ h => h))
      have BA := hide (g'.blk (fun h => h) BA.out)
      have BX := hide (g'.blk (fun h => h) BX.out)
      have TXT : Hid (TV v5 (fun x => v4.heap.size ≤ x ∧ x < v5.heap.size) (.agg #[.slice xa t0.len xc, .int .i64 t1, .int .i64 t2, .slice xd t3.len xe]) (t0, t1, t2, t3)) := hide tv
      have GW : Hid (Chg (fun _ => False) w3 v5) := hide (GC.out.trans g')
      have S5 : Hid (v4.heap.size ≤ v5.heap.size) := hide g'.size
      clear g' tv GC
      go_simp
      refine hK.out _ _ GW (fun hHeld => ?_)
      clear hK K
      try simp only [Act.put, List.getElem_toArray, List.getElem_cons_zero, List.getElem_cons_succ, List.setIfInBounds_toArray, List.set_cons_zero, List.set_cons_succ]
      refine wpAnyH_ready (rs := [8]) (by kernel_rfl) (by simp) ?_
      refine AllReadyH.cons (i := 8) (o := _) rfl (fun K hK => ?_) ?_
      rotate_left
      ·
       exact AllReadyH.nil
      obtain ⟨u1, u2, LF⟩ := leaf_st (.int .i64 wn) (.slice va cs.len vc) (.slice na ms.len nc) (.slice xa t0.len xc) (.int .i64 t1) (.int .i64 t2) (.slice xd t3.len xe) (by have := S1.out; have := S2.out; have := S3.out; have := S4.out; have := S5.out; have := HA.out; have := HX.out; omega) (by have := S1.out; have := S2.out; have := S3.out; have := S4.out; have := S5.out; have := HA.out; have := HX.out; omega) (by have := S1.out; have := S2.out; have := S3.out; have := S4.out; have := S5.out; have := HA.out; have := HX.out; omega) BA.out BX.out GW.out
      have TVA := LF.mv _ _ _ TVA.out (fun x hx => by have := S1.out; have := S2.out; have := S3.out; have := S4.out; have := S5.out; have := HA.out; have := HX.out; omega)
      have TVN := LF.mv _ _ _ TVN.out (fun x hx => by have := S1.out; have := S2.out; have := S3.out; have := S4.out; have := S5.out; have := HA.out; have := HX.out; omega)
      have TCX := LF.mv _ _ _ TCX.out (fun x hx => by have := S1.out; have := S2.out; have := S3.out; have := S4.out; have := S5.out; have := HA.out; have := HX.out; omega)
      have TXT := LF.mvt _ _ _ TXT.out (fun x hx => by have := S1.out; have := S2.out; have := S3.out; have := S4.out; have := S5.out; have := HA.out; have := HX.out; omega)
      have GW := LF.g1
      obtain ⟨a0, a1, a2, f0, f1, f2⟩ := LF.ca
      have LF := hide LF
      clear BA BX HA HX
      go_simp
      rw [LF.out.e1]
      clear a0 a1 a2 f0 f1 f2
      refine hK.out _ _ GW (fun hHeld => ?_)
      clear hK K
      try simp only [Act.put, List.getElem_toArray, List.getElem_cons_zero, List.getElem_cons_succ, List.setIfInBounds_toArray, List.set_cons_zero, List.set_cons_succ]
      first
       | (refine wpAnyH_take (i := 9) (v := undef) rfl (by kernel_rfl) (by kernel_rfl) (by kernel_rfl) (fun _ _ _ h => h) (Or.inr ⟨by rfl, rfl⟩) (by assumption) ?_)
       | (refine wpAnyH_take (i := 9) (v := ?_) rfl (by kernel_rfl) (by kernel_rfl) (by kernel_rfl) (fun _ _ _ h => h) (Or.inl ⟨by rfl, ?_⟩) (by assumption) ?_
          rotate_left
          (intro w hSw
           (try dsimp only at hSw)
           (go_simp <;> with_reducible rfl)))
      try simp only [Act.put, List.getElem_toArray, List.getElem_cons_zero, List.getElem_cons_succ, List.setIfInBounds_toArray, List.set_cons_zero, List.set_cons_succ]
      refine wpAnyH_ready (rs := [10]) (by kernel_rfl) (by simp) ?_
      refine AllReadyH.cons (i := 10) (o := _) rfl (fun K hK => ?_) ?_
      rotate_left
      ·
       exact AllReadyH.nil
      as_aux_lemma =>
       obtain ⟨a0, a1, a2, a3, f0, f1, f2, f3⟩ := LF.out.cx
       go_simp
       rw [LF.out.e2]
       clear a0 a1 a2 a3 f0 f1 f2 f3
       refine hK.out _ _ LF.out.g2 (fun hHeld => ?_)
       clear hK K
       try simp only [Act.put, List.getElem_toArray, List.getElem_cons_zero, List.getElem_cons_succ, List.setIfInBounds_toArray, List.set_cons_zero, List.set_cons_succ]
       refine wpAnyH_done (by kernel_rfl) ?_ _
       go_wp2_with fail
       go_meet
       exact ⟨A, X, va, vc, na, nc, ka, kc, xa, xc, xd, xe, rfl, rfl, rfl, LF.out.b1, LF.out.b2, TVA, TVN, TCX, TXT, LF.out.g2⟩
     refine AllReadyH.cons (i := 7) (o := _) rfl (fun K hK => ?_) ?_
     rotate_left
     ·
      exact AllReadyH.nil
     go_simp
     have GC : Hid (Chg (fun _ => False) w3 v2) := hide (GW.out)
     have GA := (al v2 (.cells #[.slice none 0 0, .int .i64 0, .int .i64 0, .slice none 0 0] 35))
     have BX : Hid ((v2.alloc (.cells #[.slice none 0 0, .int .i64 0, .int .i64 0, .slice none 0 0] 35)).heap[v2.heap.size]? = some (.cells #[.slice none 0 0, .int .i64 0, .int .i64 0, .slice none 0 0] 35)) := hide (blk_new v2 (.cells #[.slice none 0 0, .int .i64 0, .int .i64 0, .slice none 0 0] 35))
     have GW : Hid (Chg (fun _ => False) w3 (v2.alloc (.cells #[.slice none 0 0, .int .i64 0, .int .i64 0, .slice none 0 0] 35))) := hide (GC.out.trans GA)
     have TVA := hide (TVA.out.chg GA (fun _ _ h => h))
     have TVN := hide (TVN.out.chg GA (fun _ _ h => h))
     have BA := hide (GA.blk (fun h => h) BA.out)
     have S3 : Hid (v2.heap.size < (v2.alloc (.cells #[.slice none 0 0, .int .i64 0, .int .i64 0, .slice none 0 0] 35)).heap.size) := hide (blk_lt BX.out)
     clear GA GC
     go_simp
     refine hK.out _ _ GW (fun hHeld => ?_)
     clear hK K
     try simp only [Act.put, List.getElem_toArray, List.getElem_cons_zero, List.getElem_cons_succ, List.setIfInBounds_toArray, List.set_cons_zero, List.set_cons_succ]
     obtain ⟨X, hX⟩ : ∃ X, v2.heap.size = X := ⟨_, rfl⟩
     have HX := hide hX
     rw [hX] at BX ⊢
     clear hX
     generalize (v2.alloc (.cells #[.slice none 0 0, .int .i64 0, .int .i64 0, .slice none 0 0] 35)) = v3 at *
     refine wpAnyH_ready (rs := [3]) (by kernel_rfl) (by simp) ?_
     refine AllReadyH.cons (i := 3) (o := _) rfl (fun K hK => ?_) ?_
     rotate_left
     ·
      exact AllReadyH.nil
     go_simp
     have GC : Hid (Chg (fun _ => False) w3 v3) := hide (GW.out)
     refine (types_any cx (by have := SW.out.2.2; omega) _ (fun x => x < v3.heap.size) v3 (fun _ h => h) ((X0.out.all GG.out).all GC.out)).mono ?_
     rintro e v4 ⟨⟨v', rfl, tv⟩, g'⟩
     obtain ⟨ka, kc, rfl, _⟩ := id tv
     have TVA := hide (TVA.out.chg g' (fun _ _ h => h))
     have TVN := hide (TVN.out.chg g' (fun _ _ h => h))
     have BA := hide (g'.blk (fun h => h) BA.out)
     have BX := hide (g'.blk (fun h => h) BX.out)
     have TCX : Hid (Ts v4 (fun x => v3.heap.size ≤ x ∧ x < v4.heap.size) (.slice ka cx.len kc) cx) := hide tv
     have GW : Hid (Chg (fun _ => False) w3 v4) := hide (GC.out.trans g')
     have S4 : Hid (v3.heap.size ≤ v4.heap.size) := hide g'.size
     clear g' tv GC
     go_simp
     refine hK.out _ _ GW (fun hHeld => ?_)
     clear hK K
     try simp only [Act.put, List.getElem_toArray, List.getElem_cons_zero, List.getElem_cons_succ, List.setIfInBounds_toArray, List.set_cons_zero, List.set_cons_succ]
     refine wpAnyH_ready (rs := [5]) (by kernel_rfl) (by simp) ?_
     refine AllReadyH.cons (i := 5) (o := _) rfl (fun K hK => ?_) ?_
     rotate_left
     ·
      exact AllReadyH.nil
     go_simp
     have GC : Hid (Chg (fun _ => False) w3 v4) := hide (GW.out)
     refine (to06_any (t0, t1, t2, t3) OKT.out _ (fun x => x < v4.heap.size) v4 (fun _ h => h) ((T0.out.all GG.out).all GC.out)).mono ?_
     rintro e v5 ⟨⟨v', rfl, tv⟩, g'⟩
     obtain ⟨xa, xc, xd, xe, rfl, _, _⟩ := id tv
     dsimp only [Tm.bs, Tm.kd, Tm.ix, Tm.ag]
     have TVA := hide (TVA.out.chg g' (fun _ _ h => h))
     have TVN := hide (TVN.out.chg g' (fun _ _ h => h))
     have TCX := hide (TCX.out.chg g' (fun _ _ h => h))
     have BA := hide (g'.blk (fun h => h) BA.out)
     have BX := hide (g'.blk (fun h => h) BX.out)
     have TXT : Hid (TV v5 (fun x => v4.heap.size ≤ x ∧ x < v5.heap.size) (.agg #[.slice xa t0.len xc, .int .i64 t1, .int .i64 t2, .slice xd t3.len xe]) (t0, t1, t2, t3)) := hide tv
     have GW : Hid (Chg (fun _ => False) w3 v5) := hide (GC.out.trans g')
     have S5 : Hid (v4.heap.size ≤ v5.heap.size) := hide g'.size
     clear g' tv GC
     go_simp
     refine hK.out _ _ GW (fun hHeld => ?_)
     clear hK K
     try simp only [Act.put, List.getElem_toArray, List.getElem_cons_zero, List.getElem_cons_succ, List.setIfInBounds_toArray, List.set_cons_zero, List.set_cons_succ]
     refine wpAnyH_ready (rs := [8]) (by kernel_rfl) (by simp) ?_
     refine AllReadyH.cons (i := 8) (o := _) rfl (fun K hK => ?_) ?_
     rotate_left
     ·
      exact AllReadyH.nil
     obtain ⟨u1, u2, LF⟩ := leaf_st (.int .i64 wn) (.slice va cs.len vc) (.slice na ms.len nc) (.slice xa t0.len xc) (.int .i64 t1) (.int .i64 t2) (.slice xd t3.len xe) (by have := S1.out; have := S2.out; have := S3.out; have := S4.out; have := S5.out; have := HA.out; have := HX.out; omega) (by have := S1.out; have := S2.out; have := S3.out; have := S4.out; have := S5.out; have := HA.out; have := HX.out; omega) (by have := S1.out; have := S2.out; have := S3.out; have := S4.out; have := S5.out; have := HA.out; have := HX.out; omega) BA.out BX.out GW.out
     have TVA := LF.mv _ _ _ TVA.out (fun x hx => by have := S1.out; have := S2.out; have := S3.out; have := S4.out; have := S5.out; have := HA.out; have := HX.out; omega)
     have TVN := LF.mv _ _ _ TVN.out (fun x hx => by have := S1.out; have := S2.out; have := S3.out; have := S4.out; have := S5.out; have := HA.out; have := HX.out; omega)
     have TCX := LF.mv _ _ _ TCX.out (fun x hx => by have := S1.out; have := S2.out; have := S3.out; have := S4.out; have := S5.out; have := HA.out; have := HX.out; omega)
     have TXT := LF.mvt _ _ _ TXT.out (fun x hx => by have := S1.out; have := S2.out; have := S3.out; have := S4.out; have := S5.out; have := HA.out; have := HX.out; omega)
     have GW := LF.g1
     obtain ⟨a0, a1, a2, f0, f1, f2⟩ := LF.ca
     have LF := hide LF
     clear BA BX HA HX
     go_simp
     rw [LF.out.e1]
     clear a0 a1 a2 f0 f1 f2
     refine hK.out _ _ GW (fun hHeld => ?_)
     clear hK K
     try simp only [Act.put, List.getElem_toArray, List.getElem_cons_zero, List.getElem_cons_succ, List.setIfInBounds_toArray, List.set_cons_zero, List.set_cons_succ]
     first
      | (refine wpAnyH_take (i := 9) (v := undef) rfl (by kernel_rfl) (by kernel_rfl) (by kernel_rfl) (fun _ _ _ h => h) (Or.inr ⟨by rfl, rfl⟩) (by assumption) ?_)
      | (refine wpAnyH_take (i := 9) (v := ?_) rfl (by kernel_rfl) (by kernel_rfl) (by kernel_rfl) (fun _ _ _ h => h) (Or.inl ⟨by rfl, ?_⟩) (by assumption) ?_
         rotate_left
         (intro w hSw
          (try dsimp only at hSw)
          (go_simp <;> with_reducible rfl)))
     try simp only [Act.put, List.getElem_toArray, List.getElem_cons_zero, List.getElem_cons_succ, List.setIfInBounds_toArray, List.set_cons_zero, List.set_cons_succ]
     refine wpAnyH_ready (rs := [10]) (by kernel_rfl) (by simp) ?_
     refine AllReadyH.cons (i := 10) (o := _) rfl (fun K hK => ?_) ?_
     rotate_left
     ·
      exact AllReadyH.nil
     as_aux_lemma =>
      obtain ⟨a0, a1, a2, a3, f0, f1, f2, f3⟩ := LF.out.cx
      go_simp
      rw [LF.out.e2]
      clear a0 a1 a2 a3 f0 f1 f2 f3
      refine hK.out _ _ LF.out.g2 (fun hHeld => ?_)
      clear hK K
      try simp only [Act.put, List.getElem_toArray, List.getElem_cons_zero, List.getElem_cons_succ, List.setIfInBounds_toArray, List.set_cons_zero, List.set_cons_succ]
      refine wpAnyH_done (by kernel_rfl) ?_ _
      go_wp2_with fail
      go_meet
      exact ⟨A, X, va, vc, na, nc, ka, kc, xa, xc, xd, xe, rfl, rfl, rfl, LF.out.b1, LF.out.b2, TVA, TVN, TCX, TXT, LF.out.g2⟩
    refine AllReadyH.cons (i := 7) (o := _) rfl (fun K hK => ?_) ?_
    rotate_left
    ·
     exact AllReadyH.nil
    go_simp
    have GC : Hid (Chg (fun _ => False) w3 v1) := hide (GW.out)
    have GA := (al v1 (.cells #[.slice none 0 0, .int .i64 0, .int .i64 0, .slice none 0 0] 35))
    have BX : Hid ((v1.alloc (.cells #[.slice none 0 0, .int .i64 0, .int .i64 0, .slice none 0 0] 35)).heap[v1.heap.size]? = some (.cells #[.slice none 0 0, .int .i64 0, .int .i64 0, .slice none 0 0] 35)) := hide (blk_new v1 (.cells #[.slice none 0 0, .int .i64 0, .int .i64 0, .slice none 0 0] 35))
    have GW : Hid (Chg (fun _ => False) w3 (v1.alloc (.cells #[.slice none 0 0, .int .i64 0, .int .i64 0, .slice none 0 0] 35))) := hide (GC.out.trans GA)
    have TVA := hide (TVA.out.chg GA (fun _ _ h => h))
    have TVN := hide (TVN.out.chg GA (fun _ _ h => h))
    have S2 : Hid (v1.heap.size < (v1.alloc (.cells #[.slice none 0 0, .int .i64 0, .int .i64 0, .slice none 0 0] 35)).heap.size) := hide (blk_lt BX.out)
    clear GA GC
    go_simp
    refine hK.out _ _ GW (fun hHeld => ?_)
    clear hK K
    try simp only [Act.put, List.getElem_toArray, List.getElem_cons_zero, List.getElem_cons_succ, List.setIfInBounds_toArray, List.set_cons_zero, List.set_cons_succ]
    obtain ⟨X, hX⟩ : ∃ X, v1.heap.size = X := ⟨_, rfl⟩
    have HX := hide hX
    rw [hX] at BX ⊢
    clear hX
    generalize (v1.alloc (.cells #[.slice none 0 0, .int .i64 0, .int .i64 0, .slice none 0 0] 35)) = v2 at *
    refine wpAnyH_ready (rs := [3, 6]) (by kernel_rfl) (by simp) ?_
    refine AllReadyH.cons (i := 3) (o := _) rfl (fun K hK => ?_) ?_
    ·
     go_simp
     have GC : Hid (Chg (fun _ => False) w3 v2) := hide (GW.out)
     refine (types_any cx (by have := SW.out.2.2; omega) _ (fun x => x < v2.heap.size) v2 (fun _ h => h) ((X0.out.all GG.out).all GC.out)).mono ?_
     rintro e v3 ⟨⟨v', rfl, tv⟩, g'⟩
     obtain ⟨ka, kc, rfl, _⟩ := id tv
     have TVA := hide (TVA.out.chg g' (fun _ _ h => h))
     have TVN := hide (TVN.out.chg g' (fun _ _ h => h))
     have BX := hide (g'.blk (fun h => h) BX.out)
     have TCX : Hid (Ts v3 (fun x => v2.heap.size ≤ x ∧ x < v3.heap.size) (.slice ka cx.len kc) cx) := hide tv
     have GW : Hid (Chg (fun _ => False) w3 v3) := hide (GC.out.trans g')
     have S3 : Hid (v2.heap.size ≤ v3.heap.size) := hide g'.size
     clear g' tv GC
     go_simp
     refine hK.out _ _ GW (fun hHeld => ?_)
     clear hK K
     try simp only [Act.put, List.getElem_toArray, List.getElem_cons_zero, List.getElem_cons_succ, List.setIfInBounds_toArray, List.set_cons_zero, List.set_cons_succ]
     refine wpAnyH_ready (rs := [5, 6]) (by kernel_rfl) (by simp) ?_
     refine AllReadyH.cons (i := 5) (o := _) rfl (fun K hK => ?_) ?_
     ·
      go_simp
      have GC : Hid (Chg (fun _ => False) w3 v3) := hide (GW.out)
      refine (to06_any (t0, t1, t2, t3) OKT.out _ (fun x => x < v3.heap.size) v3 (fun _ h => h) ((T0.out.all GG.out).all GC.out)).mono ?_
      rintro e v4 ⟨⟨v', rfl, tv⟩, g'⟩
      obtain ⟨xa, xc, xd, xe, rfl, _, _⟩ := id tv
      dsimp only [Tm.bs, Tm.kd, Tm.ix, Tm.ag]
      have TVA := hide (TVA.out.chg g' (fun _ _ h => h))
      have TVN := hide (TVN.out.chg g' (fun _ _ h => h))
      have TCX := hide (TCX.out.chg g' (fun _ _ h => h))
      have BX := hide (g'.blk (fun h => h) BX.out)
      have TXT : Hid (TV v4 (fun x => v3.heap.size ≤ x ∧ x < v4.heap.size) (.agg #[.slice xa t0.len xc, .int .i64 t1, .int .i64 t2, .slice xd t3.len xe]) (t0, t1, t2, t3)) := hide tv
      have GW : Hid (Chg (fun _ => False) w3 v4) := hide (GC.out.trans g')
      have S4 : Hid (v3.heap.size ≤ v4.heap.size) := hide g'.size
      clear g' tv GC
      go_simp
      refine hK.out _ _ GW (fun hHeld => ?_)
      clear hK K
      try simp only [Act.put, List.getElem_toArray, List.getElem_cons_zero, List.getElem_cons_succ, List.setIfInBounds_toArray, List.set_cons_zero, List.set_cons_succ]
      refine wpAnyH_ready (rs := [6]) (by kernel_rfl) (by simp) ?_
      refine AllReadyH.cons (i := 6) (o := _) rfl (fun K hK => ?_) ?_
      rotate_left
      ·
       exact AllReadyH.nil
      go_simp
      have GC : Hid (Chg (fun _ => False) w3 v4) := hide (GW.out)
      have GA := (al v4 (.cells #[.int .i64 0, .slice none 0 0, .slice none 0 0] 66))
      have BA : Hid ((v4.alloc (.cells #[.int .i64 0, .slice none 0 0, .slice none 0 0] 66)).heap[v4.heap.size]? = some (.cells #[.int .i64 0, .slice none 0 0, .slice none 0 0] 66)) := hide (blk_new v4 (.cells #[.int .i64 0, .slice none 0 0, .slice none 0 0] 66))
      have GW : Hid (Chg (fun _ => False) w3 (v4.alloc (.cells #[.int .i64 0, .slice none 0 0, .slice none 0 0] 66))) := hide (GC.out.trans GA)
      have TVA := hide (TVA.out.chg GA (fun _ _ h => h))
      have TVN := hide (TVN.out.chg GA (fun _ _ h => h))
      have TCX := hide (TCX.out.chg GA (fun _ _ h => h))
      have TXT := hide (TXT.out.chg GA (fun _ _ h => h))
      have BX := hide (GA.blk (fun h => h) BX.out)
      have S5 : Hid (v4.heap.size < (v4.alloc (.cells #[.int .i64 0, .slice none 0 0, .slice none 0 0] 66)).heap.size) := hide (blk_lt BA.out)
      clear GA GC
      go_simp
      refine hK.out _ _ GW (fun hHeld => ?_)
      clear hK K
      try simp only [Act.put, List.getElem_toArray, List.getElem_cons_zero, List.getElem_cons_succ, List.setIfInBounds_toArray, List.set_cons_zero, List.set_cons_succ]
      obtain ⟨A, hA⟩ : ∃ A, v4.heap.size = A := ⟨_, rfl⟩
      have HA := hide hA
      rw [hA] at BA ⊢
      clear hA
      generalize (v4.alloc (.cells #[.int .i64 0, .slice none 0 0, .slice none 0 0] 66)) = v5 at *
      refine wpAnyH_ready (rs := [8]) (by kernel_rfl) (by simp) ?_
      refine AllReadyH.cons (i := 8) (o := _) rfl (fun K hK => ?_) ?_
      rotate_left
      ·
       exact AllReadyH.nil
      obtain ⟨u1, u2, LF⟩ := leaf_st (.int .i64 wn) (.slice va cs.len vc) (.slice na ms.len nc) (.slice xa t0.len xc) (.int .i64 t1) (.int .i64 t2) (.slice xd t3.len xe) (by have := S1.out; have := S2.out; have := S3.out; have := S4.out; have := S5.out; have := HA.out; have := HX.out; omega) (by have := S1.out; have := S2.out; have := S3.out; have := S4.out; have := S5.out; have := HA.out; have := HX.out; omega) (by have := S1.out; have := S2.out; have := S3.out; have := S4.out; have := S5.out; have := HA.out; have := HX.out; omega) BA.out BX.out GW.out
      have TVA := LF.mv _ _ _ TVA.out (fun x hx => by have := S1.out; have := S2.out; have := S3.out; have := S4.out; have := S5.out; have := HA.out; have := HX.out; omega)
      have TVN := LF.mv _ _ _ TVN.out (fun x hx => by have := S1.out; have := S2.out; have := S3.out; have := S4.out; have := S5.out; have := HA.out; have := HX.out; omega)
      have TCX := LF.mv _ _ _ TCX.out (fun x hx => by have := S1.out; have := S2.out; have := S3.out; have := S4.out; have := S5.out; have := HA.out; have := HX.out; omega)
      have TXT := LF.mvt _ _ _ TXT.out (fun x hx => by have := S1.out; have := S2.out; have := S3.out; have := S4.out; have := S5.out; have := HA.out; have := HX.out; omega)
      have GW := LF.g1
      obtain ⟨a0, a1, a2, f0, f1, f2⟩ := LF.ca
      have LF := hide LF
      clear BA BX HA HX
      go_simp
      rw [LF.out.e1]
      clear a0 a1 a2 f0 f1 f2
      refine hK.out _ _ GW (fun hHeld => ?_)
      clear hK K
      try simp only [Act.put, List.getElem_toArray, List.getElem_cons_zero, List.getElem_cons_succ, List.setIfInBounds_toArray, List.set_cons_zero, List.set_cons_succ]
      first
       | (refine wpAnyH_take (i := 9) (v := undef) rfl (by kernel_rfl) (by kernel_rfl) (by kernel_rfl) (fun _ _ _ h => h) (Or.inr ⟨by rfl, rfl⟩) (by assumption) ?_)
       | (refine wpAnyH_take (i := 9) (v := ?_) rfl (by kernel_rfl) (by kernel_rfl) (by kernel_rfl) (fun _ _ _ h => h) (Or.inl ⟨by rfl, ?_⟩) (by assumption) ?_
          rotate_left
          (intro w hSw
           (try dsimp only at hSw)
           (go_simp <;> with_reducible rfl)))
      try simp only [Act.put, List.getElem_toArray, List.getElem_cons_zero, List.getElem_cons_succ, List.setIfInBounds_toArray, List.set_cons_zero, List.set_cons_succ]
      refine wpAnyH_ready (rs := [10]) (by kernel_rfl) (by simp) ?_
      refine AllReadyH.cons (i := 10) (o := _) rfl (fun K hK => ?_) ?_
      rotate_left
      ·
       exact AllReadyH.nil
      as_aux_lemma =>
       obtain ⟨a0, a1, a2, a3, f0, f1, f2, f3⟩ := LF.out.cx
       go_simp
       rw [LF.out.e2]
       clear a0 a1 a2 a3 f0 f1 f2 f3
       refine hK.out _ _ LF.out.g2 (fun hHeld => ?_)
       clear hK K
       try simp only [Act.put, List.getElem_toArray, List.getElem_cons_zero, List.getElem_cons_succ, List.setIfInBounds_toArray, List.set_cons_zero, List.set_cons_succ]
       refine wpAnyH_done (by kernel_rfl) ?_ _
       go_wp2_with fail
       go_meet
       exact ⟨A, X, va, vc, na, nc, ka, kc, xa, xc, xd, xe, rfl, rfl, rfl, LF.out.b1, LF.out.b2, TVA, TVN, TCX, TXT, LF.out.g2⟩
     refine AllReadyH.cons (i := 6) (o := _) rfl (fun K hK => ?_) ?_
     rotate_left
     ·
      exact AllReadyH.nil
     go_simp
     have GC : Hid (Chg (fun _ => False) w3 v3) := hide (GW.out)
     have GA := (al v3 (.cells #[.int .i64 0, .slice none 0 0, .slice none 0 0] 66))
     have BA : Hid ((v3.alloc (.cells #[.int .i64 0, .slice none 0 0, .slice none 0 0] 66)).heap[v3.heap.size]? = some (.cells #[.int .i64 0, .slice none 0 0, .slice none 0 0] 66)) := hide (blk_new v3 (.cells #[.int .i64 0, .slice none 0 0, .slice none 0 0] 66))
     have GW : Hid (Chg (fun _ => False) w3 (v3.alloc (.cells #[.int .i64 0, .slice none 0 0, .slice none 0 0] 66))) := hide (GC.out.trans GA)
     have TVA := hide (TVA.out.chg GA (fun _ _ h => h))
     have TVN := hide (TVN.out.chg GA (fun _ _ h => h))
     have TCX := hide (TCX.out.chg GA (fun _ _ h => h))
     have BX := hide (GA.blk (fun h => h) BX.out)
     have S4 : Hid (v3.heap.size < (v3.alloc (.cells #[.int .i64 0, .slice none 0 0, .slice none 0 0] 66)).heap.size) := hide (blk_lt BA.out)
     clear GA GC
     go_simp
     refine hK.out _ _ GW (fun hHeld => ?_)
     clear hK K
     try simp only [Act.put, List.getElem_toArray, List.getElem_cons_zero, List.getElem_cons_succ, List.setIfInBounds_toArray, List.set_cons_zero, List.set_cons_succ]
     obtain ⟨A, hA⟩ : ∃ A, v3.heap.size = A := ⟨_, rfl⟩
     have HA := hide hA
     rw [hA] at BA ⊢
     clear hA
     generalize (v3.alloc (.cells #[.int .i64 0, .slice none 0 0, .slice none 0 0] 66)) = v4 at *
     refine wpAnyH_ready (rs := [5]) (by kernel_rfl) (by simp) ?_
     refine AllReadyH.cons (i := 5) (o := _) rfl (fun K hK => ?_) ?_
     rotate_left
     ·
      exact AllReadyH.nil
     go_simp
     have GC : Hid (Chg (fun _ => False) w3 v4) := hide (GW.out)
     refine (to06_any (t0, t1, t2, t3) OKT.out _ (fun x => x < v4.heap.size) v4 (fun _ h => h) ((T0.out.all GG.out).all GC.out)).mono ?_
     rintro e v5 ⟨⟨v', rfl, tv⟩, g'⟩
     obtain ⟨xa, xc, xd, xe, rfl, _, _⟩ := id tv
     dsimp only [Tm.bs, Tm.kd, Tm.ix, Tm.ag]
     have TVA := hide (TVA.out.chg g' (fun _ _ h => h))
     have TVN := hide (TVN.out.chg g' (fun _ _ h => h))
     have TCX := hide (TCX.out.chg g' (fun _ _ h => h))
     have BA := hide (g'.blk (fun h => h) BA.out)
     have BX := hide (g'.blk (fun h => h) BX.out)
     have TXT : Hid (TV v5 (fun x => v4.heap.size ≤ x ∧ x < v5.heap.size) (.agg #[.slice xa t0.len xc, .int .i64 t1, .int .i64 t2, .slice xd t3.len xe]) (t0, t1, t2, t3)) := hide tv
     have GW : Hid (Chg (fun _ => False) w3 v5) := hide (GC.out.trans g')
     have S5 : Hid (v4.heap.size ≤ v5.heap.size) := hide g'.size
     clear g' tv GC
     go_simp
     refine hK.out _ _ GW (fun hHeld => ?_)
     clear hK K
     try simp only [Act.put, List.getElem_toArray, List.getElem_cons_zero, List.getElem_cons_succ, List.setIfInBounds_toArray, List.set_cons_zero, List.set_cons_succ]
     refine wpAnyH_ready (rs := [8]) (by kernel_rfl) (by simp) ?_
     refine AllReadyH.cons (i := 8) (o := _) rfl (fun K hK => ?_) ?_
     rotate_left
     ·
      exact AllReadyH.nil
     obtain ⟨u1, u2, LF⟩ := leaf_st (.int .i64 wn) (.slice va cs.len vc) (.slice na ms.len nc) (.slice xa t0.len xc) (.int .i64 t1) (.int .i64 t2) (.slice xd t3.len xe) (by have := S1.out; have := S2.out; have := S3.out; have := S4.out; have := S5.out; have := HA.out; have := HX.out; omega) (by have := S1.out; have := S2.out; have := S3.out; have := S4.out; have := S5.out; have := HA.out; have := HX.out; omega) (by have := S1.out; have := S2.out; have := S3.out; have := S4.out; have := S5.out; have := HA.out; have := HX.out; omega) BA.out BX.out GW.out
     have TVA := LF.mv _ _ _ TVA.out (fun x hx => by have := S1.out; have := S2.out; have := S3.out; have := S4.out; have := S5.out; have := HA.out; have := HX.out; omega)
     have TVN := LF.mv _ _ _ TVN.out (fun x hx => by have := S1.out; have := S2.out; have := S3.out; have := S4.out; have := S5.out; have := HA.out; have := HX.out; omega)
     have TCX := LF.mv _ _ _ TCX.out (fun x hx => by have := S1.out; have := S2.out; have := S3.out; have := S4.out; have := S5.out; have := HA.out; have := HX.out; omega)
     have TXT := LF.mvt _ _ _ TXT.out (fun x hx => by have := S1.out; have := S2.out; have := S3.out; have := S4.out; have := S5.out; have := HA.out; have := HX.out; omega)
     have GW := LF.g1
     obtain ⟨a0, a1, a2, f0, f1, f2⟩ := LF.ca
     have LF := hide LF
     clear BA BX HA HX
     go_simp
     rw [LF.out.e1]
     clear a0 a1 a2 f0 f1 f2
     refine hK.out _ _ GW (fun hHeld => ?_)
     clear hK K
     try simp only [Act.put, List.getElem_toArray, List.getElem_cons_zero, List.getElem_cons_succ, List.setIfInBounds_toArray, List.set_cons_zero, List.set_cons_succ]
     first
      | (refine wpAnyH_take (i := 9) (v := undef) rfl (by kernel_rfl) (by kernel_rfl) (by kernel_rfl) (fun _ _ _ h => h) (Or.inr ⟨by rfl, rfl⟩) (by assumption) ?_)
      | (refine wpAnyH_take (i := 9) (v := ?_) rfl (by kernel_rfl) (by kernel_rfl) (by kernel_rfl) (fun _ _ _ h => h) (Or.inl ⟨by rfl, ?_⟩) (by assumption) ?_
         rotate_left
         (intro w hSw
          (try dsimp only at hSw)
          (go_simp <;> with_reducible rfl)))
     try simp only [Act.put, List.getElem_toArray, List.getElem_cons_zero, List.getElem_cons_succ, List.setIfInBounds_toArray, List.set_cons_zero, List.set_cons_succ]
     refine wpAnyH_ready (rs := [10]) (by kernel_rfl) (by simp) ?_
     refine AllReadyH.cons (i := 10) (o := _) rfl (fun K hK => ?_) ?_
     rotate_left
     ·
      exact AllReadyH.nil
     as_aux_lemma =>
      obtain ⟨a0, a1, a2, a3, f0, f1, f2, f3⟩ := LF.out.cx
      go_simp
      rw [LF.out.e2]
      clear a0 a1 a2 a3 f0 f1 f2 f3
      refine hK.out _ _ LF.out.g2 (fun hHeld => ?_)
      clear hK K
      try simp only [Act.put, List.getElem_toArray, List.getElem_cons_zero, List.getElem_cons_succ, List.setIfInBounds_toArray, List.set_cons_zero, List.set_cons_succ]
      refine wpAnyH_done (by kernel_rfl) ?_ _
      go_wp2_with fail
      go_meet
      exact ⟨A, X, va, vc, na, nc, ka, kc, xa, xc, xd, xe, rfl, rfl, rfl, LF.out.b1, LF.out.b2, TVA, TVN, TCX, TXT, LF.out.g2⟩
    refine AllReadyH.cons (i := 6) (o := _) rfl (fun K hK => ?_) ?_
    rotate_left
    ·
     exact AllReadyH.nil
    go_simp
    have GC : Hid (Chg (fun _ => False) w3 v2) := hide (GW.out)
    have GA := (al v2 (.cells #[.int .i64 0, .slice none 0 0, .slice none 0 0] 66))
    have BA : Hid ((v2.alloc (.cells #[.int .i64 0, .slice none 0 0, .slice none 0 0] 66)).heap[v2.heap.size]? = some (.cells #[.int .i64 0, .slice none 0 0, .slice none 0 0] 66)) := hide (blk_new v2 (.cells #[.int .i64 0, .slice none 0 0, .slice none 0 0] 66))
    have GW : Hid (Chg (fun _ => False) w3 (v2.alloc (.cells #[.int .i64 0, .slice none 0 0, .slice none 0 0] 66))) := hide (GC.out.trans GA)
    have TVA := hide (TVA.out.chg GA (fun _ _ h => h))
    have TVN := hide (TVN.out.chg GA (fun _ _ h => h))
    have BX := hide (GA.blk (fun h => h) BX.out)
    have S3 : Hid (v2.heap.size < (v2.alloc (.cells #[.int .i64 0, .slice none 0 0, .slice none 0 0] 66)).heap.size) := hide (blk_lt BA.out)
    clear GA GC
    go_simp
    refine hK.out _ _ GW (fun hHeld => ?_)
    clear hK K
    try simp only [Act.put, List.getElem_toArray, List.getElem_cons_zero, List.getElem_cons_succ, List.setIfInBounds_toArray, List.set_cons_zero, List.set_cons_succ]
    obtain ⟨A, hA⟩ : ∃ A, v2.heap.size = A := ⟨_, rfl⟩
    have HA := hide hA
    rw [hA] at BA ⊢
    clear hA
    generalize (v2.alloc (.cells #[.int .i64 0, .slice none 0 0, .slice none 0 0] 66)) = v3 at *
    refine wpAnyH_ready (rs := [3]) (by kernel_rfl) (by simp) ?_
    refine AllReadyH.cons (i := 3) (o := _) rfl (fun K hK => ?_) ?_
    rotate_left
    ·
     exact AllReadyH.nil
    go_simp
    have GC : Hid (Chg (fun _ => False) w3 v3) := hide (GW.out)
    refine (types_any cx (by have := SW.out.2.2; omega) _ (fun x => x < v3.heap.size) v3 (fun _ h => h) ((X0.out.all GG.out).all GC.out)).mono ?_
    rintro e v4 ⟨⟨v', rfl, tv⟩, g'⟩
    obtain ⟨ka, kc, rfl, _⟩ := id tv
    have TVA := hide (TVA.out.chg g' (fun _ _ h => h))
    have TVN := hide (TVN.out.chg g' (fun _ _ h => h))
    have BA := hide (g'.blk (fun h => h) BA.out)
    have BX := hide (g'.blk (fun h => h) BX.out)
    have TCX : Hid (Ts v4 (fun x => v3.heap.size ≤ x ∧ x < v4.heap.size) (.slice ka cx.len kc) cx) := hide tv
    have GW : Hid (Chg (fun _ => False) w3 v4) := hide (GC.out.trans g')
    have S4 : Hid (v3.heap.size ≤ v4.heap.size) := hide g'.size
    clear g' tv GC
    go_simp
    refine hK.out _ _ GW (fun hHeld => ?_)
    clear hK K
    try simp only [Act.put, List.getElem_toArray, List.getElem_cons_zero, List.getElem_cons_succ, List.setIfInBounds_toArray, List.set_cons_zero, List.set_cons_succ]
    refine wpAnyH_ready (rs := [5]) (by kernel_rfl) (by simp) ?_
    refine AllReadyH.cons (i := 5) (o := _) rfl (fun K hK => ?_) ?_
    rotate_left
    ·
     exact AllReadyH.nil
    go_simp
    have GC : Hid (Chg (fun _ => False) w3 v4) := hide (GW.out)
    refine (to06_any (t0, t1, t2, t3) OKT.out _ (fun x => x < v4.heap.size) v4 (fun _ h => h) ((T0.out.all GG.out).all GC.out)).mono ?_
    rintro e v5 ⟨⟨v', rfl, tv⟩, g'⟩
    obtain ⟨xa, xc, xd, xe, rfl, _, _⟩ := id tv
    dsimp only [Tm.bs, Tm.kd, Tm.ix, Tm.ag]
    have TVA := hide (TVA.out.chg g' (fun _ _ h => h))
    have TVN := hide (TVN.out.chg g' (fun _ _ h => h))
    have TCX := hide (TCX.out.chg g' (fun _ _ h => h))
    have BA := hide (g'.blk (fun h => h) BA.out)
    have BX := hide (g'.blk (fun h => h) BX.out)
    have TXT : Hid (TV v5 (fun x => v4.heap.size ≤ x ∧ x < v5.heap.size) (.agg #[.slice xa t0.len xc, .int .i64 t1, .int .i64 t2, .slice xd t3.len xe]) (t0, t1, t2, t3)) := hide tv
    have GW : Hid (Chg (fun _ => False) w3 v5) := hide (GC.out.trans g')
    have S5 : Hid (v4.heap.size ≤ v5.heap.size) := hide g'.size
    clear g' tv GC
    go_simp
    refine hK.out _ _ GW (fun hHeld => ?_)
    clear hK K
    try simp only [Act.put, List.getElem_toArray, List.getElem_cons_zero, List.getElem_cons_succ, List.setIfInBounds_toArray, List.set_cons_zero, List.set_cons_succ]
    refine wpAnyH_ready (rs := [8]) (by kernel_rfl) (by simp) ?_
    refine AllReadyH.cons (i := 8) (o := _) rfl (fun K hK => ?_) ?_
    rotate_left
    ·
     exact AllReadyH.nil
    obtain ⟨u1, u2, LF⟩ := leaf_st (.int .i64 wn) (.slice va cs.len vc) (.slice na ms.len nc) (.slice xa t0.len xc) (.int .i64 t1) (.int .i64 t2) (.slice xd t3.len xe) (by have := S1.out; have := S2.out; have := S3.out; have := S4.out; have := S5.out; have := HA.out; have := HX.out; omega) (by have := S1.out; have := S2.out; have := S3.out; have := S4.out; have := S5.out; have := HA.out; have := HX.out; omega) (by have := S1.out; have := S2.out; have := S3.out; have := S4.out; have := S5.out; have := HA.out; have := HX.out; omega) BA.out BX.out GW.out
    have TVA := LF.mv _ _ _ TVA.out (fun x hx => by have := S1.out; have := S2.out; have := S3.out; have := S4.out; have := S5.out; have := HA.out; have := HX.out; omega)
    have TVN := LF.mv _ _ _ TVN.out (fun x hx => by have := S1.out; have := S2.out; have := S3.out; have := S4.out; have := S5.out; have := HA.out; have := HX.out; omega)
    have TCX := LF.mv _ _ _ TCX.out (fun x hx => by have := S1.out; have := S2.out; have := S3.out; have := S4.out; have := S5.out; have := HA.out; have := HX.out; omega)
    have TXT := LF.mvt _ _ _ TXT.out (fun x hx => by have := S1.out; have := S2.out; have := S3.out; have := S4.out; have := S5.out; have := HA.out; have := HX.out; omega)
    have GW := LF.g1
    obtain ⟨a0, a1, a2, f0, f1, f2⟩ := LF.ca
    have LF := hide LF
    clear BA BX HA HX
    go_simp
    rw [LF.out.e1]
    clear a0 a1 a2 f0 f1 f2
    refine hK.out _ _ GW (fun hHeld => ?_)
    clear hK K
    try simp only [Act.put, List.getElem_toArray, List.getElem_cons_zero, List.getElem_cons_succ, List.setIfInBounds_toArray, List.set_cons_zero, List.set_cons_succ]
    first
     | (refine wpAnyH_take (i := 9) (v := undef) rfl (by kernel_rfl) (by kernel_rfl) (by kernel_rfl) (fun _ _ _ h => h) (Or.inr ⟨by rfl, rfl⟩) (by assumption) ?_)
     | (refine wpAnyH_take (i := 9) (v := ?_) rfl (by kernel_rfl) (by kernel_rfl) (by kernel_rfl) (fun _ _ _ h => h) (Or.inl ⟨by rfl, ?_⟩) (by assumption) ?_
        rotate_left
        (intro w hSw
         (try dsimp only at hSw)
         (go_simp <;> with_reducible rfl)))
    try simp only [Act.put, List.getElem_toArray, List.getElem_cons_zero, List.getElem_cons_succ, List.setIfInBounds_toArray, List.set_cons_zero, List.set_cons_succ]
    refine wpAnyH_ready (rs := [10]) (by kernel_rfl) (by simp) ?_
    refine AllReadyH.cons (i := 10) (o := _) rfl (fun K hK => ?_) ?_
    rotate_left
    ·
     exact AllReadyH.nil
    as_aux_lemma =>
     obtain ⟨a0, a1, a2, a3, f0, f1, f2, f3⟩ := LF.out.cx
     go_simp
     rw [LF.out.e2]
     clear a0 a1 a2 a3 f0 f1 f2 f3
     refine hK.out _ _ LF.out.g2 (fun hHeld => ?_)
     clear hK K
     try simp only [Act.put, List.getElem_toArray, List.getElem_cons_zero, List.getElem_cons_succ, List.setIfInBounds_toArray, List.set_cons_zero, List.set_cons_succ]
     refine wpAnyH_done (by kernel_rfl) ?_ _
     go_wp2_with fail
     go_meet
     exact ⟨A, X, va, vc, na, nc, ka, kc, xa, xc, xd, xe, rfl, rfl, rfl, LF.out.b1, LF.out.b2, TVA, TVN, TCX, TXT, LF.out.g2⟩
   refine AllReadyH.cons (i := 6) (o := _) rfl (fun K hK => ?_) ?_
   ·
    go_simp
    have GC : Hid (Chg (fun _ => False) w3 w3.drew) := hide ((Chg.refl (fun _ => False) w3).drew)
    have GA := (al w3 (.cells #[.int .i64 0, .slice none 0 0, .slice none 0 0] 66)).drew
    have BA : Hid ((w3.alloc (.cells #[.int .i64 0, .slice none 0 0, .slice none 0 0] 66)).drew.heap[w3.heap.size]? = some (.cells #[.int .i64 0, .slice none 0 0, .slice none 0 0] 66)) := hide (blk_new w3 (.cells #[.int .i64 0, .slice none 0 0, .slice none 0 0] 66))
    have GW : Hid (Chg (fun _ => False) w3 (w3.alloc (.cells #[.int .i64 0, .slice none 0 0, .slice none 0 0] 66)).drew) := hide GA
    have S1 : Hid (w3.heap.size < (w3.alloc (.cells #[.int .i64 0, .slice none 0 0, .slice none 0 0] 66)).drew.heap.size) := hide (blk_lt BA.out)
    clear GA GC
    go_simp
    refine hK.out _ _ GW (fun hHeld => ?_)
    clear hK K
    try simp only [Act.put, List.getElem_toArray, List.getElem_cons_zero, List.getElem_cons_succ, List.setIfInBounds_toArray, List.set_cons_zero, List.set_cons_succ]
    obtain ⟨A, hA⟩ : ∃ A, w3.heap.size = A := ⟨_, rfl⟩
    have HA := hide hA
    rw [hA] at BA ⊢
    clear hA
    generalize (w3.alloc (.cells #[.int .i64 0, .slice none 0 0, .slice none 0 0] 66)).drew = v1 at *
    refine wpAnyH_ready (rs := [1, 7]) (by kernel_rfl) (by simp) ?_
    refine AllReadyH.cons (i := 1) (o := _) rfl (fun K hK => ?_) ?_
    ·
     go_simp
     have GC : Hid (Chg (fun _ => False) w3 v1) := hide (GW.out)
     refine (world_any wn cs ms (by have := SW.out.1; omega) (by have := SW.out.2.1; omega) ca cc ma mc v1 ((C0.out.all GG.out).all GC.out) ((M0.out.all GG.out).all GC.out)).mono ?_
     rintro e v2 ⟨⟨va, vc, na, nc, rfl, tv1, tv2⟩, g'⟩
     have BA := hide (g'.blk (fun h => h) BA.out)
     have TVA : Hid (Ts v2 (fun x => v1.heap.size ≤ x ∧ x < v2.heap.size) (.slice va cs.len vc) cs) := hide tv1
     have TVN : Hid (Ts v2 (fun x => v1.heap.size ≤ x ∧ x < v2.heap.size) (.slice na ms.len nc) ms) := hide tv2
     have GW : Hid (Chg (fun _ => False) w3 v2) := hide (GC.out.trans g')
     have S2 : Hid (v1.heap.size ≤ v2.heap.size) := hide g'.size
     clear g' tv1 tv2 GC
     go_simp
     refine hK.out _ _ GW (fun hHeld => ?_)
     clear hK K
     try simp only [Act.put, List.getElem_toArray, List.getElem_cons_zero, List.getElem_cons_succ, List.setIfInBounds_toArray, List.set_cons_zero, List.set_cons_succ]
     refine wpAnyH_ready (rs := [3, 7]) (by kernel_rfl) (by simp) ?_
     refine AllReadyH.cons (i := 3) (o := _) rfl (fun K hK => ?_) ?_
     ·
      go_simp
      have GC : Hid (Chg (fun _ => False) w3 v2) := hide (GW.out)
      refine (types_any cx (by have := SW.out.2.2; omega) _ (fun x => x < v2.heap.size) v2 (fun _ h => h) ((X0.out.all GG.out).all GC.out)).mono ?_
      rintro e v3 ⟨⟨v', rfl, tv⟩, g'⟩
      obtain ⟨ka, kc, rfl, _⟩ := id tv
      have TVA := hide (TVA.out.chg g' (fun _ _ h => h))
      have TVN := hide (TVN.out.chg g' (fun _ _ h => h))
      have BA := hide (g'.blk (fun h => h) BA.out)
      have TCX : Hid (Ts v3 (fun x => v2.heap.size ≤ x ∧ x < v3.heap.size) (.slice ka cx.len kc) cx) := hide tv
      have GW : Hid (Chg (fun _ => False) w3 v3) := hide (GC.out.trans g')
      have S3 : Hid (v2.heap.size ≤ v3.heap.size) := hide g'.size
      clear g' tv GC
      go_simp
      refine hK.out _ _ GW (fun hHeld => ?_)
      clear hK K
      try simp only [Act.put, List.getElem_toArray, List.getElem_cons_zero, List.getElem_cons_succ, List.setIfInBounds_toArray, List.set_cons_zero, List.set_cons_succ]
      refine wpAnyH_ready (rs := [5, 7]) (by kernel_rfl) (by simp) ?_
      refine AllReadyH.cons (i := 5) (o := _) rfl (fun K hK => ?_) ?_
      ·
       go_simp
       have GC : Hid (Chg (fun _ => False) w3 v3) := hide (GW.out)
       refine (to06_any (t0, t1, t2, t3) OKT.out _ (fun x => x < v3.heap.size) v3 (fun _ h => h) ((T0.out.all GG.out).all GC.out)).mono ?_
       rintro e v4 ⟨⟨v', rfl, tv⟩, g'⟩
       obtain ⟨xa, xc, xd, xe, rfl, _, _⟩ := id tv
       dsimp only [Tm.bs, Tm.kd, Tm.ix, Tm.ag]
       have TVA := hide (TVA.out.chg g' (fun _ _ h => h))
       have TVN := hide (TVN.out.chg g' (fun _ _ h => h))
       have TCX := hide (TCX.out.chg g' (fun _ _ h => h))
       have BA := hide (g'.blk (fun h => h) BA.out)
       have TXT : Hid (TV v4 (fun x => v3.heap.size ≤ x ∧ x < v4.heap.size) (.agg #[.slice xa t0.len xc, .int .i64 t1, .int .i64 t2, .slice xd t3.len xe]) (t0, t1, t2, t3)) := hide tv
       have GW : Hid (Chg (fun _ => False) w3 v4) := hide (GC.out.trans g')
       have S4 : Hid (v3.heap.size ≤ v4.heap.size) := hide g'.size
       clear g' tv GC
       go_simp
       refine hK.out _ _ GW (fun hHeld => ?_)
       clear hK K
       try simp only [Act.put, List.getElem_toArray, List.getElem_cons_zero, List.getElem_cons_succ, List.setIfInBounds_toArray, List.set_cons_zero, List.set_cons_succ]
       refine wpAnyH_ready (rs := [7]) (by kernel_rfl) (by simp) ?_
       refine AllReadyH.cons (i := 7) (o := _) rfl (fun K hK => ?_) ?_
       rotate_left
       ·
        exact AllReadyH.nil
       go_simp
       have GC : Hid (Chg (fun _ => False) w3 v4) := hide (GW.out)
       have GA := (al v4 (.cells #[.slice none 0 0, .int .i64 0, .int .i64 0, .slice none 0 0] 35))
       have BX : Hid ((v4.alloc (.cells #[.slice none 0 0, .int .i64 0, .int .i64 0, .slice none 0 0] 35)).heap[v4.heap.size]? = some (.cells #[.slice none 0 0, .int .i64 0, .int .i64 0, .slice none 0 0] 35)) := hide (blk_new v4 (.cells #[.slice none 0 0, .int .i64 0, .int .i64 0, .slice none 0 0] 35))
       have GW : Hid (Chg (fun _ => False) w3 (v4.alloc (.cells #[.slice none 0 0, .int .i64 0, .int .i64 0, .slice none 0 0] 35))) := hide (GC.out.trans GA)
       have TVA := hide (TVA.out.chg GA (fun _ _ h => h))
       have TVN := hide (TVN.out.chg GA (fun _ _ h => h))
       have TCX := hide (TCX.out.chg GA (fun _ _ h => h))
       have TXT := hide (TXT.out.chg GA (fun _ _ h => h))
       have BA := hide (GA.blk (fun h => h) BA.out)
       have S5 : Hid (v4.heap.size < (v4.alloc (.cells #[.slice none 0 0, .int .i64 0, .int .i64 0, .slice none 0 0] 35)).heap.size) := hide (blk_lt BX.out)
       clear GA GC
       go_simp
       refine hK.out _ _ GW (fun hHeld => ?_)
       clear hK K
       try simp only [Act.put, List.getElem_toArray, List.getElem_cons_zero, List.getElem_cons_succ, List.setIfInBounds_toArray, List.set_cons_zero, List.set_cons_succ]
       obtain ⟨X, hX⟩ : ∃ X, v4.heap.size = X := ⟨_, rfl⟩
       have HX := hide hX
       rw [hX] at BX ⊢
       clear hX
       generalize (v4.alloc (.cells #[.slice none 0 0, .int .i64 0, .int .i64 0, .slice none 0 0] 35)) = v5 at *
       refine wpAnyH_ready (rs := [8]) (by kernel_rfl) (by simp) ?_
       refine AllReadyH.cons (i := 8) (o := _) rfl (fun K hK => ?_) ?_
       rotate_left
       ·
        exact AllReadyH.nil
       obtain ⟨u1, u2, LF⟩ := leaf_st (.int .i64 wn) (.slice va cs.len vc) (.slice na ms.len nc) (.slice xa t0.len xc) (.int .i64 t1) (.int .i64 t2) (.slice xd t3.len xe) (by have := S1.out; have := S2.out; have := S3.out; have := S4.out; have := S5.out; have := HA.out; have := HX.out; omega) (by have := S1.out; have := S2.out; have := S3.out; have := S4.out; have := S5.out; have := HA.out; have := HX.out; omega) (by have := S1.out; have := S2.out; have := S3.out; have := S4.out; have := S5.out; have := HA.out; have := HX.out; omega) BA.out BX.out GW.out
       have TVA := LF.mv _ _ _ TVA.out (fun x hx => by have := S1.out; have := S2.out; have := S3.out; have := S4.out; have := S5.out; have := HA.out; have := HX.out; omega)
       have TVN := LF.mv _ _ _ TVN.out (fun x hx => by have := S1.out; have := S2.out; have := S3.out; have := S4.out; have := S5.out; have := HA.out; have := HX.out; omega)
       have TCX := LF.mv _ _ _ TCX.out (fun x hx => by have := S1.out; have := S2.out; have := S3.out; have := S4.out; have := S5.out; have := HA.out; have := HX.out; omega)
       have TXT := LF.mvt _ _ _ TXT.out (fun x hx => by have := S1.out; have := S2.out; have := S3.out; have := S4.out; have := S5.out; have := HA.out; have := HX.out; omega)
       have GW := LF.g1
       obtain ⟨a0, a1, a2, f0, f1, f2⟩ := LF.ca
       have LF := hide LF
       clear BA BX HA HX
       go_simp
       rw [LF.out.e1]
       clear a0 a1 a2 f0 f1 f2
       refine hK.out _ _ GW (fun hHeld => ?_)
       clear hK K
       try simp only [Act.put, List.getElem_toArray, List.getElem_cons_zero, List.getElem_cons_succ, List.setIfInBounds_toArray, List.set_cons_zero, List.set_cons_succ]
       first
        | (refine wpAnyH_take (i := 9) (v := undef) rfl (by kernel_rfl) (by kernel_rfl) (by kernel_rfl) (fun _ _ _ h => h) (Or.inr ⟨by rfl, rfl⟩) (by assumption) ?_)
        | (refine wpAnyH_take (i := 9) (v := ?_) rfl (by kernel_rfl) (by kernel_rfl) (by kernel_rfl) (fun _ _ _ h => h) (Or.inl ⟨by rfl, ?_⟩) (by assumption) ?_
           rotate_left
           (intro w hSw
            (try dsimp only at hSw)
            (go_simp <;> with_reducible rfl)))
       try simp only [Act.put, List.getElem_toArray, List.getElem_cons_zero, List.getElem_cons_succ, List.setIfInBounds_toArray, List.set_cons_zero, List.set_cons_succ]
       refine wpAnyH_ready (rs := [10]) (by kernel_rfl) (by simp) ?_
       refine AllReadyH.cons (i := 10) (o := _) rfl (fun K hK => ?_) ?_
       rotate_left
       ·
        exact AllReadyH.nil
       as_aux_lemma =>
        obtain ⟨a0, a1, a2, a3, f0, f1, f2, f3⟩ := LF.out.cx
        go_simp
        rw [LF.out.e2]
        clear a0 a1 a2 a3 f0 f1 f2 f3
        refine hK.out _ _ LF.out.g2 (fun hHeld => ?_)
        clear hK K
        try simp only [Act.put, List.getElem_toArray, List.getElem_cons_zero, List.getElem_cons_succ, List.setIfInBounds_toArray, List.set_cons_zero, List.set_cons_succ]
        refine wpAnyH_done (by kernel_rfl) ?_ _
        go_wp2_with fail
        go_meet
        exact ⟨A, X, va, vc, na, nc, ka, kc, xa, xc, xd, xe, rfl, rfl, rfl, LF.out.b1, LF.out.b2, TVA, TVN, TCX, TXT, LF.out.g2⟩
      refine AllReadyH.cons (i := 7) (o := _) rfl (fun K hK => ?_) ?_
      rotate_left
      ·
       exact AllReadyH.nil
      go_simp
      have GC : Hid (Chg (fun _ => False) w3 v3) := hide (GW.out)
      have GA := (al v3 (.cells #[.slice none 0 0, .int .i64 0, .int .i64 0, .slice none 0 0] 35))
      have BX : Hid ((v3.alloc (.cells #[.slice none 0 0, .int .i64 0, .int .i64 0, .slice none 0 0] 35)).heap[v3.heap.size]? = some (.cells #[.slice none 0 0, .int .i64 0, .int .i64 0, .slice none 0 0] 35)) := hide (blk_new v3 (.cells #[.slice none 0 0, .int .i64 0, .int .i64 0, .slice none 0 0] 35))
      have GW : Hid (Chg (fun _ => False) w3 (v3.alloc (.cells #[.slice none 0 0, .int .i64 0, .int .i64 0, .slice none 0 0] 35))) := hide (GC.out.trans GA)
      have TVA := hide (TVA.out.chg GA (fun _ _ h => h))
      have TVN := hide (TVN.out.chg GA (fun _ _ h => h))
      have TCX := hide (TCX.out.chg GA (fun _ _ h => h))
      have BA := hide (GA.blk (fun h => h) BA.out)
      have S4 : Hid (v3.heap.size < (v3.alloc (.cells #[.slice none 0 0, .int .i64 0, .int .i64 0, .slice none 0 0] 35)).heap.size) := hide (blk_lt BX.out)
      clear GA GC
      go_simp
      refine hK.out _ _ GW (fun hHeld => ?_)
      clear hK K
      try simp only [Act.put, List.getElem_toArray, List.getElem_cons_zero, List.getElem_cons_succ, List.setIfInBounds_toArray, List.set_cons_zero, List.set_cons_succ]
      obtain ⟨X, hX⟩ : ∃ X, v3.heap.size = X := ⟨_, rfl⟩
      have HX := hide hX
      rw [hX] at BX ⊢
      clear hX
      generalize (v3.alloc (.cells #[.slice none 0 0, .int .i64 0, .int .i64 0, .slice none 0 0] 35)) = v4 at *
      refine wpAnyH_ready (rs := [5]) (by kernel_rfl) (by simp) ?_
      refine AllReadyH.cons (i := 5) (o := _) rfl (fun K hK => ?_) ?_
      rotate_left
      ·
       exact AllReadyH.nil
      go_simp
      have GC : Hid (Chg (fun _ => False) w3 v4) := hide (GW.out)
      refine (to06_any (t0, t1, t2, t3) OKT.out _ (fun x => x < v4.heap.size) v4 (fun _ h => h) ((T0.out.all GG.out).all GC.out)).mono ?_
      rintro e v5 ⟨⟨v', rfl, tv⟩, g'⟩
      obtain ⟨xa, xc, xd, xe, rfl, _, _⟩ := id tv
      dsimp only [Tm.bs, Tm.kd, Tm.ix, Tm.ag]
      have TVA := hide (TVA.out.chg g' (fun _ _ h => h))
      have TVN := hide (TVN.out.chg g' (fun _ _ h => h))
      have TCX := hide (TCX.out.chg g' (fun _ _ h => h))
      have BA := hide (g'.blk (fun h => h) BA.out)
      have BX := hide (g'.blk (fun h => h) BX.out)
      have TXT : Hid (TV v5 (fun x => v4.heap.size ≤ x ∧ x < v5.heap.size) (.agg #[.slice xa t0.len xc, .int .i64 t1, .int .i64 t2, .slice xd t3.len xe]) (t0, t1, t2, t3)) := hide tv
      have GW : Hid (Chg (fun _ => False) w3 v5) := hide (GC.out.trans g')
      have S5 : Hid (v4.heap.size ≤ v5.heap.size) := hide g'.size
      clear g' tv GC
      go_simp
      refine hK.out _ _ GW (fun hHeld => ?_)
      clear hK K
      try simp only [Act.put, List.getElem_toArray, List.getElem_cons_zero, List.getElem_cons_succ, List.setIfInBounds_toArray, List.set_cons_zero, List.set_cons_succ]
      refine wpAnyH_ready (rs := [8]) (by kernel_rfl) (by simp) ?_
      refine AllReadyH.cons (i := 8) (o := _) rfl (fun K hK => ?_) ?_
      rotate_left
      ·
       exact AllReadyH.nil
      obtain ⟨u1, u2, LF⟩ := leaf_st (.int .i64 wn) (.slice va cs.len vc) (.slice na ms.len nc) (.slice xa t0.len xc) (.int .i64 t1) (.int .i64 t2) (.slice xd t3.len xe) (by have := S1.out; have := S2.out; have := S3.out; have := S4.out; have := S5.out; have := HA.out; have := HX.out; omega) (by have := S1.out; have := S2.out; have := S3.out; have := S4.out; have := S5.out; have := HA.out; have := HX.out; omega) (by have := S1.out; have := S2.out; have := S3.out; have := S4.out; have := S5.out; have := HA.out; have := HX.out; omega) BA.out BX.out GW.out
      have TVA := LF.mv _ _ _ TVA.out (fun x hx => by have := S1.out; have := S2.out; have := S3.out; have := S4.out; have := S5.out; have := HA.out; have := HX.out; omega)
      have TVN := LF.mv _ _ _ TVN.out (fun x hx => by have := S1.out; have := S2.out; have := S3.out; have := S4.out; have := S5.out; have := HA.out; have := HX.out; omega)
      have TCX := LF.mv _ _ _ TCX.out (fun x hx => by have := S1.out; have := S2.out; have := S3.out; have := S4.out; have := S5.out; have := HA.out; have := HX.out; omega)
      have TXT := LF.mvt _ _ _ TXT.out (fun x hx => by have := S1.out; have := S2.out; have := S3.out; have := S4.out; have := S5.out; have := HA.out; have := HX.out; omega)
      have GW := LF.g1
      obtain ⟨a0, a1, a2, f0, f1, f2⟩ := LF.ca
      have LF := hide LF
      clear BA BX HA HX
      go_simp
      rw [LF.out.e1]
      clear a0 a1 a2 f0 f1 f2
      refine hK.out _ _ GW (fun hHeld => ?_)
      clear hK K
      try simp only [Act.put, List.getElem_toArray, List.getElem_cons_zero, List.getElem_cons_succ, List.setIfInBounds_toArray, List.set_cons_zero, List.set_cons_succ]
      first
       | (refine wpAnyH_take (i := 9) (v := undef) rfl (by kernel_rfl) (by kernel_rfl) (by kernel_rfl) (fun _ _ _ h => h) (Or.inr ⟨by rfl, rfl⟩) (by assumption) ?_)
       | (refine wpAnyH_take (i := 9) (v := ?_) rfl (by kernel_rfl) (by kernel_rfl) (by kernel_rfl) (fun _ _ _ h => h) (Or.inl ⟨by rfl, ?_⟩) (by assumption) ?_
          rotate_left
          (intro w hSw
           (try dsimp only at hSw)
           (go_simp <;> with_reducible rfl)))
      try simp only [Act.put, List.getElem_toArray, List.getElem_cons_zero, List.getElem_cons_succ, List.setIfInBounds_toArray, List.set_cons_zero, List.set_cons_succ]
      refine wpAnyH_ready (rs := [10]) (by kernel_rfl) (by simp) ?_
      refine AllReadyH.cons (i := 10) (o := _) rfl (fun K hK => ?_) ?_
      rotate_left
      ·
       exact AllReadyH.nil
      as_aux_lemma =>
       obtain ⟨a0, a1, a2, a3, f0, f1, f2, f3⟩ := LF.out.cx
       go_simp
       rw [LF.out.e2]
       clear a0 a1 a2 a3 f0 f1 f2 f3
       refine hK.out _ _ LF.out.g2 (fun hHeld => ?_)
       clear hK K
       try simp only [Act.put, List.getElem_toArray, List.getElem_cons_zero, List.getElem_cons_succ, List.setIfInBounds_toArray, List.set_cons_zero, List.set_cons_succ]
       refine wpAnyH_done (by kernel_rfl) ?_ _
       go_wp2_with fail
       go_meet
       exact ⟨A, X, va, vc, na, nc, ka, kc, xa, xc, xd, xe, rfl, rfl, rfl, LF.out.b1, LF.out.b2, TVA, TVN, TCX, TXT, LF.out.g2⟩
     refine AllReadyH.cons (i := 7) (o := _) rfl (fun K hK => ?_) ?_
     rotate_left
     ·
      exact AllReadyH.nil
     go_simp
     have GC : Hid (Chg (fun _ => False) w3 v2) := hide (GW.out)
     have GA := (al v2 (.cells #[.slice none 0 0, .int .i64 0, .int .i64 0, .slice none 0 0] 35))
     have BX : Hid ((v2.alloc (.cells #[.slice none 0 0, .int .i64 0, .int .i64 0, .slice none 0 0] 35)).heap[v2.heap.size]? = some (.cells #[.slice none 0 0, .int .i64 0, .int .i64 0, .slice none 0 0] 35)) := hide (blk_new v2 (.cells #[.slice none 0 0, .int .i64 0, .int .i64 0, .slice none 0 0] 35))
     have GW : Hid (Chg (fun _ => False) w3 (v2.alloc (.cells #[.slice none 0 0, .int .i64 0, .int .i64 0, .slice none 0 0] 35))) := hide (GC.out.trans GA)
     have TVA := hide (TVA.out.chg GA (fun _ _ h => h))
     have TVN := hide (TVN.out.chg GA (fun _ _ h => h))
     have BA := hide (GA.blk (fun h => h) BA.out)
     have S3 : Hid (v2.heap.size < (v2.alloc (.cells #[.slice none 0 0, .int .i64 0, .int .i64 0, .slice none 0 0] 35)).heap.size) := hide (blk_lt BX.out)
     clear GA GC
     go_simp
     refine hK.out _ _ GW (fun hHeld => ?_)
     clear hK K
     try simp only [Act.put, List.getElem_toArray, List.getElem_cons_zero, List.getElem_cons_succ, List.setIfInBounds_toArray, List.set_cons_zero, List.set_cons_succ]
     obtain ⟨X, hX⟩ : ∃ X, v2.heap.size = X := ⟨_, rfl⟩
     have HX := hide hX
     rw [hX] at BX ⊢
     clear hX
     generalize (v2.alloc (.cells #[.slice none 0 0, .int .i64 0, .int .i64 0, .slice none 0 0] 35)) = v3 at *
     refine wpAnyH_ready (rs := [3]) (by kernel_rfl) (by simp) ?_
     refine AllReadyH.cons (i := 3) (o := _) rfl (fun K hK => ?_) ?_
     rotate_left
     ·
      exact AllReadyH.nil
     go_simp
     have GC : Hid (Chg (fun _ => False) w3 v3) := hide (GW.out)
     refine (types_any cx (by have := SW.out.2.2; omega) _ (fun x => x < v3.heap.size) v3 (fun _ h => h) ((X0.out.all GG.out).all GC.out)).mono ?_
     rintro e v4 ⟨⟨v', rfl, tv⟩, g'⟩
     obtain ⟨ka, kc, rfl, _⟩ := id tv
     have TVA := hide (TVA.out.chg g' (fun _ _ h => h))
     have TVN := hide (TVN.out.chg g' (fun _ _ h => h))
     have BA := hide (g'.blk (fun h => h) BA.out)
     have BX := hide (g'.blk (fun h => h) BX.out)
     have TCX : Hid (Ts v4 (fun x => v3.heap.size ≤ x ∧ x < v4.heap.size) (.slice ka cx.len kc) cx) := hide tv
     have GW : Hid (Chg (fun _ => False) w3 v4) := hide (GC.out.trans g')
     have S4 : Hid (v3.heap.size ≤ v4.heap.size) := hide g'.size
     clear g' tv GC
     go_simp
     refine hK.out _ _ GW (fun hHeld => ?_)
     clear hK K
     try simp only [Act.put, List.getElem_toArray, List.getElem_cons_zero, List.getElem_cons_succ, List.setIfInBounds_toArray, List.set_cons_zero, List.set_cons_succ]
     refine wpAnyH_ready (rs := [5]) (by kernel_rfl) (by simp) ?_
     refine AllReadyH.cons (i := 5) (o := _) rfl (fun K hK => ?_) ?_
     rotate_left
     ·
      exact AllReadyH.nil
     go_simp
     have GC : Hid (Chg (fun _ => False) w3 v4) := hide (GW.out)
     refine (to06_any (t0, t1, t2, t3) OKT.out _ (fun x => x < v4.heap.size) v4 (fun _ h => h) ((T0.out.all GG.out).all GC.out)).mono ?_
     rintro e v5 ⟨⟨v', rfl, tv⟩, g'⟩
     obtain ⟨xa, xc, xd, xe, rfl, _, _⟩ := id tv
     dsimp only [Tm.bs, Tm.kd, Tm.ix, Tm.ag]
     have TVA := hide (TVA.out.chg g' (fun _ _ h => h))
     have TVN := hide (TVN.out.chg g' (fun _ _ h => h))
     have TCX := hide (TCX.out.chg g' (fun _ _ h => h))
     have BA := hide (g'.blk (fun h => h) BA.out)
     have BX := hide (g'.blk (fun h => h) BX.out)
     have TXT : Hid (TV v5 (fun x => v4.heap.size ≤ x ∧ x < v5.heap.size) (.agg #[.slice xa t0.len xc, .int .i64 t1, .int .i64 t2, .slice xd t3.len xe]) (t0, t1, t2, t3)) := hide tv
     have GW : Hid (Chg (fun _ => False) w3 v5) := hide (GC.out.trans g')
     have S5 : Hid (v4.heap.size ≤ v5.heap.size) := hide g'.size
     clear g' tv GC
     go_simp
     refine hK.out _ _ GW (fun hHeld => ?_)
     clear hK K
     try simp only [Act.put, List.getElem_toArray, List.getElem_cons_zero, List.getElem_cons_succ, List.setIfInBounds_toArray, List.set_cons_zero, List.set_cons_succ]
     refine wpAnyH_ready (rs := [8]) (by kernel_rfl) (by simp) ?_
     refine AllReadyH.cons (i := 8) (o := _) rfl (fun K hK => ?_) ?_
     rotate_left
     ·
      exact AllReadyH.nil
     obtain ⟨u1, u2, LF⟩ := leaf_st (.int .i64 wn) (.slice va cs.len vc) (.slice na ms.len nc) (.slice xa t0.len xc) (.int .i64 t1) (.int .i64 t2) (.slice xd t3.len xe) (by have := S1.out; have := S2.out; have := S3.out; have := S4.out; have := S5.out; have := HA.out; have := HX.out; omega) (by have := S1.out; have := S2.out; have := S3.out; have := S4.out; have := S5.out; have := HA.out; have := HX.out; omega) (by have := S1.out; have := S2.out; have := S3.out; have := S4.out; have := S5.out; have := HA.out; have := HX.out; omega) BA.out BX.out GW.out
     have TVA := LF.mv _ _ _ TVA.out (fun x hx => by have := S1.out; have := S2.out; have := S3.out; have := S4.out; have := S5.out; have := HA.out; have := HX.out; omega)
     have TVN := LF.mv _ _ _ TVN.out (fun x hx => by have := S1.out; have := S2.out; have := S3.out; have := S4.out; have := S5.out; have := HA.out; have := HX.out; omega)
     have TCX := LF.mv _ _ _ TCX.out (fun x hx => by have := S1.out; have := S2.out; have := S3.out; have := S4.out; have := S5.out; have := HA.out; have := HX.out; omega)
     have TXT := LF.mvt _ _ _ TXT.out (fun x hx => by have := S1.out; have := S2.out; have := S3.out; have := S4.out; have := S5.out; have := HA.out; have := HX.out; omega)
     have GW := LF.g1
     obtain ⟨a0, a1, a2, f0, f1, f2⟩ := LF.ca
     have LF := hide LF
     clear BA BX HA HX
     go_simp
     rw [LF.out.e1]
     clear a0 a1 a2 f0 f1 f2
     refine hK.out _ _ GW (fun hHeld => ?_)
     clear hK K
     try simp only [Act.put, List.getElem_toArray, List.getElem_cons_zero, List.getElem_cons_succ, List.setIfInBounds_toArray, List.set_cons_zero, List.set_cons_succ]
     first
      | (refine wpAnyH_take (i := 9) (v := undef) rfl (by kernel_rfl) (by kernel_rfl) (by kernel_rfl) (fun _ _ _ h => h) (Or.inr ⟨by rfl, rfl⟩) (by assumption) ?_)
      | (refine wpAnyH_take (i := 9) (v := ?_) rfl (by kernel_rfl) (by kernel_rfl) (by kernel_rfl) (fun _ _ _ h => h) (Or.inl ⟨by rfl, ?_⟩) (by assumption) ?_
         rotate_left
         (intro w hSw
          (try dsimp only at hSw)
          (go_simp <;> with_reducible rfl)))
     try simp only [Act.put, List.getElem_toArray, List.getElem_cons_zero, List.getElem_cons_succ, List.setIfInBounds_toArray, List.set_cons_zero, List.set_cons_succ]
     refine wpAnyH_ready (rs := [10]) (by kernel_rfl) (by simp) ?_
     refine AllReadyH.cons (i := 10) (o := _) rfl (fun K hK => ?_) ?_
     rotate_left
     ·
      exact AllReadyH.nil
     as_aux_lemma =>
      obtain ⟨a0, a1, a2, a3, f0, f1, f2, f3⟩ := LF.out.cx
      go_simp
      rw [LF.out.e2]
      clear a0 a1 a2 a3 f0 f1 f2 f3
      refine hK.out _ _ LF.out.g2 (fun hHeld => ?_)
      clear hK K
      try simp only [Act.put, List.getElem_toArray, List.getElem_cons_zero, List.getElem_cons_succ, List.setIfInBounds_toArray, List.set_cons_zero, List.set_cons_succ]
      refine wpAnyH_done (by kernel_rfl) ?_ _
      go_wp2_with fail
      go_meet
      exact ⟨A, X, va, vc, na, nc, ka, kc, xa, xc, xd, xe, rfl, rfl, rfl, LF.out.b1, LF.out.b2, TVA, TVN, TCX, TXT, LF.out.g2⟩
    refine AllReadyH.cons (i := 7) (o := _) rfl (fun K hK => ?_) ?_
    rotate_left
    ·
     exact AllReadyH.nil
    go_simp
    have GC : Hid (Chg (fun _ => False) w3 v1) := hide (GW.out)
    have GA := (al v1 (.cells #[.slice none 0 0, .int .i64 0, .int .i64 0, .slice none 0 0] 35))
    have BX : Hid ((v1.alloc (.cells #[.slice none 0 0, .int .i64 0, .int .i64 0, .slice none 0 0] 35)).heap[v1.heap.size]? = some (.cells #[.slice none 0 0, .int .i64 0, .int .i64 0, .slice none 0 0] 35)) := hide (blk_new v1 (.cells #[.slice none 0 0, .int .i64 0, .int .i64 0, .slice none 0 0] 35))
    have GW : Hid (Chg (fun _ => False) w3 (v1.alloc (.cells #[.slice none 0 0, .int .i64 0, .int .i64 0, .slice none 0 0] 35))) := hide (GC.out.trans GA)
    have BA := hide (GA.blk (fun h => h) BA.out)
    have S2 : Hid (v1.heap.size < (v1.alloc (.cells #[.slice none 0 0, .int .i64 0, .int .i64 0, .slice none 0 0] 35)).heap.size) := hide (blk_lt BX.out)
    clear GA GC
    go_simp
    refine hK.out _ _ GW (fun hHeld => ?_)
    clear hK K
    try simp only [Act.put, List.getElem_toArray, List.getElem_cons_zero, List.getElem_cons_succ, List.setIfInBounds_toArray, List.set_cons_zero, List.set_cons_succ]
    obtain ⟨X, hX⟩ : ∃ X, v1.heap.size = X := ⟨_, rfl⟩
    have HX := hide hX
    rw [hX] at BX ⊢
    clear hX
    generalize (v1.alloc (.cells #[.slice none 0 0, .int .i64 0, .int .i64 0, .slice none 0 0] 35)) = v2 at *
    refine wpAnyH_ready (rs := [1]) (by kernel_rfl) (by simp) ?_
    refine AllReadyH.cons (i := 1) (o := _) rfl (fun K hK => ?_) ?_
    rotate_left
    ·
     exact AllReadyH.nil
    go_simp
    have GC : Hid (Chg (fun _ => False) w3 v2) := hide (GW.out)
    refine (world_any wn cs ms (by have := SW.out.1; omega) (by have := SW.out.2.1; omega) ca cc ma mc v2 ((C0.out.all GG.out).all GC.out) ((M0.out.all GG.out).all GC.out)).mono ?_
    rintro e v3 ⟨⟨va, vc, na, nc, rfl, tv1, tv2⟩, g'⟩
    have BA := hide (g'.blk (fun h => h) BA.out)
    have BX := hide (g'.blk (fun h => h) BX.out)
    have TVA : Hid (Ts v3 (fun x => v2.heap.size ≤ x ∧ x < v3.heap.size) (.slice va cs.len vc) cs) := hide tv1
    have TVN : Hid (Ts v3 (fun x => v2.heap.size ≤ x ∧ x < v3.heap.size) (.slice na ms.len nc) ms) := hide tv2
    have GW : Hid (Chg (fun _ => False) w3 v3) := hide (GC.out.trans g')
    have S3 : Hid (v2.heap.size ≤ v3.heap.size) := hide g'.size
    clear g' tv1 tv2 GC
    go_simp
    refine hK.out _ _ GW (fun hHeld => ?_)
    clear hK K
    try simp only [Act.put, List.getElem_toArray, List.getElem_cons_zero, List.getElem_cons_succ, List.setIfInBounds_toArray, List.set_cons_zero, List.set_cons_succ]
    refine wpAnyH_ready (rs := [3]) (by kernel_rfl) (by simp) ?_
    refine AllReadyH.cons (i := 3) (o := _) rfl (fun K hK => ?_) ?_
    rotate_left
    ·
     exact AllReadyH.nil
    go_simp
    have GC : Hid (Chg (fun _ => False) w3 v3) := hide (GW.out)
    refine (types_any cx (by have := SW.out.2.2; omega) _ (fun x => x < v3.heap.size) v3 (fun _ h => h) ((X0.out.all GG.out).all GC.out)).mono ?_
    rintro e v4 ⟨⟨v', rfl, tv⟩, g'⟩
    obtain ⟨ka, kc, rfl, _⟩ := id tv
    have TVA := hide (TVA.out.chg g' (fun _ _ h => h))
    have TVN := hide (TVN.out.chg g' (fun _ _ h => h))
    have BA := hide (g'.blk (fun h => h) BA.out)
    have BX := hide (g'.blk (fun h => h) BX.out)
    have TCX : Hid (Ts v4 (fun x => v3.heap.size ≤ x ∧ x < v4.heap.size) (.slice ka cx.len kc) cx) := hide tv
    have GW : Hid (Chg (fun _ => False) w3 v4) := hide (GC.out.trans g')
    have S4 : Hid (v3.heap.size ≤ v4.heap.size) := hide g'.size
    clear g' tv GC
    go_simp
    refine hK.out _ _ GW (fun hHeld => ?_)
    clear hK K
    try simp only [Act.put, List.getElem_toArray, List.getElem_cons_zero, List.getElem_cons_succ, List.setIfInBounds_toArray, List.set_cons_zero, List.set_cons_succ]
    refine wpAnyH_ready (rs := [5]) (by kernel_rfl) (by simp) ?_
    refine AllReadyH.cons (i := 5) (o := _) rfl (fun K hK => ?_) ?_
    rotate_left
    ·
     exact AllReadyH.nil
    go_simp
    have GC : Hid (Chg (fun _ => False) w3 v4) := hide (GW.out)
    refine (to06_any (t0, t1, t2, t3) OKT.out _ (fun x => x < v4.heap.size) v4 (fun _ h => h) ((T0.out.all GG.out).all GC.out)).mono ?_
    rintro e v5 ⟨⟨v', rfl, tv⟩, g'⟩
    obtain ⟨xa, xc, xd, xe, rfl, _, _⟩ := id tv
    dsimp only [Tm.bs, Tm.kd, Tm.ix, Tm.ag]
    have TVA := hide (TVA.out.chg g' (fun _ _ h => h))
    have TVN := hide (TVN.out.chg g' (fun _ _ h => h))
    have TCX := hide (TCX.out.chg g' (fun _ _ h => h))
    have BA := hide (g'.blk (fun h => h) BA.out)
    have BX := hide (g'.blk (fun h => h) BX.out)
    have TXT : Hid (TV v5 (fun x => v4.heap.size ≤ x ∧ x < v5.heap.size) (.agg #[.slice xa t0.len xc, .int .i64 t1, .int .i64 t2, .slice xd t3.len xe]) (t0, t1, t2, t3)) := hide tv
    have GW : Hid (Chg (fun _ => False) w3 v5) := hide (GC.out.trans g')
    have S5 : Hid (v4.heap.size ≤ v5.heap.size) := hide g'.size
    clear g' tv GC
    go_simp
    refine hK.out _ _ GW (fun hHeld => ?_)
    clear hK K
    try simp only [Act.put, List.getElem_toArray, List.getElem_cons_zero, List.getElem_cons_succ, List.setIfInBounds_toArray, List.set_cons_zero, List.set_cons_succ]
    refine wpAnyH_ready (rs := [8]) (by kernel_rfl) (by simp) ?_
    refine AllReadyH.cons (i := 8) (o := _) rfl (fun K hK => ?_) ?_
    rotate_left
    ·
     exact AllReadyH.nil
    obtain ⟨u1, u2, LF⟩ := leaf_st (.int .i64 wn) (.slice va cs.len vc) (.slice na ms.len nc) (.slice xa t0.len xc) (.int .i64 t1) (.int .i64 t2) (.slice xd t3.len xe) (by have := S1.out; have := S2.out; have := S3.out; have := S4.out; have := S5.out; have := HA.out; have := HX.out; omega) (by have := S1.out; have := S2.out; have := S3.out; have := S4.out; have := S5.out; have := HA.out; have := HX.out; omega) (by have := S1.out; have := S2.out; have := S3.out; have := S4.out; have := S5.out; have := HA.out; have := HX.out; omega) BA.out BX.out GW.out
    have TVA := LF.mv _ _ _ TVA.out (fun x hx => by have := S1.out; have := S2.out; have := S3.out; have := S4.out; have := S5.out; have := HA.out; have := HX.out; omega)
    have TVN := LF.mv _ _ _ TVN.out (fun x hx => by have := S1.out; have := S2.out; have := S3.out; have := S4.out; have := S5.out; have := HA.out; have := HX.out; omega)
    have TCX := LF.mv _ _ _ TCX.out (fun x hx => by have := S1.out; have := S2.out; have := S3.out; have := S4.out; have := S5.out; have := HA.out; have := HX.out; omega)
    have TXT := LF.mvt _ _ _ TXT.out (fun x hx => by have := S1.out; have := S2.out; have := S3.out; have := S4.out; have := S5.out; have := HA.out; have := HX.out; omega)
    have GW := LF.g1
    obtain ⟨a0, a1, a2, f0, f1, f2⟩ := LF.ca
    have LF := hide LF
    clear BA BX HA HX
    go_simp
    rw [LF.out.e1]
    clear a0 a1 a2 f0 f1 f2
    refine hK.out _ _ GW (fun hHeld => ?_)
    clear hK K
    try simp only [Act.put, List.getElem_toArray, List.getElem_cons_zero, List.getElem_cons_succ, List.setIfInBounds_toArray, List.set_cons_zero, List.set_cons_succ]
    first
     | (refine wpAnyH_take (i := 9) (v := undef) rfl (by kernel_rfl) (by kernel_rfl) (by kernel_rfl) (fun _ _ _ h => h) (Or.inr ⟨by rfl, rfl⟩) (by assumption) ?_)
     | (refine wpAnyH_take (i := 9) (v := ?_) rfl (by kernel_rfl) (by kernel_rfl) (by kernel_rfl) (fun _ _ _ h => h) (Or.inl ⟨by rfl, ?_⟩) (by assumption) ?_
        rotate_left
        (intro w hSw
         (try dsimp only at hSw)
         (go_simp <;> with_reducible rfl)))
    try simp only [Act.put, List.getElem_toArray, List.getElem_cons_zero, List.getElem_cons_succ, List.setIfInBounds_toArray, List.set_cons_zero, List.set_cons_succ]
    refine wpAnyH_ready (rs := [10]) (by kernel_rfl) (by simp) ?_
    refine AllReadyH.cons (i := 10) (o := _) rfl (fun K hK => ?_) ?_
    rotate_left
    ·
     exact AllReadyH.nil
    as_aux_lemma =>
     obtain ⟨a0, a1, a2, a3, f0, f1, f2, f3⟩ := LF.out.cx
     go_simp
     rw [LF.out.e2]
     clear a0 a1 a2 a3 f0 f1 f2 f3
     refine hK.out _ _ LF.out.g2 (fun hHeld => ?_)
     clear hK K
     try simp only [Act.put, List.getElem_toArray, List.getElem_cons_zero, List.getElem_cons_succ, List.setIfInBounds_toArray, List.set_cons_zero, List.set_cons_succ]
     refine wpAnyH_done (by kernel_rfl) ?_ _
     go_wp2_with fail
     go_meet
     exact ⟨A, X, va, vc, na, nc, ka, kc, xa, xc, xd, xe, rfl, rfl, rfl, LF.out.b1, LF.out.b2, TVA, TVN, TCX, TXT, LF.out.g2⟩
   refine AllReadyH.cons (i := 7) (o := _) rfl (fun K hK => ?_) ?_
   rotate_left
   ·
    exact AllReadyH.nil
   go_simp
   have GC : Hid (Chg (fun _ => False) w3 w3.drew) := hide ((Chg.refl (fun _ => False) w3).drew)
   have GA := (al w3 (.cells #[.slice none 0 0, .int .i64 0, .int .i64 0, .slice none 0 0] 35)).drew
   have BX : Hid ((w3.alloc (.cells #[.slice none 0 0, .int .i64 0, .int .i64 0, .slice none 0 0] 35)).drew.heap[w3.heap.size]? = some (.cells #[.slice none 0 0, .int .i64 0, .int .i64 0, .slice none 0 0] 35)) := hide (blk_new w3 (.cells #[.slice none 0 0, .int .i64 0, .int .i64 0, .slice none 0 0] 35))
   have GW : Hid (Chg (fun _ => False) w3 (w3.alloc (.cells #[.slice none 0 0, .int .i64 0, .int .i64 0, .slice none 0 0] 35)).drew) := hide GA
   have S1 : Hid (w3.heap.size < (w3.alloc (.cells #[.slice none 0 0, .int .i64 0, .int .i64 0, .slice none 0 0] 35)).drew.heap.size) := hide (blk_lt BX.out)
   clear GA GC
   go_simp
   refine hK.out _ _ GW (fun hHeld => ?_)
   clear hK K
   try simp only [Act.put, List.getElem_toArray, List.getElem_cons_zero, List.getElem_cons_succ, List.setIfInBounds_toArray, List.set_cons_zero, List.set_cons_succ]
   obtain ⟨X, hX⟩ : ∃ X, w3.heap.size = X := ⟨_, rfl⟩
   have HX := hide hX
   rw [hX] at BX ⊢
   clear hX
   generalize (w3.alloc (.cells #[.slice none 0 0, .int .i64 0, .int .i64 0, .slice none 0 0] 35)).drew = v1 at *
   refine wpAnyH_ready (rs := [1, 6]) (by kernel_rfl) (by simp) ?_
   refine AllReadyH.cons (i := 1) (o := _) rfl (fun K hK => ?_) ?_
   ·
    go_simp
    have GC : Hid (Chg (fun _ => False) w3 v1) := hide (GW.out)
    refine (world_any wn cs ms (by have := SW.out.1; omega) (by have := SW.out.2.1; omega) ca cc ma mc v1 ((C0.out.all GG.out).all GC.out) ((M0.out.all GG.out).all GC.out)).mono ?_
    rintro e v2 ⟨⟨va, vc, na, nc, rfl, tv1, tv2⟩, g'⟩
    have BX := hide (g'.blk (fun h => h) BX.out)
    have TVA : Hid (Ts v2 (fun x => v1.heap.size ≤ x ∧ x < v2.heap.size) (.slice va cs.len vc) cs) := hide tv1
    have TVN : Hid (Ts v2 (fun x => v1.heap.size ≤ x ∧ x < v2.heap.size) (.slice na ms.len nc) ms) := hide tv2
    have GW : Hid (Chg (fun _ => False) w3 v2) := hide (GC.out.trans g')
    have S2 : Hid (v1.heap.size ≤ v2.heap.size) := hide g'.size
    clear g' tv1 tv2 GC
    go_simp
    refine hK.out _ _ GW (fun hHeld => ?_)
    clear hK K
    try simp only [Act.put, List.getElem_toArray, List.getElem_cons_zero, List.getElem_cons_succ, List.setIfInBounds_toArray, List.set_cons_zero, List.set_cons_succ]
    refine wpAnyH_ready (rs := [3, 6]) (by kernel_rfl) (by simp) ?_
    refine AllReadyH.cons (i := 3) (o := _) rfl (fun K hK => ?_) ?_
    ·
     go_simp
     have GC : Hid (Chg (fun _ => False) w3 v2) := hide (GW.out)
     refine (types_any cx (by have := SW.out.2.2; omega) _ (fun x => x < v2.heap.size) v2 (fun _ h => h) ((X0.out.all GG.out).all GC.out)).mono ?_
     rintro e v3 ⟨⟨v', rfl, tv⟩, g'⟩
     obtain ⟨ka, kc, rfl, _⟩ := id tv
     have TVA := hide (TVA.out.chg g' (fun _ _ h => h))
     have TVN := hide (TVN.out.chg g' (fun _ _ h => h))
     have BX := hide (g'.blk (fun h => h) BX.out)
     have TCX : Hid (Ts v3 (fun x => v2.heap.size ≤ x ∧ x < v3.heap.size) (.slice ka cx.len kc) cx) := hide tv
     have GW : Hid (Chg (fun _ => False) w3 v3) := hide (GC.out.trans g')
     have S3 : Hid (v2.heap.size ≤ v3.heap.size) := hide g'.size
     clear g' tv GC
     go_simp
     refine hK.out _ _ GW (fun hHeld => ?_)
     clear hK K
     try simp only [Act.put, List.getElem_toArray, List.getElem_cons_zero, List.getElem_cons_succ, List.setIfInBounds_toArray, List.set_cons_zero, List.set_cons_succ]
     refine wpAnyH_ready (rs := [5, 6]) (by kernel_rfl) (by simp) ?_
     refine AllReadyH.cons (i := 5) (o := _) rfl (fun K hK => ?_) ?_
     ·
      go_simp
      have GC : Hid (Chg (fun _ => False) w3 v3) := hide (GW.out)
      refine (to06_any (t0, t1, t2, t3) OKT.out _ (fun x => x < v3.heap.size) v3 (fun _ h => h) ((T0.out.all GG.out).all GC.out)).mono ?_
      rintro e v4 ⟨⟨v', rfl, tv⟩, g'⟩
      obtain ⟨xa, xc, xd, xe, rfl, _, _⟩ := id tv
      dsimp only [Tm.bs, Tm.kd, Tm.ix, Tm.ag]
      have TVA := hide (TVA.out.chg g' (fun _ _ h => h))
      have TVN := hide (TVN.out.chg g' (fun _ _ h => h))
      have TCX := hide (TCX.out.chg g' (fun _ _ h => h))
      have BX := hide (g'.blk (fun h => h) BX.out)
      have TXT : Hid (TV v4 (fun x => v3.heap.size ≤ x ∧ x < v4.heap.size) (.agg #[.slice xa t0.len xc, .int .i64 t1, .int .i64 t2, .slice xd t3.len xe]) (t0, t1, t2, t3)) := hide tv
      have GW : Hid (Chg (fun _ => False) w3 v4) := hide (GC.out.trans g')
      have S4 : Hid (v3.heap.size ≤ v4.heap.size) := hide g'.size
      clear g' tv GC
      go_simp
      refine hK.out _ _ GW (fun hHeld => ?_)
      clear hK K
      try simp only [Act.put, List.getElem_toArray, List.getElem_cons_zero, List.getElem_cons_succ, List.setIfInBounds_toArray, List.set_cons_zero, List.set_cons_succ]
      refine wpAnyH_ready (rs := [6]) (by kernel_rfl) (by simp) ?_
      refine AllReadyH.cons (i := 6) (o := _) rfl (fun K hK => ?_) ?_
      rotate_left
      ·
       exact AllReadyH.nil
      go_simp
      have GC : Hid (Chg (fun _ => False) w3 v4) := hide (GW.out)
      have GA := (al v4 (.cells #[.int .i64 0, .slice none 0 0, .slice none 0 0] 66))
      have BA : Hid ((v4.alloc (.cells #[.int .i64 0, .slice none 0 0, .slice none 0 0] 66)).heap[v4.heap.size]? = some (.cells #[.int .i64 0, .slice none 0 0, .slice none 0 0] 66)) := hide (blk_new v4 (.cells #[.int .i64 0, .slice none 0 0, .slice none 0 0] 66))
      have GW : Hid (Chg (fun _ => False) w3 (v4.alloc (.cells #[.int .i64 0, .slice none 0 0, .slice none 0 0] 66))) := hide (GC.out.trans GA)
      have TVA := hide (TVA.out.chg GA (fun _ _ h => h))
      have TVN := hide (TVN.out.chg GA (fun _ _ h => h))
      have TCX := hide (TCX.out.chg GA (fun _ _ h => h))
      have TXT := hide (TXT.out.chg GA (fun _ _ h => h))
      have BX := hide (GA.blk (fun h => h) BX.out)
      have S5 : Hid (v4.heap.size < (v4.alloc (.cells #[.int .i64 0, .slice none 0 0, .slice none 0 0] 66)).heap.size) := hide (blk_lt BA.out)
      clear GA GC
      go_simp
      refine hK.out _ _ GW (fun hHeld => ?_)
      clear hK K
      try simp only [Act.put, List.getElem_toArray, List.getElem_cons_zero, List.getElem_cons_succ, List.setIfInBounds_toArray, List.set_cons_zero, List.set_cons_succ]
      obtain ⟨A, hA⟩ : ∃ A, v4.heap.size = A := ⟨_, rfl⟩
      have HA := hide hA
      rw [hA] at BA ⊢
      clear hA
      generalize (v4.alloc (.cells #[.int .i64 0, .slice none 0 0, .slice none 0 0] 66)) = v5 at *
      refine wpAnyH_ready (rs := [8]) (by kernel_rfl) (by simp) ?_
      refine AllReadyH.cons (i := 8) (o := _) rfl (fun K hK => ?_) ?_
      rotate_left
      ·
       exact AllReadyH.nil
      obtain ⟨u1, u2, LF⟩ := leaf_st (.int .i64 wn) (.slice va cs.len vc) (.slice na ms.len nc) (.slice xa t0.len xc) (.int .i64 t1) (.int .i64 t2) (.slice xd t3.len xe) (by have := S1.out; have := S2.out; have := S3.out; have := S4.out; have := S5.out; have := HA.out; have := HX.out; omega) (by have := S1.out; have := S2.out; have := S3.out; have := S4.out; have := S5.out; have := HA.out; have := HX.out; omega) (by have := S1.out; have := S2.out; have := S3.out; have := S4.out; have := S5.out; have := HA.out; have := HX.out; omega) BA.out BX.out GW.out
      have TVA := LF.mv _ _ _ TVA.out (fun x hx => by have := S1.out; have := S2.out; have := S3.out; have := S4.out; have := S5.out; have := HA.out; have := HX.out; omega)
      have TVN := LF.mv _ _ _ TVN.out (fun x hx => by have := S1.out; have := S2.out; have := S3.out; have := S4.out; have := S5.out; have := HA.out; have := HX.out; omega)
      have TCX := LF.mv _ _ _ TCX.out (fun x hx => by have := S1.out; have := S2.out; have := S3.out; have := S4.out; have := S5.out; have := HA.out; have := HX.out; omega)
      have TXT := LF.mvt _ _ _ TXT.out (fun x hx => by have := S1.out; have := S2.out; have := S3.out; have := S4.out; have := S5.out; have := HA.out; have := HX.out; omega)
      have GW := LF.g1
      obtain ⟨a0, a1, a2, f0, f1, f2⟩ := LF.ca
      have LF := hide LF
      clear BA BX HA HX
      go_simp
      rw [LF.out.e1]
      clear a0 a1 a2 f0 f1 f2
      refine hK.out _ _ GW (fun hHeld => ?_)
      clear hK K
      try simp only [Act.put, List.getElem_toArray, List.getElem_cons_zero, List.getElem_cons_succ, List.setIfInBounds_toArray, List.set_cons_zero, List.set_cons_succ]
      first
       | (refine wpAnyH_take (i := 9) (v := undef) rfl (by kernel_rfl) (by kernel_rfl) (by kernel_rfl) (fun _ _ _ h => h) (Or.inr ⟨by rfl, rfl⟩) (by assumption) ?_)
       | (refine wpAnyH_take (i := 9) (v := ?_) rfl (by kernel_rfl) (by kernel_rfl) (by kernel_rfl) (fun _ _ _ h => h) (Or.inl ⟨by rfl, ?_⟩) (by assumption) ?_
          rotate_left
          (intro w hSw
           (try dsimp only at hSw)
           (go_simp <;> with_reducible rfl)))
      try simp only [Act.put, List.getElem_toArray, List.getElem_cons_zero, List.getElem_cons_succ, List.setIfInBounds_toArray, List.set_cons_zero, List.set_cons_succ]
      refine wpAnyH_ready (rs := [10]) (by kernel_rfl) (by simp) ?_
      refine AllReadyH.cons (i := 10) (o := _) rfl (fun K hK => ?_) ?_
      rotate_left
      ·
       exact AllReadyH.nil
      as_aux_lemma =>
       obtain ⟨a0, a1, a2, a3, f0, f1, f2, f3⟩ := LF.out.cx
       go_simp
       rw [LF.out.e2]
       clear a0 a1 a2 a3 f0 f1 f2 f3
       refine hK.out _ _ LF.out.g2 (fun hHeld => ?_)
       clear hK K
       try simp only [Act.put, List.getElem_toArray, List.getElem_cons_zero, List.getElem_cons_succ, List.setIfInBounds_toArray, List.set_cons_zero, List.set_cons_succ]
       refine wpAnyH_done (by kernel_rfl) ?_ _
       go_wp2_with fail
       go_meet
       exact ⟨A, X, va, vc, na, nc, ka, kc, xa, xc, xd, xe, rfl, rfl, rfl, LF.out.b1, LF.out.b2, TVA, TVN, TCX, TXT, LF.out.g2⟩
     refine AllReadyH.cons (i := 6) (o := _) rfl (fun K hK => ?_) ?_
     rotate_left
     ·
      exact AllReadyH.nil
     go_simp
     have GC : Hid (Chg (fun _ => False) w3 v3) := hide (GW.out)
     have GA := (al v3 (.cells #[.int .i64 0, .slice none 0 0, .slice none 0 0] 66))
     have BA : Hid ((v3.alloc (.cells #[.int .i64 0, .slice none 0 0, .slice none 0 0] 66)).heap[v3.heap.size]? = some (.cells #[.int .i64 0, .slice none 0 0, .slice none 0 0] 66)) := hide (blk_new v3 (.cells #[.int .i64 0, .slice none 0 0, .slice none 0 0] 66))
     have GW : Hid (Chg (fun _ => False) w3 (v3.alloc (.cells #[.int .i64 0, .slice none 0 0, .slice none 0 0] 66))) := hide (GC.out.trans GA)
     have TVA := hide (TVA.out.chg GA (fun _ _ h => h))
     have TVN := hide (TVN.out.chg GA (fun _ _ h => h))
     have TCX := hide (TCX.out.chg GA (fun _ _ h => h))
     have BX := hide (GA.blk (fun h => h) BX.out)
     have S4 : Hid (v3.heap.size < (v3.alloc (.cells #[.int .i64 0, .slice none 0 0, .slice none 0 0] 66)).heap.size) := hide (blk_lt BA.out)
     clear GA GC
     go_simp
     refine hK.out _ _ GW (fun hHeld => ?_)
     clear hK K
     try simp only [Act.put, List.getElem_toArray, List.getElem_cons_zero, List.getElem_cons_succ, List.setIfInBounds_toArray, List.set_cons_zero, List.set_cons_succ]
     obtain ⟨A, hA⟩ : ∃ A, v3.heap.size = A := ⟨_, rfl⟩
     have HA := hide hA
     rw [hA] at BA ⊢
     clear hA
     generalize (v3.alloc (.cells #[.int .i64 0, .slice none 0 0, .slice none 0 0] 66)) = v4 at *
     refine wpAnyH_ready (rs := [5]) (by kernel_rfl) (by simp) ?_
     refine AllReadyH.cons (i := 5) (o := _) rfl (fun K hK => ?_) ?_
     rotate_left
     ·
      exact AllReadyH.nil
     go_simp
     have GC : Hid (Chg (fun _ => False) w3 v4) := hide (GW.out)
     refine (to06_any (t0, t1, t2, t3) OKT.out _ (fun x => x < v4.heap.size) v4 (fun _ h => h) ((T0.out.all GG.out).all GC.out)).mono ?_
     rintro e v5 ⟨⟨v', rfl, tv⟩, g'⟩
     obtain ⟨xa, xc, xd, xe, rfl, _, _⟩ := id tv
     dsimp only [Tm.bs, Tm.kd, Tm.ix, Tm.ag]
     have TVA := hide (TVA.out.chg g' (fun _ _ h => h))
     have TVN := hide (TVN.out.chg g' (fun _ _ h => h))
     have TCX := hide (TCX.out.chg g' (fun _ _ h => h))
     have BA := hide (g'.blk (fun h => h) BA.out)
     have BX := hide (g'.blk (fun h => h) BX.out)
     have TXT : Hid (TV v5 (fun x => v4.heap.size ≤ x ∧ x < v5.heap.size) (.agg #[.slice xa t0.len xc, .int .i64 t1, .int .i64 t2, .slice xd t3.len xe]) (t0, t1, t2, t3)) := hide tv
     have GW : Hid (Chg (fun _ => False) w3 v5) := hide (GC.out.trans g')
     have S5 : Hid (v4.heap.size ≤ v5.heap.size) := hide g'.size
     clear g' tv GC
     go_simp
     refine hK.out _ _ GW (fun hHeld => ?_)
     clear hK K
     try simp only [Act.put, List.getElem_toArray, List.getElem_cons_zero, List.getElem_cons_succ, List.setIfInBounds_toArray, List.set_cons_zero, List.set_cons_succ]
     refine wpAnyH_ready (rs := [8]) (by kernel_rfl) (by simp) ?_
     refine AllReadyH.cons (i := 8) (o := _) rfl (fun K hK => ?_) ?_
     rotate_left
     ·
      exact AllReadyH.nil
     obtain ⟨u1, u2, LF⟩ := leaf_st (.int .i64 wn) (.slice va cs.len vc) (.slice na ms.len nc) (.slice xa t0.len xc) (.int .i64 t1) (.int .i64 t2) (.slice xd t3.len xe) (by have := S1.out; have := S2.out; have := S3.out; have := S4.out; have := S5.out; have := HA.out; have := HX.out; omega) (by have := S1.out; have := S2.out; have := S3.out; have := S4.out; have := S5.out; have := HA.out; have := HX.out; omega) (by have := S1.out; have := S2.out; have := S3.out; have := S4.out; have := S5.out; have := HA.out; have := HX.out; omega) BA.out BX.out GW.out
     have TVA := LF.mv _ _ _ TVA.out (fun x hx => by have := S1.out; have := S2.out; have := S3.out; have := S4.out; have := S5.out; have := HA.out; have := HX.out; omega)
     have TVN := LF.mv _ _ _ TVN.out (fun x hx => by have := S1.out; have := S2.out; have := S3.out; have := S4.out; have := S5.out; have := HA.out; have := HX.out; omega)
     have TCX := LF.mv _ _ _ TCX.out (fun x hx => by have := S1.out; have := S2.out; have := S3.out; have := S4.out; have := S5.out; have := HA.out; have := HX.out; omega)
     have TXT := LF.mvt _ _ _ TXT.out (fun x hx => by have := S1.out; have := S2.out; have := S3.out; have := S4.out; have := S5.out; have := HA.out; have := HX.out; omega)
     have GW := LF.g1
     obtain ⟨a0, a1, a2, f0, f1, f2⟩ := LF.ca
     have LF := hide LF
     clear BA BX HA HX
     go_simp
     rw [LF.out.e1]
     clear a0 a1 a2 f0 f1 f2
     refine hK.out _ _ GW (fun hHeld => ?_)
     clear hK K
     try simp only [Act.put, List.getElem_toArray, List.getElem_cons_zero, List.getElem_cons_succ, List.setIfInBounds_toArray, List.set_cons_zero, List.set_cons_succ]
     first
      | (refine wpAnyH_take (i := 9) (v := undef) rfl (by kernel_rfl) (by kernel_rfl) (by kernel_rfl) (fun _ _ _ h => h) (Or.inr ⟨by rfl, rfl⟩) (by assumption) ?_)
      | (refine wpAnyH_take (i := 9) (v := ?_) rfl (by kernel_rfl) (by kernel_rfl) (by kernel_rfl) (fun _ _ _ h => h) (Or.inl ⟨by rfl, ?_⟩) (by assumption) ?_
         rotate_left
         (intro w hSw
          (try dsimp only at hSw)
          (go_simp <;> with_reducible rfl)))
     try simp only [Act.put, List.getElem_toArray, List.getElem_cons_zero, List.getElem_cons_succ, List.setIfInBounds_toArray, List.set_cons_zero, List.set_cons_succ]
     refine wpAnyH_ready (rs := [10]) (by kernel_rfl) (by simp) ?_
     refine AllReadyH.cons (i := 10) (o := _) rfl (fun K hK => ?_) ?_
     rotate_left
     ·
      exact AllReadyH.nil
     as_aux_lemma =>
      obtain ⟨a0, a1, a2, a3, f0, f1, f2, f3⟩ := LF.out.cx
      go_simp
      rw [LF.out.e2]
      clear a0 a1 a2 a3 f0 f1 f2 f3
      refine hK.out _ _ LF.out.g2 (fun hHeld => ?_)
      clear hK K
      try simp only [Act.put, List.getElem_toArray, List.getElem_cons_zero, List.getElem_cons_succ, List.setIfInBounds_toArray, List.set_cons_zero, List.set_cons_succ]
      refine wpAnyH_done (by kernel_rfl) ?_ _
      go_wp2_with fail
      go_meet
      exact ⟨A, X, va, vc, na, nc, ka, kc, xa, xc, xd, xe, rfl, rfl, rfl, LF.out.b1, LF.out.b2, TVA, TVN, TCX, TXT, LF.out.g2⟩
    refine AllReadyH.cons (i := 6) (o := _) rfl (fun K hK => ?_) ?_
    rotate_left
    ·
     exact AllReadyH.nil
    go_simp
    have GC : Hid (Chg (fun _ => False) w3 v2) := hide (GW.out)
    have GA := (al v2 (.cells #[.int .i64 0, .slice none 0 0, .slice none 0 0] 66))
    have BA : Hid ((v2.alloc (.cells #[.int .i64 0, .slice none 0 0, .slice none 0 0] 66)).heap[v2.heap.size]? = some (.cells #[.int .i64 0, .slice none 0 0, .slice none 0 0] 66)) := hide (blk_new v2 (.cells #[.int .i64 0, .slice none 0 0, .slice none 0 0] 66))
    have GW : Hid (Chg (fun _ => False) w3 (v2.alloc (.cells #[.int .i64 0, .slice none 0 0, .slice none 0 0] 66))) := hide (GC.out.trans GA)
    have TVA := hide (TVA.out.chg GA (fun _ _ h => h))
    have TVN := hide (TVN.out.chg GA (fun _ _ h => h))
    have BX := hide (GA.blk (fun h => h) BX.out)
    have S3 : Hid (v2.heap.size < (v2.alloc (.cells #[.int .i64 0, .slice none 0 0, .slice none 0 0] 66)).heap.size) := hide (blk_lt BA.out)
    clear GA GC
    go_simp
    refine hK.out _ _ GW (fun hHeld => ?_)
    clear hK K
    try simp only [Act.put, List.getElem_toArray, List.getElem_cons_zero, List.getElem_cons_succ, List.setIfInBounds_toArray, List.set_cons_zero, List.set_cons_succ]
    obtain ⟨A, hA⟩ : ∃ A, v2.heap.size = A := ⟨_, rfl⟩
    have HA := hide hA
    rw [hA] at BA ⊢
    clear hA
    generalize (v2.alloc (.cells #[.int .i64 0, .slice none 0 0, .slice none 0 0] 66)) = v3 at *
    refine wpAnyH_ready (rs := [3]) (by kernel_rfl) (by simp) ?_
    refine AllReadyH.cons (i := 3) (o := _) rfl (fun K hK => ?_) ?_
    rotate_left
    ·
     exact AllReadyH.nil
    go_simp
    have GC : Hid (Chg (fun _ => False) w3 v3) := hide (GW.out)
    refine (types_any cx (by have := SW.out.2.2; omega) _ (fun x => x < v3.heap.size) v3 (fun _ h => h) ((X0.out.all GG.out).all GC.out)).mono ?_
    rintro e v4 ⟨⟨v', rfl, tv⟩, g'⟩
    obtain ⟨ka, kc, rfl, _⟩ := id tv
    have TVA := hide (TVA.out.chg g' (fun _ _ h => h))
    have TVN := hide (TVN.out.chg g' (fun _ _ h => h))
    have BA := hide (g'.blk (fun h => h) BA.out)
    have BX := hide (g'.blk (fun h => h) BX.out)
    have TCX : Hid (Ts v4 (fun x => v3.heap.size ≤ x ∧ x < v4.heap.size) (.slice ka cx.len kc) cx) := hide tv
    have GW : Hid (Chg (fun _ => False) w3 v4) := hide (GC.out.trans g')
    have S4 : Hid (v3.heap.size ≤ v4.heap.size) := hide g'.size
    clear g' tv GC
    go_simp
    refine hK.out _ _ GW (fun hHeld => ?_)
    clear hK K
    try simp only [Act.put, List.getElem_toArray, List.getElem_cons_zero, List.getElem_cons_succ, List.setIfInBounds_toArray, List.set_cons_zero, List.set_cons_succ]
    refine wpAnyH_ready (rs := [5]) (by kernel_rfl) (by simp) ?_
    refine AllReadyH.cons (i := 5) (o := _) rfl (fun K hK => ?_) ?_
    rotate_left
    ·
     exact AllReadyH.nil
    go_simp
    have GC : Hid (Chg (fun _ => False) w3 v4) := hide (GW.out)
    refine (to06_any (t0, t1, t2, t3) OKT.out _ (fun x => x < v4.heap.size) v4 (fun _ h => h) ((T0.out.all GG.out).all GC.out)).mono ?_
    rintro e v5 ⟨⟨v', rfl, tv⟩, g'⟩
    obtain ⟨xa, xc, xd, xe, rfl, _, _⟩ := id tv
    dsimp only [Tm.bs, Tm.kd, Tm.ix, Tm.ag]
    have TVA := hide (TVA.out.chg g' (fun _ _ h => h))
    have TVN := hide (TVN.out.chg g' (fun _ _ h => h))
    have TCX := hide (TCX.out.chg g' (fun _ _ h => h))
    have BA := hide (g'.blk (fun h => h) BA.out)
    have BX := hide (g'.blk (fun h => h) BX.out)
    have TXT : Hid (TV v5 (fun x => v4.heap.size ≤ x ∧ x < v5.heap.size) (.agg #[.slice xa t0.len xc, .int .i64 t1, .int .i64 t2, .slice xd t3.len xe]) (t0, t1, t2, t3)) := hide tv
    have GW : Hid (Chg (fun _ => False) w3 v5) := hide (GC.out.trans g')
    have S5 : Hid (v4.heap.size ≤ v5.heap.size) := hide g'.size
    clear g' tv GC
    go_simp
    refine hK.out _ _ GW (fun hHeld => ?_)
    clear hK K
    try simp only [Act.put, List.getElem_toArray, List.getElem_cons_zero, List.getElem_cons_succ, List.setIfInBounds_toArray, List.set_cons_zero, List.set_cons_succ]
    refine wpAnyH_ready (rs := [8]) (by kernel_rfl) (by simp) ?_
    refine AllReadyH.cons (i := 8) (o := _) rfl (fun K hK => ?_) ?_
    rotate_left
    ·
     exact AllReadyH.nil
    obtain ⟨u1, u2, LF⟩ := leaf_st (.int .i64 wn) (.slice va cs.len vc) (.slice na ms.len nc) (.slice xa t0.len xc) (.int .i64 t1) (.int .i64 t2) (.slice xd t3.len xe) (by have := S1.out; have := S2.out; have := S3.out; have := S4.out; have := S5.out; have := HA.out; have := HX.out; omega) (by have := S1.out; have := S2.out; have := S3.out; have := S4.out; have := S5.out; have := HA.out; have := HX.out; omega) (by have := S1.out; have := S2.out; have := S3.out; have := S4.out; have := S5.out; have := HA.out; have := HX.out; omega) BA.out BX.out GW.out
    have TVA := LF.mv _ _ _ TVA.out (fun x hx => by have := S1.out; have := S2.out; have := S3.out; have := S4.out; have := S5.out; have := HA.out; have := HX.out; omega)
    have TVN := LF.mv _ _ _ TVN.out (fun x hx => by have := S1.out; have := S2.out; have := S3.out; have := S4.out; have := S5.out; have := HA.out; have := HX.out; omega)
    have TCX := LF.mv _ _ _ TCX.out (fun x hx => by have := S1.out; have := S2.out; have := S3.out; have := S4.out; have := S5.out; have := HA.out; have := HX.out; omega)
    have TXT := LF.mvt _ _ _ TXT.out (fun x hx => by have := S1.out; have := S2.out; have := S3.out; have := S4.out; have := S5.out; have := HA.out; have := HX.out; omega)
    have GW := LF.g1
    obtain ⟨a0, a1, a2, f0, f1, f2⟩ := LF.ca
    have LF := hide LF
    clear BA BX HA HX
    go_simp
    rw [LF.out.e1]
    clear a0 a1 a2 f0 f1 f2
    refine hK.out _ _ GW (fun hHeld => ?_)
    clear hK K
    try simp only [Act.put, List.getElem_toArray, List.getElem_cons_zero, List.getElem_cons_succ, List.setIfInBounds_toArray, List.set_cons_zero, List.set_cons_succ]
    first
     | (refine wpAnyH_take (i := 9) (v := undef) rfl (by kernel_rfl) (by kernel_rfl) (by kernel_rfl) (fun _ _ _ h => h) (Or.inr ⟨by rfl, rfl⟩) (by assumption) ?_)
     | (refine wpAnyH_take (i := 9) (v := ?_) rfl (by kernel_rfl) (by kernel_rfl) (by kernel_rfl) (fun _ _ _ h => h) (Or.inl ⟨by rfl, ?_⟩) (by assumption) ?_
        rotate_left
        (intro w hSw
         (try dsimp only at hSw)
         (go_simp <;> with_reducible rfl)))
    try simp only [Act.put, List.getElem_toArray, List.getElem_cons_zero, List.getElem_cons_succ, List.setIfInBounds_toArray, List.set_cons_zero, List.set_cons_succ]
    refine wpAnyH_ready (rs := [10]) (by kernel_rfl) (by simp) ?_
    refine AllReadyH.cons (i := 10) (o := _) rfl (fun K hK => ?_) ?_
    rotate_left
    ·
     exact AllReadyH.nil
    as_aux_lemma =>
     obtain ⟨a0, a1, a2, a3, f0, f1, f2, f3⟩ := LF.out.cx
     go_simp
     rw [LF.out.e2]
     clear a0 a1 a2 a3 f0 f1 f2 f3
     refine hK.out _ _ LF.out.g2 (fun hHeld => ?_)
     clear hK K
     try simp only [Act.put, List.getElem_toArray, List.getElem_cons_zero, List.getElem_cons_succ, List.setIfInBounds_toArray, List.set_cons_zero, List.set_cons_succ]
     refine wpAnyH_done (by kernel_rfl) ?_ _
     go_wp2_with fail
     go_meet
     exact ⟨A, X, va, vc, na, nc, ka, kc, xa, xc, xd, xe, rfl, rfl, rfl, LF.out.b1, LF.out.b2, TVA, TVN, TCX, TXT, LF.out.g2⟩
   refine AllReadyH.cons (i := 6) (o := _) rfl (fun K hK => ?_) ?_
   rotate_left
   ·
    exact AllReadyH.nil
   go_simp
   have GC : Hid (Chg (fun _ => False) w3 v1) := hide (GW.out)
   have GA := (al v1 (.cells #[.int .i64 0, .slice none 0 0, .slice none 0 0] 66))
   have BA : Hid ((v1.alloc (.cells #[.int .i64 0, .slice none 0 0, .slice none 0 0] 66)).heap[v1.heap.size]? = some (.cells #[.int .i64 0, .slice none 0 0, .slice none 0 0] 66)) := hide (blk_new v1 (.cells #[.int .i64 0, .slice none 0 0, .slice none 0 0] 66))
   have GW : Hid (Chg (fun _ => False) w3 (v1.alloc (.cells #[.int .i64 0, .slice none 0 0, .slice none 0 0] 66))) := hide (GC.out.trans GA)
   have BX := hide (GA.blk (fun h => h) BX.out)
   have S2 : Hid (v1.heap.size < (v1.alloc (.cells #[.int .i64 0, .slice none 0 0, .slice none 0 0] 66)).heap.size) := hide (blk_lt BA.out)
   clear GA GC
   go_simp
   refine hK.out _ _ GW (fun hHeld => ?_)
   clear hK K
   try simp only [Act.put, List.getElem_toArray, List.getElem_cons_zero, List.getElem_cons_succ, List.setIfInBounds_toArray, List.set_cons_zero, List.set_cons_succ]
   obtain ⟨A, hA⟩ : ∃ A, v1.heap.size = A := ⟨_, rfl⟩
   have HA := hide hA
   rw [hA] at BA ⊢
   clear hA
   generalize (v1.alloc (.cells #[.int .i64 0, .slice none 0 0, .slice none 0 0] 66)) = v2 at *
   refine wpAnyH_ready (rs := [1]) (by kernel_rfl) (by simp) ?_
   refine AllReadyH.cons (i := 1) (o := _) rfl (fun K hK => ?_) ?_
   rotate_left
   ·
    exact AllReadyH.nil
   go_simp
   have GC : Hid (Chg (fun _ => False) w3 v2) := hide (GW.out)
   refine (world_any wn cs ms (by have := SW.out.1; omega) (by have := SW.out.2.1; omega) ca cc ma mc v2 ((C0.out.all GG.out).all GC.out) ((M0.out.all GG.out).all GC.out)).mono ?_
   rintro e v3 ⟨⟨va, vc, na, nc, rfl, tv1, tv2⟩, g'⟩
   have BA := hide (g'.blk (fun h => h) BA.out)
   have BX := hide (g'.blk (fun h => h) BX.out)
   have TVA : Hid (Ts v3 (fun x => v2.heap.size ≤ x ∧ x < v3.heap.size) (.slice va cs.len vc) cs) := hide tv1
   have TVN : Hid (Ts v3 (fun x => v2.heap.size ≤ x ∧ x < v3.heap.size) (.slice na ms.len nc) ms) := hide tv2
   have GW : Hid (Chg (fun _ => False) w3 v3) := hide (GC.out.trans g')
   have S3 : Hid (v2.heap.size ≤ v3.heap.size) := hide g'.size
   clear g' tv1 tv2 GC
   go_simp
   refine hK.out _ _ GW (fun hHeld => ?_)
   clear hK K
   try simp only [Act.put, List.getElem_toArray, List.getElem_cons_zero, List.getElem_cons_succ, List.setIfInBounds_toArray, List.set_cons_zero, List.set_cons_succ]
   refine wpAnyH_ready (rs := [3]) (by kernel_rfl) (by simp) ?_
   refine AllReadyH.cons (i := 3) (o := _) rfl (fun K hK => ?_) ?_
   rotate_left
   ·
    exact AllReadyH.nil
   go_simp
   have GC : Hid (Chg (fun _ => False) w3 v3) := hide (GW.out)
   refine (types_any cx (by have := SW.out.2.2; omega) _ (fun x => x < v3.heap.size) v3 (fun _ h => h) ((X0.out.all GG.out).all GC.out)).mono ?_
   rintro e v4 ⟨⟨v', rfl, tv⟩, g'⟩
   obtain ⟨ka, kc, rfl, _⟩ := id tv
   have TVA := hide (TVA.out.chg g' (fun _ _ h => h))
   have TVN := hide (TVN.out.chg g' (fun _ _ h => h))
   have BA := hide (g'.blk (fun h => h) BA.out)
   have BX := hide (g'.blk (fun h => h) BX.out)
   have TCX : Hid (Ts v4 (fun x => v3.heap.size ≤ x ∧ x < v4.heap.size) (.slice ka cx.len kc) cx) := hide tv
   have GW : Hid (Chg (fun _ => False) w3 v4) := hide (GC.out.trans g')
   have S4 : Hid (v3.heap.size ≤ v4.heap.size) := hide g'.size
   clear g' tv GC
   go_simp
   refine hK.out _ _ GW (fun hHeld => ?_)
   clear hK K
   try simp only [Act.put, List.getElem_toArray, List.getElem_cons_zero, List.getElem_cons_succ, List.setIfInBounds_toArray, List.set_cons_zero, List.set_cons_succ]
   refine wpAnyH_ready (rs := [5]) (by kernel_rfl) (by simp) ?_
   refine AllReadyH.cons (i := 5) (o := _) rfl (fun K hK => ?_) ?_
   rotate_left
   ·
    exact AllReadyH.nil
   go_simp
   have GC : Hid (Chg (fun _ => False) w3 v4) := hide (GW.out)
   refine (to06_any (t0, t1, t2, t3) OKT.out _ (fun x => x < v4.heap.size) v4 (fun _ h => h) ((T0.out.all GG.out).all GC.out)).mono ?_
   rintro e v5 ⟨⟨v', rfl, tv⟩, g'⟩
   obtain ⟨xa, xc, xd, xe, rfl, _, _⟩ := id tv
   dsimp only [Tm.bs, Tm.kd, Tm.ix, Tm.ag]
   have TVA := hide (TVA.out.chg g' (fun _ _ h => h))
   have TVN := hide (TVN.out.chg g' (fun _ _ h => h))
   have TCX := hide (TCX.out.chg g' (fun _ _ h => h))
   have BA := hide (g'.blk (fun h => h) BA.out)
   have BX := hide (g'.blk (fun h => h) BX.out)
   have TXT : Hid (TV v5 (fun x => v4.heap.size ≤ x ∧ x < v5.heap.size) (.agg #[.slice xa t0.len xc, .int .i64 t1, .int .i64 t2, .slice xd t3.len xe]) (t0, t1, t2, t3)) := hide tv
   have GW : Hid (Chg (fun _ => False) w3 v5) := hide (GC.out.trans g')
   have S5 : Hid (v4.heap.size ≤ v5.heap.size) := hide g'.size
   clear g' tv GC
   go_simp
   refine hK.out _ _ GW (fun hHeld => ?_)
   clear hK K
   try simp only [Act.put, List.getElem_toArray, List.getElem_cons_zero, List.getElem_cons_succ, List.setIfInBounds_toArray, List.set_cons_zero, List.set_cons_succ]
   refine wpAnyH_ready (rs := [8]) (by kernel_rfl) (by simp) ?_
   refine AllReadyH.cons (i := 8) (o := _) rfl (fun K hK => ?_) ?_
   rotate_left
   ·
    exact AllReadyH.nil
   obtain ⟨u1, u2, LF⟩ := leaf_st (.int .i64 wn) (.slice va cs.len vc) (.slice na ms.len nc) (.slice xa t0.len xc) (.int .i64 t1) (.int .i64 t2) (.slice xd t3.len xe) (by have := S1.out; have := S2.out; have := S3.out; have := S4.out; have := S5.out; have := HA.out; have := HX.out; omega) (by have := S1.out; have := S2.out; have := S3.out; have := S4.out; have := S5.out; have := HA.out; have := HX.out; omega) (by have := S1.out; have := S2.out; have := S3.out; have := S4.out; have := S5.out; have := HA.out; have := HX.out; omega) BA.out BX.out GW.out
   have TVA := LF.mv _ _ _ TVA.out (fun x hx => by have := S1.out; have := S2.out; have := S3.out; have := S4.out; have := S5.out; have := HA.out; have := HX.out; omega)
   have TVN := LF.mv _ _ _ TVN.out (fun x hx => by have := S1.out; have := S2.out; have := S3.out; have := S4.out; have := S5.out; have := HA.out; have := HX.out; omega)
   have TCX := LF.mv _ _ _ TCX.out (fun x hx => by have := S1.out; have := S2.out; have := S3.out; have := S4.out; have := S5.out; have := HA.out; have := HX.out; omega)
   have TXT := LF.mvt _ _ _ TXT.out (fun x hx => by have := S1.out; have := S2.out; have := S3.out; have := S4.out; have := S5.out; have := HA.out; have := HX.out; omega)
   have GW := LF.g1
   obtain ⟨a0, a1, a2, f0, f1, f2⟩ := LF.ca
   have LF := hide LF
   clear BA BX HA HX
   go_simp
   rw [LF.out.e1]
   clear a0 a1 a2 f0 f1 f2
   refine hK.out _ _ GW (fun hHeld => ?_)
   clear hK K
   try simp only [Act.put, List.getElem_toArray, List.getElem_cons_zero, List.getElem_cons_succ, List.setIfInBounds_toArray, List.set_cons_zero, List.set_cons_succ]
   first
    | (refine wpAnyH_take (i := 9) (v := undef) rfl (by kernel_rfl) (by kernel_rfl) (by kernel_rfl) (fun _ _ _ h => h) (Or.inr ⟨by rfl, rfl⟩) (by assumption) ?_)
    | (refine wpAnyH_take (i := 9) (v := ?_) rfl (by kernel_rfl) (by kernel_rfl) (by kernel_rfl) (fun _ _ _ h => h) (Or.inl ⟨by rfl, ?_⟩) (by assumption) ?_
       rotate_left
       (intro w hSw
        (try dsimp only at hSw)
        (go_simp <;> with_reducible rfl)))
   try simp only [Act.put, List.getElem_toArray, List.getElem_cons_zero, List.getElem_cons_succ, List.setIfInBounds_toArray, List.set_cons_zero, List.set_cons_succ]
   refine wpAnyH_ready (rs := [10]) (by kernel_rfl) (by simp) ?_
   refine AllReadyH.cons (i := 10) (o := _) rfl (fun K hK => ?_) ?_
   rotate_left
   ·
    exact AllReadyH.nil
   as_aux_lemma =>
    obtain ⟨a0, a1, a2, a3, f0, f1, f2, f3⟩ := LF.out.cx
    go_simp
    rw [LF.out.e2]
    clear a0 a1 a2 a3 f0 f1 f2 f3
    refine hK.out _ _ LF.out.g2 (fun hHeld => ?_)
    clear hK K
    try simp only [Act.put, List.getElem_toArray, List.getElem_cons_zero, List.getElem_cons_succ, List.setIfInBounds_toArray, List.set_cons_zero, List.set_cons_succ]
    refine wpAnyH_done (by kernel_rfl) ?_ _
    go_wp2_with fail
    go_meet
    exact ⟨A, X, va, vc, na, nc, ka, kc, xa, xc, xd, xe, rfl, rfl, rfl, LF.out.b1, LF.out.b2, TVA, TVN, TCX, TXT, LF.out.g2⟩
 case rest =>
 obtain ⟨A, X, va, vc, na, nc, ka, kc, xa, xc, xd, xe, rfl, rfl, rfl, BA, BX, TVA, TVN, TCX, TXT, GO⟩ := hcut
 generalize wc = w4 at *
 replace GG := hide (GG.out.trans GO.out)
 replace BT := hide (GO.out.blk (fun h => h) BT.out)
 clear BW GO
 have z0 : w4.cell? ⟨X, 0, none⟩ = some (.slice xa t0.len xc) := blk_cell BX.out 0
 have z1 : w4.cell? ⟨X, 1, none⟩ = some (.int .i64 t1) := blk_cell BX.out 1
 have z2 : w4.cell? ⟨X, 2, none⟩ = some (.int .i64 t2) := blk_cell BX.out 2
 have z3 : w4.cell? ⟨X, 3, none⟩ = some (.slice xd t3.len xe) := blk_cell BX.out 3
 have CL := hide (close_any (t0, t1, t2, t3) cx OKY.out _ _ (fun x => x < w4.heap.size) w4 (fun _ h => h) TXT.out TCX.out)
 go_wp2_with fail
 refine CL.out.mono ?_
 rintro e w5 ⟨⟨v', rfl, tv⟩, g5⟩
 obtain ⟨ya, yc, yd, ye, rfl, _, _⟩ := id tv
 dsimp only [Tm.bs, Tm.kd, Tm.ix, Tm.ag]
 have GA := al w5 (.cells #[.slice ya (cx.app t0).len yc, .int .i64 t1, .int .i64 t2, .slice yd t3.len ye] 35)
 have bo := blk_new w5 (.cells #[.slice ya (cx.app t0).len yc, .int .i64 t1, .int .i64 t2, .slice yd t3.len ye] 35)
 have g' := g5.trans GA
 replace GG := hide (GG.out.trans g')
 replace BT := hide (g'.blk (fun h => h) BT.out)
 replace BA := hide (g'.blk (fun h => h) BA.out)
 replace BX := hide (g'.blk (fun h => h) BX.out)
 replace TVA := hide (TVA.out.all g')
 replace TVN := hide (TVN.out.all g')
 replace TCX := hide (TCX.out.all g')
 replace TXT := hide (TXT.out.all g')
 have TYY : Hid (TV _ _ (.agg #[.slice ya (cx.app t0).len yc, .int .i64 t1, .int .i64 t2, .slice yd t3.len ye]) (cx.app t0, t1, t2, t3)) := hide ((tv.up (Y := fun x => x < w5.heap.size) (fun x hx => hx.2)).all GA)
 have BY := hide bo
 clear z0 z1 z2 z3 CL tv g5 GA bo g'
 go_upto_region 5 with fail
 obtain ⟨Y, hY⟩ : ∃ Y, w5.heap.size = Y := ⟨_, rfl⟩
 rw [hY] at BY
 try rw [hY]
 clear hY
 generalize w5.alloc (.cells #[.slice ya (cx.app t0).len yc, .int .i64 t1, .int .i64 t2, .slice yd t3.len ye] 35) = w6 at *
 have z0 : w6.cell? ⟨P + 1, 0, none⟩ = some (.slice pa t0.len pc) := blk_cell BT.out 0
 have z1 : w6.cell? ⟨P + 1, 1, none⟩ = some (.int .i64 t1) := blk_cell BT.out 1
 have z2 : w6.cell? ⟨P + 1, 2, none⟩ = some (.int .i64 t2) := blk_cell BT.out 2
 have z3 : w6.cell? ⟨P + 1, 3, none⟩ = some (.slice pd t3.len pe) := blk_cell BT.out 3
 have GA := hide (al w6 (.cells #[.slice pa t0.len pc, .int .i64 t1, .int .i64 t2, .slice pd t3.len pe] 27))
 have BQ := hide (blk_new w6 (.cells #[.slice pa t0.len pc, .int .i64 t1, .int .i64 t2, .slice pd t3.len pe] 27))
 have d0 := GA.out.cell (fun h => h) z0
 have XX := hide (X0.out.all GG.out)
 have TT := hide (tv_rows (T0.out.all GG.out))
 have BH := hide (behind_any cx t0 (by have := SW.out.2.2; have := ST.out; have := Fs.len_size cx; have := Fs.len_size t0; omega) (.slice xa' cx.len xc') (.slice pa t0.len pc) (fun x => x < w6.heap.size) (w6.alloc (.cells #[.slice pa t0.len pc, .int .i64 t1, .int .i64 t2, .slice pd t3.len pe] 27)) (fun x h => Nat.lt_of_lt_of_le h GA.out.size) (XX.out.chg GA.out (fun _ _ h => h)) (TT.out.1.chg GA.out (fun _ _ h => h)))
 go_upto_region 6 with fail
 obtain ⟨Q, hQ⟩ : ∃ Q, w6.heap.size = Q := ⟨_, rfl⟩
 have HQ := hide hQ
 rw [hQ] at BQ
 try rw [hQ]
 clear hQ z0 z1 z2 z3
 generalize w6.alloc (.cells #[.slice pa t0.len pc, .int .i64 t1, .int .i64 t2, .slice pd t3.len pe] 27) = w7 at *
 go_wp2_with fail
 refine BH.out.mono ?_
 rintro e w8 ⟨⟨v', rfl, tv⟩, g8⟩
 obtain ⟨ba, bc, rfl, _⟩ := id tv
 have bq := g8.blk (fun h => h) BQ.out
 have y0 := blk_cell bq 0
 have fy0 := blk_free bq 0
 simp only [List.getElem?_toArray, List.getElem?_cons_zero] at y0
 have S0 := blk_set bq 0 (.slice ba (cx.app t0).len bc)
 simp only [List.setIfInBounds_toArray, List.set_cons_zero] at S0
 have C0' := Chg.set w8 Q 0 (.slice ba (cx.app t0).len bc)
 have SQ := hide (show Q < w7.heap.size from blk_lt BQ.out)
 have G9 : Hid (Chg (fun _ => False) w6 (w8.setCell ⟨Q, 0, none⟩ (.slice ba (cx.app t0).len bc))) := hide (((GA.out.trans g8).none.trans (C0'.mono (T := fun x => w6.heap.size ≤ x) (fun x _ e => by have := HQ.out; omega))).mono (fun x hx e => by omega))
 have TQ : Hid (Ts (w8.setCell ⟨Q, 0, none⟩ (.slice ba (cx.app t0).len bc)) (fun x => x < (w8.setCell ⟨Q, 0, none⟩ (.slice ba (cx.app t0).len bc)).heap.size) (.slice ba (cx.app t0).len bc) (cx.app t0)) := hide ((tv.chg C0' (fun x hx e => by have := HQ.out; have := SQ.out; rcases hx with hx | hx <;> omega)).up (fun x hx => Nat.lt_of_lt_of_le (by have := g8.size; have := GA.out.size; rcases hx with hx | hx <;> omega) C0'.size))
 have BQ2 := hide S0
 clear d0 BH tv g8 bq S0 C0' GA BQ SQ
 go_upto_region 7 with fail
 clear y0 fy0
 generalize w8.setCell ⟨Q, 0, none⟩ (.slice ba (cx.app t0).len bc) = w9 at *
 have TWT : Hid (TV w9 (fun x => x < w9.heap.size) (.agg #[.slice ba (cx.app t0).len bc, .int .i64 t1, .int .i64 t2, .slice pd t3.len pe]) (cx.app t0, t1, t2, t3)) := hide ⟨_, _, _, _, rfl, TQ.out, TT.out.2.all G9.out⟩
 replace GG := hide (GG.out.trans G9.out)
 replace BT := hide (G9.out.blk (fun h => h) BT.out)
 replace BA := hide (G9.out.blk (fun h => h) BA.out)
 replace BX := hide (G9.out.blk (fun h => h) BX.out)
 replace BY := hide (G9.out.blk (fun h => h) BY.out)
 replace TVA := hide (TVA.out.all G9.out)
 replace TVN := hide (TVN.out.all G9.out)
 replace TCX := hide (TCX.out.all G9.out)
 replace TXT := hide (TXT.out.all G9.out)
 replace TYY := hide (TYY.out.all G9.out)
 clear G9 TQ XX TT HQ
 have z0 : w9.cell? ⟨Y, 0, none⟩ = some (.slice ya (cx.app t0).len yc) := blk_cell BY.out 0
 have z1 : w9.cell? ⟨Y, 1, none⟩ = some (.int .i64 t1) := blk_cell BY.out 1
 have z2 : w9.cell? ⟨Y, 2, none⟩ = some (.int .i64 t2) := blk_cell BY.out 2
 have z3 : w9.cell? ⟨Y, 3, none⟩ = some (.slice yd t3.len ye) := blk_cell BY.out 3
 have OP := hide (open_any (cx.app t0, t1, t2, t3) OKY.out (cx.len : Int) _ w9 TYY.out)
 rw [open_close] at OP
 go_wp2_with fail
 refine OP.out.mono ?_
 rintro e w10 ⟨⟨v', vl, rfl, tv, tl⟩, g⟩
 obtain ⟨za, zc, zd, ze, rfl, _, _⟩ := id tv
 obtain ⟨la, lc, rfl, _⟩ := id tl
 dsimp only [Tm.bs, Tm.kd, Tm.ix, Tm.ag]
 have GA := al w10 (.cells #[.slice za t0.len zc, .int .i64 t1, .int .i64 t2, .slice zd t3.len ze] 35)
 have bo := blk_new w10 (.cells #[.slice za t0.len zc, .int .i64 t1, .int .i64 t2, .slice zd t3.len ze] 35)
 have g' := g.trans GA
 replace GG := hide (GG.out.trans g')
 replace BT := hide (g'.blk (fun h => h) BT.out)
 replace BA := hide (g'.blk (fun h => h) BA.out)
 replace BX := hide (g'.blk (fun h => h) BX.out)
 replace BY := hide (g'.blk (fun h => h) BY.out)
 replace BQ2 := hide (g'.blk (fun h => h) BQ2.out)
 replace TVA := hide (TVA.out.all g')
 replace TVN := hide (TVN.out.all g')
 replace TCX := hide (TCX.out.all g')
 replace TXT := hide (TXT.out.all g')
 replace TYY := hide (TYY.out.all g')
 replace TWT := hide (TWT.out.all g')
 have TZZ : Hid (TV _ _ (.agg #[.slice za t0.len zc, .int .i64 t1, .int .i64 t2, .slice zd t3.len ze]) (t0, t1, t2, t3)) := hide (tv.all GA)
 have TLL : Hid (Ts _ _ (.slice la cx.len lc) cx) := hide (tl.all GA)
 have BZ := hide bo
 clear z0 z1 z2 z3 OP tv tl g GA bo g'
 go_upto_region 8 with fail
 obtain ⟨Z, hZ⟩ : ∃ Z, w10.heap.size = Z := ⟨_, rfl⟩
 rw [hZ] at BZ
 try rw [hZ]
 clear hZ
 generalize w10.alloc (.cells #[.slice za t0.len zc, .int .i64 t1, .int .i64 t2, .slice zd t3.len ze] 35) = w11 at *
 have z0 : w11.cell? ⟨X, 0, none⟩ = some (.slice xa t0.len xc) := blk_cell BX.out 0
 have z1 : w11.cell? ⟨X, 1, none⟩ = some (.int .i64 t1) := blk_cell BX.out 1
 have z2 : w11.cell? ⟨X, 2, none⟩ = some (.int .i64 t2) := blk_cell BX.out 2
 have z3 : w11.cell? ⟨X, 3, none⟩ = some (.slice xd t3.len xe) := blk_cell BX.out 3
 have OP := hide (open_any (t0, t1, t2, t3) OKT.out q _ w11 TXT.out)
 obtain ⟨⟨⟨u0, u1, u2, u3⟩, um, uf⟩, hRES⟩ : ∃ RES, openG (t0, t1, t2, t3) q = RES := ⟨_, rfl⟩
 rw [hRES] at OP
 have HRES := hide hRES
 clear hRES
 go_wp2_with fail
 refine OP.out.mono ?_
 rintro e w12 ⟨⟨v', vl, rfl, tv, tl⟩, g⟩
 obtain ⟨ua, uc, ud, ue, rfl, _, _⟩ := id tv
 obtain ⟨ka', kc', rfl, _⟩ := id tl
 dsimp only [Tm.bs, Tm.kd, Tm.ix, Tm.ag]
 have GA := al w12 (.cells #[.slice ua u0.len uc, .int .i64 u1, .int .i64 u2, .slice ud u3.len ue] 35)
 have bo := blk_new w12 (.cells #[.slice ua u0.len uc, .int .i64 u1, .int .i64 u2, .slice ud u3.len ue] 35)
 have g' := g.trans GA
 replace GG := hide (GG.out.trans g')
 replace BT := hide (g'.blk (fun h => h) BT.out)
 replace BA := hide (g'.blk (fun h => h) BA.out)
 replace BX := hide (g'.blk (fun h => h) BX.out)
 replace BY := hide (g'.blk (fun h => h) BY.out)
 replace BQ2 := hide (g'.blk (fun h => h) BQ2.out)
 replace BZ := hide (g'.blk (fun h => h) BZ.out)
 replace TVA := hide (TVA.out.all g')
 replace TVN := hide (TVN.out.all g')
 replace TCX := hide (TCX.out.all g')
 replace TXT := hide (TXT.out.all g')
 replace TYY := hide (TYY.out.all g')
 replace TWT := hide (TWT.out.all g')
 replace TZZ := hide (TZZ.out.all g')
 replace TLL := hide (TLL.out.all g')
 have TUU : Hid (TV _ _ (.agg #[.slice ua u0.len uc, .int .i64 u1, .int .i64 u2, .slice ud u3.len ue]) (u0, u1, u2, u3)) := hide (tv.all GA)
 have TMM : Hid (Ts _ _ (.slice ka' um.len kc') um) := hide (tl.all GA)
 have BU := hide bo
 clear z0 z1 z2 z3 OP tv tl g GA bo g'
 go_upto_region 9 with fail
 obtain ⟨U, hU⟩ : ∃ U, w12.heap.size = U := ⟨_, rfl⟩
 rw [hU] at BU
 try rw [hU]
 clear hU
 generalize w12.alloc (.cells #[.slice ua u0.len uc, .int .i64 u1, .int .i64 u2, .slice ud u3.len ue] 35) = w13 at *
 go_cut [87] (fun s wx => s = .bool false ∧ Hid (Chg (fun _ => False) w13 wx))
 case first =>
  as_aux_lemma =>
   refine wp_region_held_drew (S := fun w' => Hid (Chg (fun _ => False) w13 w')) (by kernel_rfl) (hide (Chg.refl (fun _ => False) w13).drew) (fun hHeld => ?_)
   refine wpAnyH_take (i := 0) (v := ?_) rfl (by kernel_rfl) (by kernel_rfl) (by kernel_rfl) (fun _ _ _ h => h) (Or.inl ⟨by rfl, ?_⟩) (by assumption) ?_
   rotate_left
   (intro w' hSw
    replace hSw := hSw.out
    have r0 : w'.cell? ⟨Y, 0, none⟩ = some (.slice ya (cx.app t0).len yc) := blk_cell (hSw.blk (fun h => h) BY.out) 0
    have r1 : w'.cell? ⟨Y, 1, none⟩ = some (.int .i64 t1) := blk_cell (hSw.blk (fun h => h) BY.out) 1
    have r2 : w'.cell? ⟨Y, 2, none⟩ = some (.int .i64 t2) := blk_cell (hSw.blk (fun h => h) BY.out) 2
    have r3 : w'.cell? ⟨Y, 3, none⟩ = some (.slice yd t3.len ye) := blk_cell (hSw.blk (fun h => h) BY.out) 3
    clear hSw
    (go_simp <;> with_reducible rfl))
   try simp only [Act.put, List.getElem_toArray, List.getElem_cons_zero, List.getElem_cons_succ, List.setIfInBounds_toArray, List.set_cons_zero, List.set_cons_succ]
   refine wpAnyH_take (i := 2) (v := ?_) rfl (by kernel_rfl) (by kernel_rfl) (by kernel_rfl) (fun _ _ _ h => h) (Or.inl ⟨by rfl, ?_⟩) (by assumption) ?_
   rotate_left
   (intro w' hSw
    replace hSw := hSw.out
    have r0 : w'.cell? ⟨Q, 0, none⟩ = some (.slice ba (cx.app t0).len bc) := blk_cell (hSw.blk (fun h => h) BQ2.out) 0
    have r1 : w'.cell? ⟨Q, 1, none⟩ = some (.int .i64 t1) := blk_cell (hSw.blk (fun h => h) BQ2.out) 1
    have r2 : w'.cell? ⟨Q, 2, none⟩ = some (.int .i64 t2) := blk_cell (hSw.blk (fun h => h) BQ2.out) 2
    have r3 : w'.cell? ⟨Q, 3, none⟩ = some (.slice pd t3.len pe) := blk_cell (hSw.blk (fun h => h) BQ2.out) 3
    clear hSw
    (go_simp <;> with_reducible rfl))
   try simp only [Act.put, List.getElem_toArray, List.getElem_cons_zero, List.getElem_cons_succ, List.setIfInBounds_toArray, List.set_cons_zero, List.set_cons_succ]
   refine wpAnyH_ready (rs := [1]) (by kernel_rfl) (by simp) ?_
   refine AllReadyH.cons (i := 1) (o := _) rfl (fun K hK => ?_) ?_
   rotate_left
   ·
    exact AllReadyH.nil
   go_simp
   have GC : Hid (Chg (fun _ => False) w13 w13.drew) := hide ((Chg.refl (fun _ => False) w13).drew)
   refine (of06_any (cx.app t0, t1, t2, t3) OKY.out _ (fun x => x < w13.drew.heap.size) w13.drew (fun x h => h) (TYY.out.all GC.out)).mono ?_
   rintro e c1 ⟨⟨v', rfl, tv⟩, g'⟩
   obtain ⟨oaa, oac, oad, oae, rfl, _, _⟩ := id tv
   dsimp only [Tm.bs, Tm.kd, Tm.ix, Tm.ag]
   have GW : Hid (Chg (fun _ => False) w13 c1) := hide (GC.out.trans g')
   have TO := hide (tv.up (Y := fun x => x < c1.heap.size) (fun x hx => hx.2))
   clear tv
   clear g' GC
   go_simp
   refine hK.out _ _ GW (fun hHeld => ?_)
   clear hK K
   try simp only [Act.put, List.getElem_toArray, List.getElem_cons_zero, List.getElem_cons_succ, List.setIfInBounds_toArray, List.set_cons_zero, List.set_cons_succ]
   refine wpAnyH_ready (rs := [3]) (by kernel_rfl) (by simp) ?_
   refine AllReadyH.cons (i := 3) (o := _) rfl (fun K hK => ?_) ?_
   rotate_left
   ·
    exact AllReadyH.nil
   go_simp
   have GC : Hid (Chg (fun _ => False) w13 c1) := hide (GW.out)
   refine (same06_any (cx.app t0, t1, t2, t3) OKY.out _ _ (fun x => x < c1.heap.size) c1 (fun x h => h) TO.out (TWT.out.all GC.out)).mono ?_
   rintro e c2 ⟨rfl, g'⟩
   have GW : Hid (Chg (fun _ => False) w13 c2) := hide (GC.out.trans g')
   clear g' GC
   go_simp
   refine hK.out _ _ GW (fun hHeld => ?_)
   clear hK K
   try simp only [Act.put, List.getElem_toArray, List.getElem_cons_zero, List.getElem_cons_succ, List.setIfInBounds_toArray, List.set_cons_zero, List.set_cons_succ]
   first
    | (refine wpAnyH_take (i := 4) (v := undef) rfl (by kernel_rfl) (by kernel_rfl) (by kernel_rfl) (fun _ _ _ h => h) (Or.inr ⟨by rfl, rfl⟩) (by assumption) ?_)
    | (refine wpAnyH_take (i := 4) (v := ?_) rfl (by kernel_rfl) (by kernel_rfl) (by kernel_rfl) (fun _ _ _ h => h) (Or.inl ⟨by rfl, ?_⟩) (by assumption) ?_
       rotate_left
       (intro w hSw
        (try dsimp only at hSw)
        (go_simp <;> with_reducible rfl)))
   try simp only [Act.put, List.getElem_toArray, List.getElem_cons_zero, List.getElem_cons_succ, List.setIfInBounds_toArray, List.set_cons_zero, List.set_cons_succ]
   first
    | (refine wpAnyH_take (i := 5) (v := undef) rfl (by kernel_rfl) (by kernel_rfl) (by kernel_rfl) (fun _ _ _ h => h) (Or.inr ⟨by rfl, rfl⟩) (by assumption) ?_)
    | (refine wpAnyH_take (i := 5) (v := ?_) rfl (by kernel_rfl) (by kernel_rfl) (by kernel_rfl) (fun _ _ _ h => h) (Or.inl ⟨by rfl, ?_⟩) (by assumption) ?_
       rotate_left
       (intro w hSw
        (try dsimp only at hSw)
        (go_simp <;> with_reducible rfl)))
   try simp only [Act.put, List.getElem_toArray, List.getElem_cons_zero, List.getElem_cons_succ, List.setIfInBounds_toArray, List.set_cons_zero, List.set_cons_succ]
   first
    | (refine wpAnyH_take (i := 6) (v := undef) rfl (by kernel_rfl) (by kernel_rfl) (by kernel_rfl) (fun _ _ _ h => h) (Or.inr ⟨by rfl, rfl⟩) (by assumption) ?_)
    | (refine wpAnyH_take (i := 6) (v := ?_) rfl (by kernel_rfl) (by kernel_rfl) (by kernel_rfl) (fun _ _ _ h => h) (Or.inl ⟨by rfl, ?_⟩) (by assumption) ?_
       rotate_left
       (intro w hSw
        (try dsimp only at hSw)
        (go_simp <;> with_reducible rfl)))
   try simp only [Act.put, List.getElem_toArray, List.getElem_cons_zero, List.getElem_cons_succ, List.setIfInBounds_toArray, List.set_cons_zero, List.set_cons_succ]
   first
    | (refine wpAnyH_take (i := 7) (v := undef) rfl (by kernel_rfl) (by kernel_rfl) (by kernel_rfl) (fun _ _ _ h => h) (Or.inr ⟨by rfl, rfl⟩) (by assumption) ?_)
    | (refine wpAnyH_take (i := 7) (v := ?_) rfl (by kernel_rfl) (by kernel_rfl) (by kernel_rfl) (fun _ _ _ h => h) (Or.inl ⟨by rfl, ?_⟩) (by assumption) ?_
       rotate_left
       (intro w hSw
        (try dsimp only at hSw)
        (go_simp <;> with_reducible rfl)))
   try simp only [Act.put, List.getElem_toArray, List.getElem_cons_zero, List.getElem_cons_succ, List.setIfInBounds_toArray, List.set_cons_zero, List.set_cons_succ]
   first
    | (refine wpAnyH_take (i := 8) (v := undef) rfl (by kernel_rfl) (by kernel_rfl) (by kernel_rfl) (fun _ _ _ h => h) (Or.inr ⟨by rfl, rfl⟩) (by assumption) ?_)
    | (refine wpAnyH_take (i := 8) (v := ?_) rfl (by kernel_rfl) (by kernel_rfl) (by kernel_rfl) (fun _ _ _ h => h) (Or.inl ⟨by rfl, ?_⟩) (by assumption) ?_
       rotate_left
       (intro w hSw
        (try dsimp only at hSw)
        (go_simp <;> with_reducible rfl)))
   try simp only [Act.put, List.getElem_toArray, List.getElem_cons_zero, List.getElem_cons_succ, List.setIfInBounds_toArray, List.set_cons_zero, List.set_cons_succ]
   first
    | (refine wpAnyH_take (i := 9) (v := undef) rfl (by kernel_rfl) (by kernel_rfl) (by kernel_rfl) (fun _ _ _ h => h) (Or.inr ⟨by rfl, rfl⟩) (by assumption) ?_)
    | (refine wpAnyH_take (i := 9) (v := ?_) rfl (by kernel_rfl) (by kernel_rfl) (by kernel_rfl) (fun _ _ _ h => h) (Or.inl ⟨by rfl, ?_⟩) (by assumption) ?_
       rotate_left
       (intro w hSw
        (try dsimp only at hSw)
        (go_simp <;> with_reducible rfl)))
   try simp only [Act.put, List.getElem_toArray, List.getElem_cons_zero, List.getElem_cons_succ, List.setIfInBounds_toArray, List.set_cons_zero, List.set_cons_succ]
   refine wpAnyH_take (i := 10) (v := ?_) rfl (by kernel_rfl) (by kernel_rfl) (by kernel_rfl) (fun _ _ _ h => h) (Or.inl ⟨by rfl, ?_⟩) (by assumption) ?_
   rotate_left
   (intro w' hSw
    replace hSw := hSw.out
    have r0 : w'.cell? ⟨Z, 0, none⟩ = some (.slice za t0.len zc) := blk_cell (hSw.blk (fun h => h) BZ.out) 0
    have r1 : w'.cell? ⟨Z, 1, none⟩ = some (.int .i64 t1) := blk_cell (hSw.blk (fun h => h) BZ.out) 1
    have r2 : w'.cell? ⟨Z, 2, none⟩ = some (.int .i64 t2) := blk_cell (hSw.blk (fun h => h) BZ.out) 2
    have r3 : w'.cell? ⟨Z, 3, none⟩ = some (.slice zd t3.len ze) := blk_cell (hSw.blk (fun h => h) BZ.out) 3
    clear hSw
    (go_simp <;> with_reducible rfl))
   try simp only [Act.put, List.getElem_toArray, List.getElem_cons_zero, List.getElem_cons_succ, List.setIfInBounds_toArray, List.set_cons_zero, List.set_cons_succ]
   refine wpAnyH_take (i := 12) (v := ?_) rfl (by kernel_rfl) (by kernel_rfl) (by kernel_rfl) (fun _ _ _ h => h) (Or.inl ⟨by rfl, ?_⟩) (by assumption) ?_
   rotate_left
   (intro w' hSw
    replace hSw := hSw.out
    have r0 : w'.cell? ⟨(P + 1), 0, none⟩ = some (.slice pa t0.len pc) := blk_cell (hSw.blk (fun h => h) BT.out) 0
    have r1 : w'.cell? ⟨(P + 1), 1, none⟩ = some (.int .i64 t1) := blk_cell (hSw.blk (fun h => h) BT.out) 1
    have r2 : w'.cell? ⟨(P + 1), 2, none⟩ = some (.int .i64 t2) := blk_cell (hSw.blk (fun h => h) BT.out) 2
    have r3 : w'.cell? ⟨(P + 1), 3, none⟩ = some (.slice pd t3.len pe) := blk_cell (hSw.blk (fun h => h) BT.out) 3
    clear hSw
    (go_simp <;> with_reducible rfl))
   try simp only [Act.put, List.getElem_toArray, List.getElem_cons_zero, List.getElem_cons_succ, List.setIfInBounds_toArray, List.set_cons_zero, List.set_cons_succ]
   refine wpAnyH_ready (rs := [11]) (by kernel_rfl) (by simp) ?_
   refine AllReadyH.cons (i := 11) (o := _) rfl (fun K hK => ?_) ?_
   rotate_left
   ·
    exact AllReadyH.nil
   go_simp
   have GC : Hid (Chg (fun _ => False) w13 c2) := hide (GW.out)
   refine (of06_any (t0, t1, t2, t3) OKT.out _ (fun x => x < c2.heap.size) c2 (fun x h => h) (TZZ.out.all GC.out)).mono ?_
   rintro e c3 ⟨⟨v', rfl, tv⟩, g'⟩
   obtain ⟨oba, obc, obd, obe, rfl, _, _⟩ := id tv
   dsimp only [Tm.bs, Tm.kd, Tm.ix, Tm.ag]
   have GW : Hid (Chg (fun _ => False) w13 c3) := hide (GC.out.trans g')
   have TO := hide (tv.up (Y := fun x => x < c3.heap.size) (fun x hx => hx.2))
   clear tv
   clear g' GC
   go_simp
   refine hK.out _ _ GW (fun hHeld => ?_)
   clear hK K
   try simp only [Act.put, List.getElem_toArray, List.getElem_cons_zero, List.getElem_cons_succ, List.setIfInBounds_toArray, List.set_cons_zero, List.set_cons_succ]
   refine wpAnyH_ready (rs := [13]) (by kernel_rfl) (by simp) ?_
   refine AllReadyH.cons (i := 13) (o := _) rfl (fun K hK => ?_) ?_
   rotate_left
   ·
    exact AllReadyH.nil
   go_simp
   have GC : Hid (Chg (fun _ => False) w13 c3) := hide (GW.out)
   refine (same06_any (t0, t1, t2, t3) OKT.out _ _ (fun x => x < c3.heap.size) c3 (fun x h => h) TO.out ((T0.out.all GG.out).all GC.out)).mono ?_
   rintro e c4 ⟨rfl, g'⟩
   have GW : Hid (Chg (fun _ => False) w13 c4) := hide (GC.out.trans g')
   clear g' GC
   go_simp
   refine hK.out _ _ GW (fun hHeld => ?_)
   clear hK K
   try simp only [Act.put, List.getElem_toArray, List.getElem_cons_zero, List.getElem_cons_succ, List.setIfInBounds_toArray, List.set_cons_zero, List.set_cons_succ]
   first
    | (refine wpAnyH_take (i := 14) (v := undef) rfl (by kernel_rfl) (by kernel_rfl) (by kernel_rfl) (fun _ _ _ h => h) (Or.inr ⟨by rfl, rfl⟩) (by assumption) ?_)
    | (refine wpAnyH_take (i := 14) (v := ?_) rfl (by kernel_rfl) (by kernel_rfl) (by kernel_rfl) (fun _ _ _ h => h) (Or.inl ⟨by rfl, ?_⟩) (by assumption) ?_
       rotate_left
       (intro w hSw
        (try dsimp only at hSw)
        (go_simp <;> with_reducible rfl)))
   try simp only [Act.put, List.getElem_toArray, List.getElem_cons_zero, List.getElem_cons_succ, List.setIfInBounds_toArray, List.set_cons_zero, List.set_cons_succ]
   first
    | (refine wpAnyH_take (i := 15) (v := undef) rfl (by kernel_rfl) (by kernel_rfl) (by kernel_rfl) (fun _ _ _ h => h) (Or.inr ⟨by rfl, rfl⟩) (by assumption) ?_)
    | (refine wpAnyH_take (i := 15) (v := ?_) rfl (by kernel_rfl) (by kernel_rfl) (by kernel_rfl) (fun _ _ _ h => h) (Or.inl ⟨by rfl, ?_⟩) (by assumption) ?_
       rotate_left
       (intro w hSw
        (try dsimp only at hSw)
        (go_simp <;> with_reducible rfl)))
   try simp only [Act.put, List.getElem_toArray, List.getElem_cons_zero, List.getElem_cons_succ, List.setIfInBounds_toArray, List.set_cons_zero, List.set_cons_succ]
   first
    | (refine wpAnyH_take (i := 16) (v := undef) rfl (by kernel_rfl) (by kernel_rfl) (by kernel_rfl) (fun _ _ _ h => h) (Or.inr ⟨by rfl, rfl⟩) (by assumption) ?_)
    | (refine wpAnyH_take (i := 16) (v := ?_) rfl (by kernel_rfl) (by kernel_rfl) (by kernel_rfl) (fun _ _ _ h => h) (Or.inl ⟨by rfl, ?_⟩) (by assumption) ?_
       rotate_left
       (intro w hSw
        (try dsimp only at hSw)
        (go_simp <;> with_reducible rfl)))
   try simp only [Act.put, List.getElem_toArray, List.getElem_cons_zero, List.getElem_cons_succ, List.setIfInBounds_toArray, List.set_cons_zero, List.set_cons_succ]
   first
    | (refine wpAnyH_take (i := 17) (v := undef) rfl (by kernel_rfl) (by kernel_rfl) (by kernel_rfl) (fun _ _ _ h => h) (Or.inr ⟨by rfl, rfl⟩) (by assumption) ?_)
    | (refine wpAnyH_take (i := 17) (v := ?_) rfl (by kernel_rfl) (by kernel_rfl) (by kernel_rfl) (fun _ _ _ h => h) (Or.inl ⟨by rfl, ?_⟩) (by assumption) ?_
       rotate_left
       (intro w hSw
        (try dsimp only at hSw)
        (go_simp <;> with_reducible rfl)))
   try simp only [Act.put, List.getElem_toArray, List.getElem_cons_zero, List.getElem_cons_succ, List.setIfInBounds_toArray, List.set_cons_zero, List.set_cons_succ]
   first
    | (refine wpAnyH_take (i := 18) (v := undef) rfl (by kernel_rfl) (by kernel_rfl) (by kernel_rfl) (fun _ _ _ h => h) (Or.inr ⟨by rfl, rfl⟩) (by assumption) ?_)
    | (refine wpAnyH_take (i := 18) (v := ?_) rfl (by kernel_rfl) (by kernel_rfl) (by kernel_rfl) (fun _ _ _ h => h) (Or.inl ⟨by rfl, ?_⟩) (by assumption) ?_
       rotate_left
       (intro w hSw
        (try dsimp only at hSw)
        (go_simp <;> with_reducible rfl)))
   try simp only [Act.put, List.getElem_toArray, List.getElem_cons_zero, List.getElem_cons_succ, List.setIfInBounds_toArray, List.set_cons_zero, List.set_cons_succ]
   refine wpAnyH_ready (rs := [19]) (by kernel_rfl) (by simp) ?_
   refine AllReadyH.cons (i := 19) (o := _) rfl (fun K hK => ?_) ?_
   rotate_left
   ·
    exact AllReadyH.nil
   go_simp
   have GC : Hid (Chg (fun _ => False) w13 c4) := hide (GW.out)
   refine (types10_same cx (by have := SW.out.2.2; omega) _ _ (fun x => x < c4.heap.size) c4 (fun x h => h) (TLL.out.all GC.out) ((X0.out.all GG.out).all GC.out)).mono ?_
   rintro e c5 ⟨rfl, g'⟩
   have GW : Hid (Chg (fun _ => False) w13 c5) := hide (GC.out.trans g')
   clear g' GC
   go_simp
   refine hK.out _ _ GW (fun hHeld => ?_)
   clear hK K
   try simp only [Act.put, List.getElem_toArray, List.getElem_cons_zero, List.getElem_cons_succ, List.setIfInBounds_toArray, List.set_cons_zero, List.set_cons_succ]
   first
    | (refine wpAnyH_take (i := 20) (v := undef) rfl (by kernel_rfl) (by kernel_rfl) (by kernel_rfl) (fun _ _ _ h => h) (Or.inr ⟨by rfl, rfl⟩) (by assumption) ?_)
    | (refine wpAnyH_take (i := 20) (v := ?_) rfl (by kernel_rfl) (by kernel_rfl) (by kernel_rfl) (fun _ _ _ h => h) (Or.inl ⟨by rfl, ?_⟩) (by assumption) ?_
       rotate_left
       (intro w hSw
        (try dsimp only at hSw)
        (go_simp <;> with_reducible rfl)))
   try simp only [Act.put, List.getElem_toArray, List.getElem_cons_zero, List.getElem_cons_succ, List.setIfInBounds_toArray, List.set_cons_zero, List.set_cons_succ]
   first
    | (refine wpAnyH_take (i := 21) (v := undef) rfl (by kernel_rfl) (by kernel_rfl) (by kernel_rfl) (fun _ _ _ h => h) (Or.inr ⟨by rfl, rfl⟩) (by assumption) ?_)
    | (refine wpAnyH_take (i := 21) (v := ?_) rfl (by kernel_rfl) (by kernel_rfl) (by kernel_rfl) (fun _ _ _ h => h) (Or.inl ⟨by rfl, ?_⟩) (by assumption) ?_
       rotate_left
       (intro w hSw
        (try dsimp only at hSw)
        (go_simp <;> with_reducible rfl)))
   try simp only [Act.put, List.getElem_toArray, List.getElem_cons_zero, List.getElem_cons_succ, List.setIfInBounds_toArray, List.set_cons_zero, List.set_cons_succ]
   refine wpAnyH_done (by kernel_rfl) ?_ _
   go_wp2_with fail
   go_meet
   exact ⟨rfl, GW⟩
 case rest =>
 obtain ⟨rfl, GO⟩ := hcut
 generalize wc = w14 at *
 have g' := GO.out
 replace GG := hide (GG.out.trans g')
 replace BT := hide (g'.blk (fun h => h) BT.out)
 replace BA := hide (g'.blk (fun h => h) BA.out)
 replace BX := hide (g'.blk (fun h => h) BX.out)
 replace BY := hide (g'.blk (fun h => h) BY.out)
 replace BQ2 := hide (g'.blk (fun h => h) BQ2.out)
 replace BZ := hide (g'.blk (fun h => h) BZ.out)
 replace BU := hide (g'.blk (fun h => h) BU.out)
 replace TVA := hide (TVA.out.all g')
 replace TVN := hide (TVN.out.all g')
 replace TCX := hide (TCX.out.all g')
 replace TXT := hide (TXT.out.all g')
 replace TYY := hide (TYY.out.all g')
 replace TWT := hide (TWT.out.all g')
 replace TZZ := hide (TZZ.out.all g')
 replace TLL := hide (TLL.out.all g')
 replace TUU := hide (TUU.out.all g')
 replace TMM := hide (TMM.out.all g')
 clear g' GO
 have hbl := Fs.len_size t0
 have z0 : w14.cell? ⟨P + 1, 0, none⟩ = some (.slice pa t0.len pc) := blk_cell BT.out 0
 have z1 : w14.cell? ⟨P + 1, 1, none⟩ = some (.int .i64 t1) := blk_cell BT.out 1
 have z2 : w14.cell? ⟨P + 1, 2, none⟩ = some (.int .i64 t2) := blk_cell BT.out 2
 have z3 : w14.cell? ⟨P + 1, 3, none⟩ = some (.slice pd t3.len pe) := blk_cell BT.out 3
 by_cases hn : ¬ (0 ≤ q ∧ q ≤ t0.len)
 ·
  have EG : Hid (openG (t0, t1, t2, t3) q = ((.nil, 0, 0, .nil), .nil, 1)) := hide (by unfold openG; dsimp only [Tm.bs, Tm.kd, Tm.ix, Tm.ag]; rw [if_neg hn])
  have e := HRES.out.symm.trans EG.out
  injection e with e1 e2
  injection e2 with e2 e3
  injection e1 with e4 e5
  subst e2 e3
  clear e4 e5 EG
  rcases (show q < 0 ∨ (t0.len : Int) < q by omega) with n1 | n1
  ·
   clear hn
   go_upto_region 12 with fail
   clear n1 z0 z1 z2 z3
   go_wp2_with fail
   refine (known_any _).mono ?_
   rintro e w15 ⟨rfl, g5⟩
   have GF := hide (GG.out.trans g5)
   clear g5
   dsimp only [Fs.len]
   go_wp2_with fail
   go_ret
   exact ⟨rfl, GF.out⟩
  ·
   have n2 : ¬ q < 0 := by omega
   clear hn
   go_upto_region 12 with fail
   clear n1 z0 z1 z2 z3
   go_wp2_with fail
   refine (known_any _).mono ?_
   rintro e w15 ⟨rfl, g5⟩
   have GF := hide (GG.out.trans g5)
   clear g5
   dsimp only [Fs.len]
   go_wp2_with fail
   go_ret
   exact ⟨rfl, GF.out⟩
 replace hn := Decidable.not_not.1 hn
 obtain ⟨m, rfl⟩ : ∃ m : Nat, q = (m : Int) := ⟨q.toNat, by omega⟩
 have hm : m ≤ t0.len := by omega
 have EG : Hid (openG (t0, t1, t2, t3) (m : Int) = ((t0.from m, t1, t2, t3), t0.to m, 0)) := hide (by unfold openG; dsimp only [Tm.bs, Tm.kd, Tm.ix, Tm.ag]; rw [if_pos hn, Int.toNat_natCast])
 have e := HRES.out.symm.trans EG.out
 injection e with e1 e2
 injection e2 with e2 e3
 injection e1 with e4 e5
 injection e5 with e5 e6
 injection e6 with e6 e7
 obtain rfl := e5.symm
 obtain rfl := e6.symm
 obtain rfl := e7.symm
 subst e2 e3 e4
 have n1 : ¬ (m : Int) < 0 := by omega
 have n2 : ¬ (t0.len : Int) < (m : Int) := by omega
 have HFL := hide (Fs.from_len t0 m)
 have HTL := hide (Fs.to_len t0 m hm)
 clear hn EG HRES
 go_upto_region 13 with fail
 clear n1 n2
 have GA := hide (al w14 (.cells #[.slice pa t0.len pc, .int .i64 t1, .int .i64 t2, .slice pd t3.len pe] 27))
 have BK := hide (blk_new w14 (.cells #[.slice pa t0.len pc, .int .i64 t1, .int .i64 t2, .slice pd t3.len pe] 27))
 have TT := hide (tv_rows (T0.out.all GG.out))
 have rf0 := run_from22 pa t0.len pc m hm
 have rt0 := run_to22 pa t0.len pc m (by have := HCAP.out; omega)
 rw [← HFL.out] at rf0
 obtain ⟨ra, hra⟩ : ∃ ra, dropA pa pc m = ra := ⟨_, rfl⟩
 have TRR := hide (ts_from TT.out.1 HCAP.out m hm)
 rw [← HFL.out, hra] at TRR
 rw [hra] at rf0
 have TMR := hide (ts_to TT.out.1 m pc hm)
 clear hra
 have d0 := GA.out.cell (fun h => h) z0
 go_upto_region 14 with fail
 obtain ⟨K, hK⟩ : ∃ K, w14.heap.size = K := ⟨_, rfl⟩
 have HKK := hide hK
 rw [hK] at BK
 try rw [hK]
 clear hK z0 z1 z2 z3
 generalize w14.alloc (.cells #[.slice pa t0.len pc, .int .i64 t1, .int .i64 t2, .slice pd t3.len pe] 27) = w15 at *
 have y0 := blk_cell BK.out 0
 have fy0 := blk_free BK.out 0
 simp only [List.getElem?_toArray, List.getElem?_cons_zero] at y0
 have S0 := blk_set BK.out 0 (.slice ra (t0.from m).len (pc - m))
 simp only [List.setIfInBounds_toArray, List.set_cons_zero] at S0
 have C0' := Chg.set w15 K 0 (.slice ra (t0.from m).len (pc - m))
 have G9 : Hid (Chg (fun _ => False) w14 (w15.setCell ⟨K, 0, none⟩ (.slice ra (t0.from m).len (pc - m)))) := hide ((GA.out.none.trans (C0'.mono (T := fun x => w14.heap.size ≤ x) (fun x _ e => by have := HKK.out; omega))).mono (fun x hx e => by omega))
 have BK2 := hide S0
 have HRT := hide rt0
 clear S0 C0' GA BK rt0
 go_upto_region 15 with fail
 clear y0 fy0 d0 rf0
 generalize w15.setCell ⟨K, 0, none⟩ (.slice ra (t0.from m).len (pc - m)) = w16 at *
 have TRS : Hid (TV w16 (fun x => x < w16.heap.size) (.agg #[.slice ra (t0.from m).len (pc - m), .int .i64 t1, .int .i64 t2, .slice pd t3.len pe]) (t0.from m, t1, t2, t3)) := hide ⟨_, _, _, _, rfl, TRR.out.all G9.out, TT.out.2.all G9.out⟩
 have TMB : Hid (Ts w16 (fun x => x < w16.heap.size) (.slice pa m pc) (t0.to m)) := hide (TMR.out.all G9.out)
 replace GG := hide (GG.out.trans G9.out)
 replace BT := hide (G9.out.blk (fun h => h) BT.out)
 replace BA := hide (G9.out.blk (fun h => h) BA.out)
 replace BX := hide (G9.out.blk (fun h => h) BX.out)
 replace BY := hide (G9.out.blk (fun h => h) BY.out)
 replace BQ2 := hide (G9.out.blk (fun h => h) BQ2.out)
 replace BZ := hide (G9.out.blk (fun h => h) BZ.out)
 replace BU := hide (G9.out.blk (fun h => h) BU.out)
 replace TVA := hide (TVA.out.all G9.out)
 replace TVN := hide (TVN.out.all G9.out)
 replace TCX := hide (TCX.out.all G9.out)
 replace TXT := hide (TXT.out.all G9.out)
 replace TYY := hide (TYY.out.all G9.out)
 replace TWT := hide (TWT.out.all G9.out)
 replace TZZ := hide (TZZ.out.all G9.out)
 replace TLL := hide (TLL.out.all G9.out)
 replace TUU := hide (TUU.out.all G9.out)
 replace TMM := hide (TMM.out.all G9.out)
 clear G9 TT TRR TMR HKK
 have v0 : w16.cell? ⟨A, 0, none⟩ = some (.int .i64 wn) := blk_cell BA.out 0
 have v1 : w16.cell? ⟨A, 1, none⟩ = some (.slice va cs.len vc) := blk_cell BA.out 1
 have v2 : w16.cell? ⟨A, 2, none⟩ = some (.slice na ms.len nc) := blk_cell BA.out 2
 have z0 : w16.cell? ⟨X, 0, none⟩ = some (.slice xa t0.len xc) := blk_cell BX.out 0
 have z1 : w16.cell? ⟨X, 1, none⟩ = some (.int .i64 t1) := blk_cell BX.out 1
 have z2 : w16.cell? ⟨X, 2, none⟩ = some (.int .i64 t2) := blk_cell BX.out 2
 have z3 : w16.cell? ⟨X, 3, none⟩ = some (.slice xd t3.len xe) := blk_cell BX.out 3
 obtain ⟨R, hR⟩ : ∃ R, headG cs ms (cx.app t0) t1 t2 = R := ⟨_, rfl⟩
 have HR := hide hR
 have hcl := Fs.len_size cs
 have hml := Fs.len_size ms
 have hxl := Fs.len_size cx
 have hyl := Fs.app_size cx t0
 have HSZ : Hid (cs.len ≤ 1000000 ∧ ms.len ≤ 1000000 ∧ cx.len ≤ 50000 ∧ t0.size ≤ 50000 ∧ (cx.app t0).size ≤ 2000 ∧ t3.size ≤ 150) := hide (by have := SW.out.1; have := SW.out.2.1; have := SW.out.2.2; have := ST.out; omega)
 clear hcl hml hxl hyl
 have TO := hide (typeof_any wn cs ms cx (t0, t1, t2, t3) OKT.out.2.1 HSZ.out.1 HSZ.out.2.1 HSZ.out.2.2.1 HSZ.out.2.2.2.1 va vc na nc _ _ w16 TVA.out TVN.out TCX.out TXT.out)
 dsimp only [Tm.bs, Tm.kd, Tm.ix, Tm.ag] at TO
 rw [hR] at TO
 obtain ⟨⟨p0, p1⟩, hp⟩ : ∃ p, typeG t0 R = p := ⟨_, rfl⟩
 obtain ⟨ev, hev⟩ : ∃ ev : Int, (if R.isSome then 0 else 10) = ev := ⟨_, rfl⟩
 rw [hp, hev] at TO
 have HPT := hide hp
 have HEV := hide hev
 clear hR hp hev
 go_wp2_with fail
 refine TO.out.mono ?_
 rintro e w17 ⟨⟨v', rfl, tv⟩, g⟩
 obtain ⟨fa, fc, rfl, _⟩ := id tv
 dsimp only
 have GA := al w17 (.cells #[.slice fa p0.len fc, .int .i64 p1] 73)
 have bo := blk_new w17 (.cells #[.slice fa p0.len fc, .int .i64 p1] 73)
 have g' := g.trans GA
 replace GG := hide (GG.out.trans g')
 replace BT := hide (g'.blk (fun h => h) BT.out)
 replace BA := hide (g'.blk (fun h => h) BA.out)
 replace BX := hide (g'.blk (fun h => h) BX.out)
 replace BY := hide (g'.blk (fun h => h) BY.out)
 replace BQ2 := hide (g'.blk (fun h => h) BQ2.out)
 replace BZ := hide (g'.blk (fun h => h) BZ.out)
 replace BU := hide (g'.blk (fun h => h) BU.out)
 replace BK2 := hide (g'.blk (fun h => h) BK2.out)
 replace TVA := hide (TVA.out.all g')
 replace TVN := hide (TVN.out.all g')
 replace TCX := hide (TCX.out.all g')
 replace TXT := hide (TXT.out.all g')
 replace TYY := hide (TYY.out.all g')
 replace TWT := hide (TWT.out.all g')
 replace TZZ := hide (TZZ.out.all g')
 replace TLL := hide (TLL.out.all g')
 replace TUU := hide (TUU.out.all g')
 replace TMM := hide (TMM.out.all g')
 replace TRS := hide (TRS.out.all g')
 replace TMB := hide (TMB.out.all g')
 have TPP : Hid (TyV _ _ (.agg #[.slice fa p0.len fc, .int .i64 p1]) (p0, p1)) := hide (tv.all GA)
 have BP := hide bo
 clear v0 v1 v2 z0 z1 z2 z3 TO tv g GA bo g'
 go_upto_region 16 with fail
 obtain ⟨D, hD⟩ : ∃ D, w17.heap.size = D := ⟨_, rfl⟩
 rw [hD] at BP
 try rw [hD]
 clear hD
 generalize w17.alloc (.cells #[.slice fa p0.len fc, .int .i64 p1] 73) = w18 at *
 have v0 : w18.cell? ⟨A, 0, none⟩ = some (.int .i64 wn) := blk_cell BA.out 0
 have v1 : w18.cell? ⟨A, 1, none⟩ = some (.slice va cs.len vc) := blk_cell BA.out 1
 have v2 : w18.cell? ⟨A, 2, none⟩ = some (.slice na ms.len nc) := blk_cell BA.out 2
 have z0 : w18.cell? ⟨Y, 0, none⟩ = some (.slice ya (cx.app t0).len yc) := blk_cell BY.out 0
 have z1 : w18.cell? ⟨Y, 1, none⟩ = some (.int .i64 t1) := blk_cell BY.out 1
 have z2 : w18.cell? ⟨Y, 2, none⟩ = some (.int .i64 t2) := blk_cell BY.out 2
 have z3 : w18.cell? ⟨Y, 3, none⟩ = some (.slice yd t3.len ye) := blk_cell BY.out 3
 have TO := hide (typeof_any wn cs ms .nil (cx.app t0, t1, t2, t3) OKY.out.2.1 HSZ.out.1 HSZ.out.2.1 (by simp [Fs.len]) (by have := HSZ.out; dsimp only [Tm.bs]; omega) va vc na nc (.slice none 0 0) _ w18 TVA.out TVN.out (Ts.nil _ _) TYY.out)
 dsimp only [Tm.bs, Tm.kd, Tm.ix, Tm.ag] at TO
 rw [Fs.nil_app, HR.out] at TO
 obtain ⟨⟨q0, q1⟩, hp⟩ : ∃ p, typeG (cx.app t0) R = p := ⟨_, rfl⟩
 rw [hp, HEV.out] at TO
 have HQT := hide hp
 clear hp
 go_wp2_with fail
 refine TO.out.mono ?_
 rintro e w19 ⟨⟨v', rfl, tv⟩, g⟩
 obtain ⟨ga, gc, rfl, _⟩ := id tv
 dsimp only
 have GA := al w19 (.cells #[.slice ga q0.len gc, .int .i64 q1] 73)
 have bo := blk_new w19 (.cells #[.slice ga q0.len gc, .int .i64 q1] 73)
 have g' := g.trans GA
 replace GG := hide (GG.out.trans g')
 replace BT := hide (g'.blk (fun h => h) BT.out)
 replace BA := hide (g'.blk (fun h => h) BA.out)
 replace BX := hide (g'.blk (fun h => h) BX.out)
 replace BY := hide (g'.blk (fun h => h) BY.out)
 replace BQ2 := hide (g'.blk (fun h => h) BQ2.out)
 replace BZ := hide (g'.blk (fun h => h) BZ.out)
 replace BU := hide (g'.blk (fun h => h) BU.out)
 replace BK2 := hide (g'.blk (fun h => h) BK2.out)
 replace BP := hide (g'.blk (fun h => h) BP.out)
 replace TVA := hide (TVA.out.all g')
 replace TVN := hide (TVN.out.all g')
 replace TCX := hide (TCX.out.all g')
 replace TXT := hide (TXT.out.all g')
 replace TYY := hide (TYY.out.all g')
 replace TWT := hide (TWT.out.all g')
 replace TZZ := hide (TZZ.out.all g')
 replace TLL := hide (TLL.out.all g')
 replace TUU := hide (TUU.out.all g')
 replace TMM := hide (TMM.out.all g')
 replace TRS := hide (TRS.out.all g')
 replace TMB := hide (TMB.out.all g')
 replace TPP := hide (TPP.out.all g')
 have TGG : Hid (TyV _ _ (.agg #[.slice ga q0.len gc, .int .i64 q1]) (q0, q1)) := hide (tv.all GA)
 have BG := hide bo
 clear v0 v1 v2 z0 z1 z2 z3 TO tv g GA bo g'
 go_upto_region 17 with fail
 obtain ⟨E, hE⟩ : ∃ E, w19.heap.size = E := ⟨_, rfl⟩
 rw [hE] at BG
 try rw [hE]
 clear hE
 generalize w19.alloc (.cells #[.slice ga q0.len gc, .int .i64 q1] 73) = wz at *
 have OKR := hide (cut_ok OKT.out m)
 have HTS : Hid ((t0.to m).size ≤ 1000000) := hide (by have := Fs.to_size t0 m; have := HSZ.out; omega)
 go_cut [8] (fun s wx => s = .bool true ∧ Hid (Chg (fun _ => False) wz wx))
 case first =>
  as_aux_lemma =>
   refine wp_region_held_drew (S := fun w' => Hid (Chg (fun _ => False) wz w')) (by kernel_rfl) (hide (Chg.refl (fun _ => False) wz).drew) (fun hHeld => ?_)
   refine wpAnyH_ready (rs := [0]) (by kernel_rfl) (by simp) ?_
   refine AllReadyH.cons (i := 0) (o := _) rfl (fun K hK => ?_) ?_
   rotate_left
   ·
    exact AllReadyH.nil
   go_simp
   have GC : Hid (Chg (fun _ => False) wz wz.drew) := hide ((Chg.refl (fun _ => False) wz).drew)
   refine (known_any _).mono ?_
   rintro e d1 ⟨rfl, g'⟩
   have GW : Hid (Chg (fun _ => False) wz d1) := hide (GC.out.trans g')
   clear g' GC
   go_simp
   refine hK.out _ _ GW (fun hHeld => ?_)
   clear hK K
   try simp only [Act.put, List.getElem_toArray, List.getElem_cons_zero, List.getElem_cons_succ, List.setIfInBounds_toArray, List.set_cons_zero, List.set_cons_succ]
   first
    | (refine wpAnyH_take (i := 1) (v := undef) rfl (by kernel_rfl) (by kernel_rfl) (by kernel_rfl) (fun _ _ _ h => h) (Or.inr ⟨by rfl, rfl⟩) (by assumption) ?_)
    | (refine wpAnyH_take (i := 1) (v := ?_) rfl (by kernel_rfl) (by kernel_rfl) (by kernel_rfl) (fun _ _ _ h => h) (Or.inl ⟨by rfl, ?_⟩) (by assumption) ?_
       rotate_left
       (intro w hSw
        (try dsimp only at hSw)
        (go_simp <;> with_reducible rfl)))
   try simp only [Act.put, List.getElem_toArray, List.getElem_cons_zero, List.getElem_cons_succ, List.setIfInBounds_toArray, List.set_cons_zero, List.set_cons_succ]
   first
    | (refine wpAnyH_take (i := 2) (v := undef) rfl (by kernel_rfl) (by kernel_rfl) (by kernel_rfl) (fun _ _ _ h => h) (Or.inr ⟨by rfl, rfl⟩) (by assumption) ?_)
    | (refine wpAnyH_take (i := 2) (v := ?_) rfl (by kernel_rfl) (by kernel_rfl) (by kernel_rfl) (fun _ _ _ h => h) (Or.inl ⟨by rfl, ?_⟩) (by assumption) ?_
       rotate_left
       (intro w hSw
        (try dsimp only at hSw)
        (go_simp <;> with_reducible rfl)))
   try simp only [Act.put, List.getElem_toArray, List.getElem_cons_zero, List.getElem_cons_succ, List.setIfInBounds_toArray, List.set_cons_zero, List.set_cons_succ]
   first
    | (refine wpAnyH_take (i := 3) (v := undef) rfl (by kernel_rfl) (by kernel_rfl) (by kernel_rfl) (fun _ _ _ h => h) (Or.inr ⟨by rfl, rfl⟩) (by assumption) ?_)
    | (refine wpAnyH_take (i := 3) (v := ?_) rfl (by kernel_rfl) (by kernel_rfl) (by kernel_rfl) (fun _ _ _ h => h) (Or.inl ⟨by rfl, ?_⟩) (by assumption) ?_
       rotate_left
       (intro w hSw
        (try dsimp only at hSw)
        (go_simp <;> with_reducible rfl)))
   try simp only [Act.put, List.getElem_toArray, List.getElem_cons_zero, List.getElem_cons_succ, List.setIfInBounds_toArray, List.set_cons_zero, List.set_cons_succ]
   first
    | (refine wpAnyH_take (i := 4) (v := undef) rfl (by kernel_rfl) (by kernel_rfl) (by kernel_rfl) (fun _ _ _ h => h) (Or.inr ⟨by rfl, rfl⟩) (by assumption) ?_)
    | (refine wpAnyH_take (i := 4) (v := ?_) rfl (by kernel_rfl) (by kernel_rfl) (by kernel_rfl) (fun _ _ _ h => h) (Or.inl ⟨by rfl, ?_⟩) (by assumption) ?_
       rotate_left
       (intro w hSw
        (try dsimp only at hSw)
        (go_simp <;> with_reducible rfl)))
   try simp only [Act.put, List.getElem_toArray, List.getElem_cons_zero, List.getElem_cons_succ, List.setIfInBounds_toArray, List.set_cons_zero, List.set_cons_succ]
   first
    | (refine wpAnyH_take (i := 5) (v := undef) rfl (by kernel_rfl) (by kernel_rfl) (by kernel_rfl) (fun _ _ _ h => h) (Or.inr ⟨by rfl, rfl⟩) (by assumption) ?_)
    | (refine wpAnyH_take (i := 5) (v := ?_) rfl (by kernel_rfl) (by kernel_rfl) (by kernel_rfl) (fun _ _ _ h => h) (Or.inl ⟨by rfl, ?_⟩) (by assumption) ?_
       rotate_left
       (intro w hSw
        (try dsimp only at hSw)
        (go_simp <;> with_reducible rfl)))
   try simp only [Act.put, List.getElem_toArray, List.getElem_cons_zero, List.getElem_cons_succ, List.setIfInBounds_toArray, List.set_cons_zero, List.set_cons_succ]
   as_aux_lemma =>
    refine wpAnyH_take (i := 6) (v := ?_) rfl (by kernel_rfl) (by kernel_rfl) (by kernel_rfl) (fun _ _ _ h => h) (Or.inl ⟨by rfl, ?_⟩) (by assumption) ?_
    rotate_left
    (intro w' hSw
     replace hSw := hSw.out
     have r0 : w'.cell? ⟨U, 0, none⟩ = some (.slice ua (t0.from m).len uc) := blk_cell (hSw.blk (fun h => h) BU.out) 0
     have r1 : w'.cell? ⟨U, 1, none⟩ = some (.int .i64 t1) := blk_cell (hSw.blk (fun h => h) BU.out) 1
     have r2 : w'.cell? ⟨U, 2, none⟩ = some (.int .i64 t2) := blk_cell (hSw.blk (fun h => h) BU.out) 2
     have r3 : w'.cell? ⟨U, 3, none⟩ = some (.slice ud t3.len ue) := blk_cell (hSw.blk (fun h => h) BU.out) 3
     clear hSw
     (go_simp <;> with_reducible rfl))
    try simp only [Act.put, List.getElem_toArray, List.getElem_cons_zero, List.getElem_cons_succ, List.setIfInBounds_toArray, List.set_cons_zero, List.set_cons_succ]
    refine wpAnyH_take (i := 8) (v := ?_) rfl (by kernel_rfl) (by kernel_rfl) (by kernel_rfl) (fun _ _ _ h => h) (Or.inl ⟨by rfl, ?_⟩) (by assumption) ?_
    rotate_left
    (intro w' hSw
     replace hSw := hSw.out
     have r0 : w'.cell? ⟨K, 0, none⟩ = some (.slice ra (t0.from m).len (pc - m)) := blk_cell (hSw.blk (fun h => h) BK2.out) 0
     have r1 : w'.cell? ⟨K, 1, none⟩ = some (.int .i64 t1) := blk_cell (hSw.blk (fun h => h) BK2.out) 1
     have r2 : w'.cell? ⟨K, 2, none⟩ = some (.int .i64 t2) := blk_cell (hSw.blk (fun h => h) BK2.out) 2
     have r3 : w'.cell? ⟨K, 3, none⟩ = some (.slice pd t3.len pe) := blk_cell (hSw.blk (fun h => h) BK2.out) 3
     clear hSw
     (go_simp <;> with_reducible rfl))
    try simp only [Act.put, List.getElem_toArray, List.getElem_cons_zero, List.getElem_cons_succ, List.setIfInBounds_toArray, List.set_cons_zero, List.set_cons_succ]
    refine wpAnyH_ready (rs := [7]) (by kernel_rfl) (by simp) ?_
    refine AllReadyH.cons (i := 7) (o := _) rfl (fun K hK => ?_) ?_
    rotate_left
    ·
     exact AllReadyH.nil
    go_simp
    have GC : Hid (Chg (fun _ => False) wz d1) := hide (GW.out)
    refine (of06_any (t0.from m, t1, t2, t3) OKR.out _ (fun x => x < d1.heap.size) d1 (fun x h => h) (TUU.out.all GC.out)).mono ?_
    rintro e d2 ⟨⟨v', rfl, tv⟩, g'⟩
    obtain ⟨oaa, oac, oad, oae, rfl, _, _⟩ := id tv
    dsimp only [Tm.bs, Tm.kd, Tm.ix, Tm.ag]
    have GW : Hid (Chg (fun _ => False) wz d2) := hide (GC.out.trans g')
    have TO := hide (tv.up (Y := fun x => x < d2.heap.size) (fun x hx => hx.2))
    clear tv
    clear g' GC
    go_simp
    refine hK.out _ _ GW (fun hHeld => ?_)
    clear hK K
    try simp only [Act.put, List.getElem_toArray, List.getElem_cons_zero, List.getElem_cons_succ, List.setIfInBounds_toArray, List.set_cons_zero, List.set_cons_succ]
    as_aux_lemma =>
     refine wpAnyH_ready (rs := [9]) (by kernel_rfl) (by simp) ?_
     refine AllReadyH.cons (i := 9) (o := _) rfl (fun K hK => ?_) ?_
     rotate_left
     ·
      exact AllReadyH.nil
     go_simp
     have GC : Hid (Chg (fun _ => False) wz d2) := hide (GW.out)
     refine (same06_any (t0.from m, t1, t2, t3) OKR.out _ _ (fun x => x < d2.heap.size) d2 (fun x h => h) TO.out (TRS.out.all GC.out)).mono ?_
     rintro e d3 ⟨rfl, g'⟩
     have GW : Hid (Chg (fun _ => False) wz d3) := hide (GC.out.trans g')
     clear g' GC
     go_simp
     refine hK.out _ _ GW (fun hHeld => ?_)
     clear hK K
     try simp only [Act.put, List.getElem_toArray, List.getElem_cons_zero, List.getElem_cons_succ, List.setIfInBounds_toArray, List.set_cons_zero, List.set_cons_succ]
     first
      | (refine wpAnyH_take (i := 10) (v := undef) rfl (by kernel_rfl) (by kernel_rfl) (by kernel_rfl) (fun _ _ _ h => h) (Or.inr ⟨by rfl, rfl⟩) (by assumption) ?_)
      | (refine wpAnyH_take (i := 10) (v := ?_) rfl (by kernel_rfl) (by kernel_rfl) (by kernel_rfl) (fun _ _ _ h => h) (Or.inl ⟨by rfl, ?_⟩) (by assumption) ?_
         rotate_left
         (intro w hSw
          (try dsimp only at hSw)
          (go_simp <;> with_reducible rfl)))
     try simp only [Act.put, List.getElem_toArray, List.getElem_cons_zero, List.getElem_cons_succ, List.setIfInBounds_toArray, List.set_cons_zero, List.set_cons_succ]
     first
      | (refine wpAnyH_take (i := 11) (v := undef) rfl (by kernel_rfl) (by kernel_rfl) (by kernel_rfl) (fun _ _ _ h => h) (Or.inr ⟨by rfl, rfl⟩) (by assumption) ?_)
      | (refine wpAnyH_take (i := 11) (v := ?_) rfl (by kernel_rfl) (by kernel_rfl) (by kernel_rfl) (fun _ _ _ h => h) (Or.inl ⟨by rfl, ?_⟩) (by assumption) ?_
         rotate_left
         (intro w hSw
          (try dsimp only at hSw)
          (go_simp <;> with_reducible rfl)))
     try simp only [Act.put, List.getElem_toArray, List.getElem_cons_zero, List.getElem_cons_succ, List.setIfInBounds_toArray, List.set_cons_zero, List.set_cons_succ]
     first
      | (refine wpAnyH_take (i := 12) (v := undef) rfl (by kernel_rfl) (by kernel_rfl) (by kernel_rfl) (fun _ _ _ h => h) (Or.inr ⟨by rfl, rfl⟩) (by assumption) ?_)
      | (refine wpAnyH_take (i := 12) (v := ?_) rfl (by kernel_rfl) (by kernel_rfl) (by kernel_rfl) (fun _ _ _ h => h) (Or.inl ⟨by rfl, ?_⟩) (by assumption) ?_
         rotate_left
         (intro w hSw
          (try dsimp only at hSw)
          (go_simp <;> with_reducible rfl)))
     try simp only [Act.put, List.getElem_toArray, List.getElem_cons_zero, List.getElem_cons_succ, List.setIfInBounds_toArray, List.set_cons_zero, List.set_cons_succ]
     first
      | (refine wpAnyH_take (i := 13) (v := undef) rfl (by kernel_rfl) (by kernel_rfl) (by kernel_rfl) (fun _ _ _ h => h) (Or.inr ⟨by rfl, rfl⟩) (by assumption) ?_)
      | (refine wpAnyH_take (i := 13) (v := ?_) rfl (by kernel_rfl) (by kernel_rfl) (by kernel_rfl) (fun _ _ _ h => h) (Or.inl ⟨by rfl, ?_⟩) (by assumption) ?_
         rotate_left
         (intro w hSw
          (try dsimp only at hSw)
          (go_simp <;> with_reducible rfl)))
     try simp only [Act.put, List.getElem_toArray, List.getElem_cons_zero, List.getElem_cons_succ, List.setIfInBounds_toArray, List.set_cons_zero, List.set_cons_succ]
     as_aux_lemma =>
      refine wpAnyH_take (i := 14) (v := ?_) rfl (by kernel_rfl) (by kernel_rfl) (by kernel_rfl) (fun _ _ _ h => h) (Or.inl ⟨by rfl, ?_⟩) (by assumption) ?_
      rotate_left
      (intro w' hSw
       replace hSw := hSw.out
       have r0 : w'.cell? ⟨(P + 1), 0, none⟩ = some (.slice pa t0.len pc) := blk_cell (hSw.blk (fun h => h) BT.out) 0
       have r1 : w'.cell? ⟨(P + 1), 1, none⟩ = some (.int .i64 t1) := blk_cell (hSw.blk (fun h => h) BT.out) 1
       have r2 : w'.cell? ⟨(P + 1), 2, none⟩ = some (.int .i64 t2) := blk_cell (hSw.blk (fun h => h) BT.out) 2
       have r3 : w'.cell? ⟨(P + 1), 3, none⟩ = some (.slice pd t3.len pe) := blk_cell (hSw.blk (fun h => h) BT.out) 3
       clear hSw
       (go_simp <;> with_reducible rfl))
      try simp only [Act.put, List.getElem_toArray, List.getElem_cons_zero, List.getElem_cons_succ, List.setIfInBounds_toArray, List.set_cons_zero, List.set_cons_succ]
      first
       | (refine wpAnyH_take (i := 15) (v := undef) rfl (by kernel_rfl) (by kernel_rfl) (by kernel_rfl) (fun _ _ _ h => h) (Or.inr ⟨by rfl, rfl⟩) (by assumption) ?_)
       | (refine wpAnyH_take (i := 15) (v := ?_) rfl (by kernel_rfl) (by kernel_rfl) (by kernel_rfl) (fun _ _ _ h => h) (Or.inl ⟨by rfl, ?_⟩) (by assumption) ?_
          rotate_left
          (intro w hSw
           (try dsimp only at hSw)
           (go_simp <;> with_reducible rfl)))
      try simp only [Act.put, List.getElem_toArray, List.getElem_cons_zero, List.getElem_cons_succ, List.setIfInBounds_toArray, List.set_cons_zero, List.set_cons_succ]
      have rt0 := HRT.out
      first
       | (refine wpAnyH_take (i := 16) (v := undef) rfl (by kernel_rfl) (by kernel_rfl) (by kernel_rfl) (fun _ _ _ h => h) (Or.inr ⟨by rfl, rfl⟩) (by assumption) ?_)
       | (refine wpAnyH_take (i := 16) (v := ?_) rfl (by kernel_rfl) (by kernel_rfl) (by kernel_rfl) (fun _ _ _ h => h) (Or.inl ⟨by rfl, ?_⟩) (by assumption) ?_
          rotate_left
          (intro w hSw
           (try dsimp only at hSw)
           (go_simp <;> with_reducible rfl)))
      try simp only [Act.put, List.getElem_toArray, List.getElem_cons_zero, List.getElem_cons_succ, List.setIfInBounds_toArray, List.set_cons_zero, List.set_cons_succ]
      clear rt0
      as_aux_lemma =>
       refine wpAnyH_ready (rs := [17]) (by kernel_rfl) (by simp) ?_
       refine AllReadyH.cons (i := 17) (o := _) rfl (fun K hK => ?_) ?_
       rotate_left
       ·
        exact AllReadyH.nil
       go_simp
       have GC : Hid (Chg (fun _ => False) wz d3) := hide (GW.out)
       refine (types10_same (t0.to m) HTS.out _ _ (fun x => x < d3.heap.size) d3 (fun x h => h) (TMM.out.all GC.out) (TMB.out.all GC.out)).mono ?_
       rintro e d4 ⟨rfl, g'⟩
       have GW : Hid (Chg (fun _ => False) wz d4) := hide (GC.out.trans g')
       clear g' GC
       go_simp
       refine hK.out _ _ GW (fun hHeld => ?_)
       clear hK K
       try simp only [Act.put, List.getElem_toArray, List.getElem_cons_zero, List.getElem_cons_succ, List.setIfInBounds_toArray, List.set_cons_zero, List.set_cons_succ]
       first
        | (refine wpAnyH_take (i := 18) (v := undef) rfl (by kernel_rfl) (by kernel_rfl) (by kernel_rfl) (fun _ _ _ h => h) (Or.inr ⟨by rfl, rfl⟩) (by assumption) ?_)
        | (refine wpAnyH_take (i := 18) (v := ?_) rfl (by kernel_rfl) (by kernel_rfl) (by kernel_rfl) (fun _ _ _ h => h) (Or.inl ⟨by rfl, ?_⟩) (by assumption) ?_
           rotate_left
           (intro w hSw
            (try dsimp only at hSw)
            (go_simp <;> with_reducible rfl)))
       try simp only [Act.put, List.getElem_toArray, List.getElem_cons_zero, List.getElem_cons_succ, List.setIfInBounds_toArray, List.set_cons_zero, List.set_cons_succ]
       first
        | (refine wpAnyH_take (i := 19) (v := undef) rfl (by kernel_rfl) (by kernel_rfl) (by kernel_rfl) (fun _ _ _ h => h) (Or.inr ⟨by rfl, rfl⟩) (by assumption) ?_)
        | (refine wpAnyH_take (i := 19) (v := ?_) rfl (by kernel_rfl) (by kernel_rfl) (by kernel_rfl) (fun _ _ _ h => h) (Or.inl ⟨by rfl, ?_⟩) (by assumption) ?_
           rotate_left
           (intro w hSw
            (try dsimp only at hSw)
            (go_simp <;> with_reducible rfl)))
       try simp only [Act.put, List.getElem_toArray, List.getElem_cons_zero, List.getElem_cons_succ, List.setIfInBounds_toArray, List.set_cons_zero, List.set_cons_succ]
       as_aux_lemma =>
        cases R with
        | none =>
          have e1 : ((Fs.nil, (0 : Int))) = (p0, p1) := HPT.out
          have e2 : ((Fs.nil, (0 : Int))) = (q0, q1) := HQT.out
          injection e1 with e3 e4
          injection e2 with e5 e6
          subst e3 e4 e5 e6
          obtain rfl : (10 : Int) = ev := HEV.out
          first
           | (refine wpAnyH_take (i := 20) (v := undef) rfl (by kernel_rfl) (by kernel_rfl) (by kernel_rfl) (fun _ _ _ h => h) (Or.inr ⟨by rfl, rfl⟩) (by assumption) ?_)
           | (refine wpAnyH_take (i := 20) (v := ?_) rfl (by kernel_rfl) (by kernel_rfl) (by kernel_rfl) (fun _ _ _ h => h) (Or.inl ⟨by rfl, ?_⟩) (by assumption) ?_
              rotate_left
              (intro w hSw
               (try dsimp only at hSw)
               (go_simp <;> with_reducible rfl)))
          try simp only [Act.put, List.getElem_toArray, List.getElem_cons_zero, List.getElem_cons_succ, List.setIfInBounds_toArray, List.set_cons_zero, List.set_cons_succ]
          first
           | (refine wpAnyH_take (i := 21) (v := undef) rfl (by kernel_rfl) (by kernel_rfl) (by kernel_rfl) (fun _ _ _ h => h) (Or.inr ⟨by rfl, rfl⟩) (by assumption) ?_)
           | (refine wpAnyH_take (i := 21) (v := ?_) rfl (by kernel_rfl) (by kernel_rfl) (by kernel_rfl) (fun _ _ _ h => h) (Or.inl ⟨by rfl, ?_⟩) (by assumption) ?_
              rotate_left
              (intro w hSw
               (try dsimp only at hSw)
               (go_simp <;> with_reducible rfl)))
          try simp only [Act.put, List.getElem_toArray, List.getElem_cons_zero, List.getElem_cons_succ, List.setIfInBounds_toArray, List.set_cons_zero, List.set_cons_succ]
          first
           | (refine wpAnyH_take (i := 22) (v := undef) rfl (by kernel_rfl) (by kernel_rfl) (by kernel_rfl) (fun _ _ _ h => h) (Or.inr ⟨by rfl, rfl⟩) (by assumption) ?_)
           | (refine wpAnyH_take (i := 22) (v := ?_) rfl (by kernel_rfl) (by kernel_rfl) (by kernel_rfl) (fun _ _ _ h => h) (Or.inl ⟨by rfl, ?_⟩) (by assumption) ?_
              rotate_left
              (intro w hSw
               (try dsimp only at hSw)
               (go_simp <;> with_reducible rfl)))
          try simp only [Act.put, List.getElem_toArray, List.getElem_cons_zero, List.getElem_cons_succ, List.setIfInBounds_toArray, List.set_cons_zero, List.set_cons_succ]
          first
           | (refine wpAnyH_take (i := 23) (v := undef) rfl (by kernel_rfl) (by kernel_rfl) (by kernel_rfl) (fun _ _ _ h => h) (Or.inr ⟨by rfl, rfl⟩) (by assumption) ?_)
           | (refine wpAnyH_take (i := 23) (v := ?_) rfl (by kernel_rfl) (by kernel_rfl) (by kernel_rfl) (fun _ _ _ h => h) (Or.inl ⟨by rfl, ?_⟩) (by assumption) ?_
              rotate_left
              (intro w hSw
               (try dsimp only at hSw)
               (go_simp <;> with_reducible rfl)))
          try simp only [Act.put, List.getElem_toArray, List.getElem_cons_zero, List.getElem_cons_succ, List.setIfInBounds_toArray, List.set_cons_zero, List.set_cons_succ]
          first
           | (refine wpAnyH_take (i := 24) (v := undef) rfl (by kernel_rfl) (by kernel_rfl) (by kernel_rfl) (fun _ _ _ h => h) (Or.inr ⟨by rfl, rfl⟩) (by assumption) ?_)
           | (refine wpAnyH_take (i := 24) (v := ?_) rfl (by kernel_rfl) (by kernel_rfl) (by kernel_rfl) (fun _ _ _ h => h) (Or.inl ⟨by rfl, ?_⟩) (by assumption) ?_
              rotate_left
              (intro w hSw
               (try dsimp only at hSw)
               (go_simp <;> with_reducible rfl)))
          try simp only [Act.put, List.getElem_toArray, List.getElem_cons_zero, List.getElem_cons_succ, List.setIfInBounds_toArray, List.set_cons_zero, List.set_cons_succ]
          first
           | (refine wpAnyH_take (i := 25) (v := undef) rfl (by kernel_rfl) (by kernel_rfl) (by kernel_rfl) (fun _ _ _ h => h) (Or.inr ⟨by rfl, rfl⟩) (by assumption) ?_)
           | (refine wpAnyH_take (i := 25) (v := ?_) rfl (by kernel_rfl) (by kernel_rfl) (by kernel_rfl) (fun _ _ _ h => h) (Or.inl ⟨by rfl, ?_⟩) (by assumption) ?_
              rotate_left
              (intro w hSw
               (try dsimp only at hSw)
               (go_simp <;> with_reducible rfl)))
          try simp only [Act.put, List.getElem_toArray, List.getElem_cons_zero, List.getElem_cons_succ, List.setIfInBounds_toArray, List.set_cons_zero, List.set_cons_succ]
          first
           | (refine wpAnyH_take (i := 26) (v := undef) rfl (by kernel_rfl) (by kernel_rfl) (by kernel_rfl) (fun _ _ _ h => h) (Or.inr ⟨by rfl, rfl⟩) (by assumption) ?_)
           | (refine wpAnyH_take (i := 26) (v := ?_) rfl (by kernel_rfl) (by kernel_rfl) (by kernel_rfl) (fun _ _ _ h => h) (Or.inl ⟨by rfl, ?_⟩) (by assumption) ?_
              rotate_left
              (intro w hSw
               (try dsimp only at hSw)
               (go_simp <;> with_reducible rfl)))
          try simp only [Act.put, List.getElem_toArray, List.getElem_cons_zero, List.getElem_cons_succ, List.setIfInBounds_toArray, List.set_cons_zero, List.set_cons_succ]
          first
           | (refine wpAnyH_take (i := 27) (v := undef) rfl (by kernel_rfl) (by kernel_rfl) (by kernel_rfl) (fun _ _ _ h => h) (Or.inr ⟨by rfl, rfl⟩) (by assumption) ?_)
           | (refine wpAnyH_take (i := 27) (v := ?_) rfl (by kernel_rfl) (by kernel_rfl) (by kernel_rfl) (fun _ _ _ h => h) (Or.inl ⟨by rfl, ?_⟩) (by assumption) ?_
              rotate_left
              (intro w hSw
               (try dsimp only at hSw)
               (go_simp <;> with_reducible rfl)))
          try simp only [Act.put, List.getElem_toArray, List.getElem_cons_zero, List.getElem_cons_succ, List.setIfInBounds_toArray, List.set_cons_zero, List.set_cons_succ]
          as_aux_lemma =>
           refine wpAnyH_take (i := 28) (v := undef) rfl (by kernel_rfl) (by kernel_rfl) (by kernel_rfl) (fun _ _ _ h => h) (Or.inr ⟨by rfl, rfl⟩) (by assumption) ?_
           try simp only [Act.put, List.getElem_toArray, List.getElem_cons_zero, List.getElem_cons_succ, List.setIfInBounds_toArray, List.set_cons_zero, List.set_cons_succ]
           refine wpAnyH_take (i := 29) (v := undef) rfl (by kernel_rfl) (by kernel_rfl) (by kernel_rfl) (fun _ _ _ h => h) (Or.inr ⟨by rfl, rfl⟩) (by assumption) ?_
           try simp only [Act.put, List.getElem_toArray, List.getElem_cons_zero, List.getElem_cons_succ, List.setIfInBounds_toArray, List.set_cons_zero, List.set_cons_succ]
           refine wpAnyH_take (i := 30) (v := undef) rfl (by kernel_rfl) (by kernel_rfl) (by kernel_rfl) (fun _ _ _ h => h) (Or.inr ⟨by rfl, rfl⟩) (by assumption) ?_
           try simp only [Act.put, List.getElem_toArray, List.getElem_cons_zero, List.getElem_cons_succ, List.setIfInBounds_toArray, List.set_cons_zero, List.set_cons_succ]
           refine wpAnyH_take (i := 31) (v := undef) rfl (by kernel_rfl) (by kernel_rfl) (by kernel_rfl) (fun _ _ _ h => h) (Or.inr ⟨by rfl, rfl⟩) (by assumption) ?_
           try simp only [Act.put, List.getElem_toArray, List.getElem_cons_zero, List.getElem_cons_succ, List.setIfInBounds_toArray, List.set_cons_zero, List.set_cons_succ]
           refine wpAnyH_take (i := 32) (v := undef) rfl (by kernel_rfl) (by kernel_rfl) (by kernel_rfl) (fun _ _ _ h => h) (Or.inr ⟨by rfl, rfl⟩) (by assumption) ?_
           try simp only [Act.put, List.getElem_toArray, List.getElem_cons_zero, List.getElem_cons_succ, List.setIfInBounds_toArray, List.set_cons_zero, List.set_cons_succ]
           refine wpAnyH_take (i := 33) (v := undef) rfl (by kernel_rfl) (by kernel_rfl) (by kernel_rfl) (fun _ _ _ h => h) (Or.inr ⟨by rfl, rfl⟩) (by assumption) ?_
           try simp only [Act.put, List.getElem_toArray, List.getElem_cons_zero, List.getElem_cons_succ, List.setIfInBounds_toArray, List.set_cons_zero, List.set_cons_succ]
           refine wpAnyH_take (i := 34) (v := undef) rfl (by kernel_rfl) (by kernel_rfl) (by kernel_rfl) (fun _ _ _ h => h) (Or.inr ⟨by rfl, rfl⟩) (by assumption) ?_
           try simp only [Act.put, List.getElem_toArray, List.getElem_cons_zero, List.getElem_cons_succ, List.setIfInBounds_toArray, List.set_cons_zero, List.set_cons_succ]
           refine wpAnyH_take (i := 35) (v := undef) rfl (by kernel_rfl) (by kernel_rfl) (by kernel_rfl) (fun _ _ _ h => h) (Or.inr ⟨by rfl, rfl⟩) (by assumption) ?_
           try simp only [Act.put, List.getElem_toArray, List.getElem_cons_zero, List.getElem_cons_succ, List.setIfInBounds_toArray, List.set_cons_zero, List.set_cons_succ]
           refine wpAnyH_take (i := 36) (v := undef) rfl (by kernel_rfl) (by kernel_rfl) (by kernel_rfl) (fun _ _ _ h => h) (Or.inr ⟨by rfl, rfl⟩) (by assumption) ?_
           try simp only [Act.put, List.getElem_toArray, List.getElem_cons_zero, List.getElem_cons_succ, List.setIfInBounds_toArray, List.set_cons_zero, List.set_cons_succ]
           refine wpAnyH_take (i := 37) (v := undef) rfl (by kernel_rfl) (by kernel_rfl) (by kernel_rfl) (fun _ _ _ h => h) (Or.inr ⟨by rfl, rfl⟩) (by assumption) ?_
           try simp only [Act.put, List.getElem_toArray, List.getElem_cons_zero, List.getElem_cons_succ, List.setIfInBounds_toArray, List.set_cons_zero, List.set_cons_succ]
           refine wpAnyH_take (i := 38) (v := undef) rfl (by kernel_rfl) (by kernel_rfl) (by kernel_rfl) (fun _ _ _ h => h) (Or.inr ⟨by rfl, rfl⟩) (by assumption) ?_
           try simp only [Act.put, List.getElem_toArray, List.getElem_cons_zero, List.getElem_cons_succ, List.setIfInBounds_toArray, List.set_cons_zero, List.set_cons_succ]
           refine wpAnyH_take (i := 39) (v := undef) rfl (by kernel_rfl) (by kernel_rfl) (by kernel_rfl) (fun _ _ _ h => h) (Or.inr ⟨by rfl, rfl⟩) (by assumption) ?_
           try simp only [Act.put, List.getElem_toArray, List.getElem_cons_zero, List.getElem_cons_succ, List.setIfInBounds_toArray, List.set_cons_zero, List.set_cons_succ]
           refine wpAnyH_take (i := 40) (v := undef) rfl (by kernel_rfl) (by kernel_rfl) (by kernel_rfl) (fun _ _ _ h => h) (Or.inr ⟨by rfl, rfl⟩) (by assumption) ?_
           try simp only [Act.put, List.getElem_toArray, List.getElem_cons_zero, List.getElem_cons_succ, List.setIfInBounds_toArray, List.set_cons_zero, List.set_cons_succ]
           refine wpAnyH_take (i := 41) (v := undef) rfl (by kernel_rfl) (by kernel_rfl) (by kernel_rfl) (fun _ _ _ h => h) (Or.inr ⟨by rfl, rfl⟩) (by assumption) ?_
           try simp only [Act.put, List.getElem_toArray, List.getElem_cons_zero, List.getElem_cons_succ, List.setIfInBounds_toArray, List.set_cons_zero, List.set_cons_succ]
           refine wpAnyH_take (i := 42) (v := undef) rfl (by kernel_rfl) (by kernel_rfl) (by kernel_rfl) (fun _ _ _ h => h) (Or.inr ⟨by rfl, rfl⟩) (by assumption) ?_
           try simp only [Act.put, List.getElem_toArray, List.getElem_cons_zero, List.getElem_cons_succ, List.setIfInBounds_toArray, List.set_cons_zero, List.set_cons_succ]
           refine wpAnyH_take (i := 43) (v := undef) rfl (by kernel_rfl) (by kernel_rfl) (by kernel_rfl) (fun _ _ _ h => h) (Or.inr ⟨by rfl, rfl⟩) (by assumption) ?_
           try simp only [Act.put, List.getElem_toArray, List.getElem_cons_zero, List.getElem_cons_succ, List.setIfInBounds_toArray, List.set_cons_zero, List.set_cons_succ]
           refine wpAnyH_take (i := 44) (v := undef) rfl (by kernel_rfl) (by kernel_rfl) (by kernel_rfl) (fun _ _ _ h => h) (Or.inr ⟨by rfl, rfl⟩) (by assumption) ?_
           try simp only [Act.put, List.getElem_toArray, List.getElem_cons_zero, List.getElem_cons_succ, List.setIfInBounds_toArray, List.set_cons_zero, List.set_cons_succ]
           refine wpAnyH_take (i := 45) (v := undef) rfl (by kernel_rfl) (by kernel_rfl) (by kernel_rfl) (fun _ _ _ h => h) (Or.inr ⟨by rfl, rfl⟩) (by assumption) ?_
           try simp only [Act.put, List.getElem_toArray, List.getElem_cons_zero, List.getElem_cons_succ, List.setIfInBounds_toArray, List.set_cons_zero, List.set_cons_succ]
           refine wpAnyH_take (i := 46) (v := undef) rfl (by kernel_rfl) (by kernel_rfl) (by kernel_rfl) (fun _ _ _ h => h) (Or.inr ⟨by rfl, rfl⟩) (by assumption) ?_
           try simp only [Act.put, List.getElem_toArray, List.getElem_cons_zero, List.getElem_cons_succ, List.setIfInBounds_toArray, List.set_cons_zero, List.set_cons_succ]
           refine wpAnyH_take (i := 47) (v := undef) rfl (by kernel_rfl) (by kernel_rfl) (by kernel_rfl) (fun _ _ _ h => h) (Or.inr ⟨by rfl, rfl⟩) (by assumption) ?_
           try simp only [Act.put, List.getElem_toArray, List.getElem_cons_zero, List.getElem_cons_succ, List.setIfInBounds_toArray, List.set_cons_zero, List.set_cons_succ]
           as_aux_lemma =>
            first
             | (refine wpAnyH_take (i := 48) (v := undef) rfl (by kernel_rfl) (by kernel_rfl) (by kernel_rfl) (fun _ _ _ h => h) (Or.inr ⟨by rfl, rfl⟩) (by assumption) ?_)
             | (refine wpAnyH_take (i := 48) (v := ?_) rfl (by kernel_rfl) (by kernel_rfl) (by kernel_rfl) (fun _ _ _ h => h) (Or.inl ⟨by rfl, ?_⟩) (by assumption) ?_
                rotate_left
                (intro w hSw
                 (try dsimp only at hSw)
                 (go_simp <;> with_reducible rfl)))
            try simp only [Act.put, List.getElem_toArray, List.getElem_cons_zero, List.getElem_cons_succ, List.setIfInBounds_toArray, List.set_cons_zero, List.set_cons_succ]
            first
             | (refine wpAnyH_take (i := 49) (v := undef) rfl (by kernel_rfl) (by kernel_rfl) (by kernel_rfl) (fun _ _ _ h => h) (Or.inr ⟨by rfl, rfl⟩) (by assumption) ?_)
             | (refine wpAnyH_take (i := 49) (v := ?_) rfl (by kernel_rfl) (by kernel_rfl) (by kernel_rfl) (fun _ _ _ h => h) (Or.inl ⟨by rfl, ?_⟩) (by assumption) ?_
                rotate_left
                (intro w hSw
                 (try dsimp only at hSw)
                 (go_simp <;> with_reducible rfl)))
            try simp only [Act.put, List.getElem_toArray, List.getElem_cons_zero, List.getElem_cons_succ, List.setIfInBounds_toArray, List.set_cons_zero, List.set_cons_succ]
            first
             | (refine wpAnyH_take (i := 50) (v := undef) rfl (by kernel_rfl) (by kernel_rfl) (by kernel_rfl) (fun _ _ _ h => h) (Or.inr ⟨by rfl, rfl⟩) (by assumption) ?_)
             | (refine wpAnyH_take (i := 50) (v := ?_) rfl (by kernel_rfl) (by kernel_rfl) (by kernel_rfl) (fun _ _ _ h => h) (Or.inl ⟨by rfl, ?_⟩) (by assumption) ?_
                rotate_left
                (intro w hSw
                 (try dsimp only at hSw)
                 (go_simp <;> with_reducible rfl)))
            try simp only [Act.put, List.getElem_toArray, List.getElem_cons_zero, List.getElem_cons_succ, List.setIfInBounds_toArray, List.set_cons_zero, List.set_cons_succ]
            refine wpAnyH_done (by kernel_rfl) ?_ _
            go_wp2_with fail
            go_meet
            exact ⟨rfl, GW⟩
        | some r =>
          obtain ⟨r1, r2⟩ := r
          have e1 : (t0, r2) = (p0, p1) := HPT.out
          have e2 : (cx.app t0, r2) = (q0, q1) := HQT.out
          injection e1 with e3 e4
          injection e2 with e5 e6
          subst e3 e4 e5 e6
          obtain rfl : (0 : Int) = ev := HEV.out
          have TPR : Hid (Ts wz (fun x => x < wz.heap.size) (.slice fa t0.len fc) t0) := hide (tyv_row TPP.out)
          have TGR : Hid (Ts wz (fun x => x < wz.heap.size) (.slice ga (cx.app t0).len gc) (cx.app t0)) := hide (tyv_row TGG.out)
          obtain ⟨E1, hE1⟩ : ∃ E1, checkG cs ms cx (t0, t1, t2, t3) (t0, r2) = E1 := ⟨_, rfl⟩
          have HE1 := hide hE1
          have HE2 := hide ((check_same cs ms cx t0 t1 t2 t3 r2).trans hE1)
          clear hE1
          first
           | (refine wpAnyH_take (i := 20) (v := undef) rfl (by kernel_rfl) (by kernel_rfl) (by kernel_rfl) (fun _ _ _ h => h) (Or.inr ⟨by rfl, rfl⟩) (by assumption) ?_)
           | (refine wpAnyH_take (i := 20) (v := ?_) rfl (by kernel_rfl) (by kernel_rfl) (by kernel_rfl) (fun _ _ _ h => h) (Or.inl ⟨by rfl, ?_⟩) (by assumption) ?_
              rotate_left
              (intro w hSw
               (try dsimp only at hSw)
               (go_simp <;> with_reducible rfl)))
          try simp only [Act.put, List.getElem_toArray, List.getElem_cons_zero, List.getElem_cons_succ, List.setIfInBounds_toArray, List.set_cons_zero, List.set_cons_succ]
          first
           | (refine wpAnyH_take (i := 21) (v := undef) rfl (by kernel_rfl) (by kernel_rfl) (by kernel_rfl) (fun _ _ _ h => h) (Or.inr ⟨by rfl, rfl⟩) (by assumption) ?_)
           | (refine wpAnyH_take (i := 21) (v := ?_) rfl (by kernel_rfl) (by kernel_rfl) (by kernel_rfl) (fun _ _ _ h => h) (Or.inl ⟨by rfl, ?_⟩) (by assumption) ?_
              rotate_left
              (intro w hSw
               (try dsimp only at hSw)
               (go_simp <;> with_reducible rfl)))
          try simp only [Act.put, List.getElem_toArray, List.getElem_cons_zero, List.getElem_cons_succ, List.setIfInBounds_toArray, List.set_cons_zero, List.set_cons_succ]
          first
           | (refine wpAnyH_take (i := 22) (v := undef) rfl (by kernel_rfl) (by kernel_rfl) (by kernel_rfl) (fun _ _ _ h => h) (Or.inr ⟨by rfl, rfl⟩) (by assumption) ?_)
           | (refine wpAnyH_take (i := 22) (v := ?_) rfl (by kernel_rfl) (by kernel_rfl) (by kernel_rfl) (fun _ _ _ h => h) (Or.inl ⟨by rfl, ?_⟩) (by assumption) ?_
              rotate_left
              (intro w hSw
               (try dsimp only at hSw)
               (go_simp <;> with_reducible rfl)))
          try simp only [Act.put, List.getElem_toArray, List.getElem_cons_zero, List.getElem_cons_succ, List.setIfInBounds_toArray, List.set_cons_zero, List.set_cons_succ]
          first
           | (refine wpAnyH_take (i := 23) (v := undef) rfl (by kernel_rfl) (by kernel_rfl) (by kernel_rfl) (fun _ _ _ h => h) (Or.inr ⟨by rfl, rfl⟩) (by assumption) ?_)
           | (refine wpAnyH_take (i := 23) (v := ?_) rfl (by kernel_rfl) (by kernel_rfl) (by kernel_rfl) (fun _ _ _ h => h) (Or.inl ⟨by rfl, ?_⟩) (by assumption) ?_
              rotate_left
              (intro w hSw
               (try dsimp only at hSw)
               (go_simp <;> with_reducible rfl)))
          try simp only [Act.put, List.getElem_toArray, List.getElem_cons_zero, List.getElem_cons_succ, List.setIfInBounds_toArray, List.set_cons_zero, List.set_cons_succ]
          first
           | (refine wpAnyH_take (i := 24) (v := undef) rfl (by kernel_rfl) (by kernel_rfl) (by kernel_rfl) (fun _ _ _ h => h) (Or.inr ⟨by rfl, rfl⟩) (by assumption) ?_)
           | (refine wpAnyH_take (i := 24) (v := ?_) rfl (by kernel_rfl) (by kernel_rfl) (by kernel_rfl) (fun _ _ _ h => h) (Or.inl ⟨by rfl, ?_⟩) (by assumption) ?_
              rotate_left
              (intro w hSw
               (try dsimp only at hSw)
               (go_simp <;> with_reducible rfl)))
          try simp only [Act.put, List.getElem_toArray, List.getElem_cons_zero, List.getElem_cons_succ, List.setIfInBounds_toArray, List.set_cons_zero, List.set_cons_succ]
          first
           | (refine wpAnyH_take (i := 25) (v := undef) rfl (by kernel_rfl) (by kernel_rfl) (by kernel_rfl) (fun _ _ _ h => h) (Or.inr ⟨by rfl, rfl⟩) (by assumption) ?_)
           | (refine wpAnyH_take (i := 25) (v := ?_) rfl (by kernel_rfl) (by kernel_rfl) (by kernel_rfl) (fun _ _ _ h => h) (Or.inl ⟨by rfl, ?_⟩) (by assumption) ?_
              rotate_left
              (intro w hSw
               (try dsimp only at hSw)
               (go_simp <;> with_reducible rfl)))
          try simp only [Act.put, List.getElem_toArray, List.getElem_cons_zero, List.getElem_cons_succ, List.setIfInBounds_toArray, List.set_cons_zero, List.set_cons_succ]
          first
           | (refine wpAnyH_take (i := 26) (v := undef) rfl (by kernel_rfl) (by kernel_rfl) (by kernel_rfl) (fun _ _ _ h => h) (Or.inr ⟨by rfl, rfl⟩) (by assumption) ?_)
           | (refine wpAnyH_take (i := 26) (v := ?_) rfl (by kernel_rfl) (by kernel_rfl) (by kernel_rfl) (fun _ _ _ h => h) (Or.inl ⟨by rfl, ?_⟩) (by assumption) ?_
              rotate_left
              (intro w hSw
               (try dsimp only at hSw)
               (go_simp <;> with_reducible rfl)))
          try simp only [Act.put, List.getElem_toArray, List.getElem_cons_zero, List.getElem_cons_succ, List.setIfInBounds_toArray, List.set_cons_zero, List.set_cons_succ]
          first
           | (refine wpAnyH_take (i := 27) (v := undef) rfl (by kernel_rfl) (by kernel_rfl) (by kernel_rfl) (fun _ _ _ h => h) (Or.inr ⟨by rfl, rfl⟩) (by assumption) ?_)
           | (refine wpAnyH_take (i := 27) (v := ?_) rfl (by kernel_rfl) (by kernel_rfl) (by kernel_rfl) (fun _ _ _ h => h) (Or.inl ⟨by rfl, ?_⟩) (by assumption) ?_
              rotate_left
              (intro w hSw
               (try dsimp only at hSw)
               (go_simp <;> with_reducible rfl)))
          try simp only [Act.put, List.getElem_toArray, List.getElem_cons_zero, List.getElem_cons_succ, List.setIfInBounds_toArray, List.set_cons_zero, List.set_cons_succ]
          as_aux_lemma =>
           refine wpAnyH_take (i := 28) (v := ?_) rfl (by kernel_rfl) (by kernel_rfl) (by kernel_rfl) (fun _ _ _ h => h) (Or.inl ⟨by rfl, ?_⟩) (by assumption) ?_
           rotate_left
           (intro w' hSw
            replace hSw := hSw.out
            have r0 : w'.cell? ⟨E, 0, none⟩ = some (.slice ga (cx.app t0).len gc) := blk_cell (hSw.blk (fun h => h) BG.out) 0
            have r1 : w'.cell? ⟨E, 1, none⟩ = some (.int .i64 r2) := blk_cell (hSw.blk (fun h => h) BG.out) 1
            clear hSw
            (go_simp <;> with_reducible rfl))
           try simp only [Act.put, List.getElem_toArray, List.getElem_cons_zero, List.getElem_cons_succ, List.setIfInBounds_toArray, List.set_cons_zero, List.set_cons_succ]
           refine wpAnyH_take (i := 29) (v := ?_) rfl (by kernel_rfl) (by kernel_rfl) (by kernel_rfl) (fun _ _ _ h => h) (Or.inl ⟨by rfl, ?_⟩) (by assumption) ?_
           rotate_left
           (intro w' hSw
            replace hSw := hSw.out
            have r0 : w'.cell? ⟨D, 0, none⟩ = some (.slice fa t0.len fc) := blk_cell (hSw.blk (fun h => h) BP.out) 0
            have r1 : w'.cell? ⟨D, 1, none⟩ = some (.int .i64 r2) := blk_cell (hSw.blk (fun h => h) BP.out) 1
            clear hSw
            (go_simp <;> with_reducible rfl))
           try simp only [Act.put, List.getElem_toArray, List.getElem_cons_zero, List.getElem_cons_succ, List.setIfInBounds_toArray, List.set_cons_zero, List.set_cons_succ]
           first
            | (refine wpAnyH_take (i := 30) (v := undef) rfl (by kernel_rfl) (by kernel_rfl) (by kernel_rfl) (fun _ _ _ h => h) (Or.inr ⟨by rfl, rfl⟩) (by assumption) ?_)
            | (refine wpAnyH_take (i := 30) (v := ?_) rfl (by kernel_rfl) (by kernel_rfl) (by kernel_rfl) (fun _ _ _ h => h) (Or.inl ⟨by rfl, ?_⟩) (by assumption) ?_
               rotate_left
               (intro w hSw
                (try dsimp only at hSw)
                (go_simp <;> with_reducible rfl)))
           try simp only [Act.put, List.getElem_toArray, List.getElem_cons_zero, List.getElem_cons_succ, List.setIfInBounds_toArray, List.set_cons_zero, List.set_cons_succ]
           as_aux_lemma =>
            refine wpAnyH_ready (rs := [31]) (by kernel_rfl) (by simp) ?_
            refine AllReadyH.cons (i := 31) (o := _) rfl (fun K hK => ?_) ?_
            rotate_left
            ·
             exact AllReadyH.nil
            go_simp
            have GC : Hid (Chg (fun _ => False) wz d4) := hide (GW.out)
            refine (arrow_any t0 cx (by have := ST.out; omega) (by have := SW.out.2.2; omega) (.slice fa t0.len fc) (.slice ka cx.len kc) r2 (fun x => x < d4.heap.size) d4 (fun x h => h) (TPR.out.all GC.out) (TCX.out.all GC.out)).mono ?_
            rintro e d5 ⟨⟨v', rfl, tv⟩, g'⟩
            obtain ⟨ha, hc, rfl, _⟩ := id tv
            have GW : Hid (Chg (fun _ => False) wz d5) := hide (GC.out.trans g')
            have TAR := hide (tv.up (Y := fun x => x < d5.heap.size) (fun x hx => hx.2))
            clear tv
            clear g' GC
            go_simp
            refine hK.out _ _ GW (fun hHeld => ?_)
            clear hK K
            try simp only [Act.put, List.getElem_toArray, List.getElem_cons_zero, List.getElem_cons_succ, List.setIfInBounds_toArray, List.set_cons_zero, List.set_cons_succ]
            as_aux_lemma =>
             refine wpAnyH_ready (rs := [32]) (by kernel_rfl) (by simp) ?_
             refine AllReadyH.cons (i := 32) (o := _) rfl (fun K hK => ?_) ?_
             rotate_left
             ·
              exact AllReadyH.nil
             go_simp
             have GC : Hid (Chg (fun _ => False) wz d5) := hide (GW.out)
             refine (equal_any (cx.app t0) (cx.app t0) (by have := HSZ.out; omega) (by have := HSZ.out; omega) r2 r2 (.slice ga (cx.app t0).len gc) (.slice ha (cx.app t0).len hc) (fun x => x < d5.heap.size) d5 (fun x h => h) (TGR.out.all GC.out) TAR.out).mono ?_
             rintro e d6 ⟨rfl, g'⟩
             rw [show ((r2 == r2) && decide (cx.app t0 = cx.app t0)) = true by simp]
             have GW : Hid (Chg (fun _ => False) wz d6) := hide (GC.out.trans g')
             clear g' GC
             go_simp
             refine hK.out _ _ GW (fun hHeld => ?_)
             clear hK K
             try simp only [Act.put, List.getElem_toArray, List.getElem_cons_zero, List.getElem_cons_succ, List.setIfInBounds_toArray, List.set_cons_zero, List.set_cons_succ]
             as_aux_lemma =>
              first
               | (refine wpAnyH_take (i := 33) (v := undef) rfl (by kernel_rfl) (by kernel_rfl) (by kernel_rfl) (fun _ _ _ h => h) (Or.inr ⟨by rfl, rfl⟩) (by assumption) ?_)
               | (refine wpAnyH_take (i := 33) (v := ?_) rfl (by kernel_rfl) (by kernel_rfl) (by kernel_rfl) (fun _ _ _ h => h) (Or.inl ⟨by rfl, ?_⟩) (by assumption) ?_
                  rotate_left
                  (intro w hSw
                   (try dsimp only at hSw)
                   (go_simp <;> with_reducible rfl)))
              try simp only [Act.put, List.getElem_toArray, List.getElem_cons_zero, List.getElem_cons_succ, List.setIfInBounds_toArray, List.set_cons_zero, List.set_cons_succ]
              refine wpAnyH_take (i := 34) (v := ?_) rfl (by kernel_rfl) (by kernel_rfl) (by kernel_rfl) (fun _ _ _ h => h) (Or.inl ⟨by rfl, ?_⟩) (by assumption) ?_
              rotate_left
              (intro w' hSw
               replace hSw := hSw.out
               have r0 : w'.cell? ⟨A, 0, none⟩ = some (.int .i64 wn) := blk_cell (hSw.blk (fun h => h) BA.out) 0
               have r1 : w'.cell? ⟨A, 1, none⟩ = some (.slice va cs.len vc) := blk_cell (hSw.blk (fun h => h) BA.out) 1
               have r2 : w'.cell? ⟨A, 2, none⟩ = some (.slice na ms.len nc) := blk_cell (hSw.blk (fun h => h) BA.out) 2
               clear hSw
               (go_simp <;> with_reducible rfl))
              try simp only [Act.put, List.getElem_toArray, List.getElem_cons_zero, List.getElem_cons_succ, List.setIfInBounds_toArray, List.set_cons_zero, List.set_cons_succ]
              first
               | (refine wpAnyH_take (i := 35) (v := undef) rfl (by kernel_rfl) (by kernel_rfl) (by kernel_rfl) (fun _ _ _ h => h) (Or.inr ⟨by rfl, rfl⟩) (by assumption) ?_)
               | (refine wpAnyH_take (i := 35) (v := ?_) rfl (by kernel_rfl) (by kernel_rfl) (by kernel_rfl) (fun _ _ _ h => h) (Or.inl ⟨by rfl, ?_⟩) (by assumption) ?_
                  rotate_left
                  (intro w hSw
                   (try dsimp only at hSw)
                   (go_simp <;> with_reducible rfl)))
              try simp only [Act.put, List.getElem_toArray, List.getElem_cons_zero, List.getElem_cons_succ, List.setIfInBounds_toArray, List.set_cons_zero, List.set_cons_succ]
              refine wpAnyH_take (i := 36) (v := ?_) rfl (by kernel_rfl) (by kernel_rfl) (by kernel_rfl) (fun _ _ _ h => h) (Or.inl ⟨by rfl, ?_⟩) (by assumption) ?_
              rotate_left
              (intro w' hSw
               replace hSw := hSw.out
               have r0 : w'.cell? ⟨X, 0, none⟩ = some (.slice xa t0.len xc) := blk_cell (hSw.blk (fun h => h) BX.out) 0
               have r1 : w'.cell? ⟨X, 1, none⟩ = some (.int .i64 t1) := blk_cell (hSw.blk (fun h => h) BX.out) 1
               have r2 : w'.cell? ⟨X, 2, none⟩ = some (.int .i64 t2) := blk_cell (hSw.blk (fun h => h) BX.out) 2
               have r3 : w'.cell? ⟨X, 3, none⟩ = some (.slice xd t3.len xe) := blk_cell (hSw.blk (fun h => h) BX.out) 3
               clear hSw
               (go_simp <;> with_reducible rfl))
              try simp only [Act.put, List.getElem_toArray, List.getElem_cons_zero, List.getElem_cons_succ, List.setIfInBounds_toArray, List.set_cons_zero, List.set_cons_succ]
              refine wpAnyH_take (i := 37) (v := ?_) rfl (by kernel_rfl) (by kernel_rfl) (by kernel_rfl) (fun _ _ _ h => h) (Or.inl ⟨by rfl, ?_⟩) (by assumption) ?_
              rotate_left
              (intro w' hSw
               replace hSw := hSw.out
               have r0 : w'.cell? ⟨D, 0, none⟩ = some (.slice fa t0.len fc) := blk_cell (hSw.blk (fun h => h) BP.out) 0
               have r1 : w'.cell? ⟨D, 1, none⟩ = some (.int .i64 r2) := blk_cell (hSw.blk (fun h => h) BP.out) 1
               clear hSw
               (go_simp <;> with_reducible rfl))
              try simp only [Act.put, List.getElem_toArray, List.getElem_cons_zero, List.getElem_cons_succ, List.setIfInBounds_toArray, List.set_cons_zero, List.set_cons_succ]
              as_aux_lemma =>
               refine wpAnyH_ready (rs := [38]) (by kernel_rfl) (by simp) ?_
               refine AllReadyH.cons (i := 38) (o := _) rfl (fun K hK => ?_) ?_
               rotate_left
               ·
                exact AllReadyH.nil
               go_simp
               have GC : Hid (Chg (fun _ => False) wz d6) := hide (GW.out)
               refine (check_any cs ms (by have := SW.out.1; omega) (by have := SW.out.2.1; omega) wn cx (t0, t1, t2, t3) (t0, r2) va vc na nc _ _ _ d6 (by have := SW.out.2.2; have := ST.out; dsimp only [Tm.bs, Tm.ag]; omega) OKT.out.2.1 OKT.out.2.2.2.1 (by have := HSZ.out; dsimp only; omega) (TVA.out.all GC.out) (TVN.out.all GC.out) (TCX.out.all GC.out) (TXT.out.all GC.out) (TPP.out.all GC.out)).mono ?_
               rintro e d7 ⟨rfl, g'⟩
               rw [HE1.out]
               have GW : Hid (Chg (fun _ => False) wz d7) := hide (GC.out.trans g')
               clear g' GC
               go_simp
               refine hK.out _ _ GW (fun hHeld => ?_)
               clear hK K
               try simp only [Act.put, List.getElem_toArray, List.getElem_cons_zero, List.getElem_cons_succ, List.setIfInBounds_toArray, List.set_cons_zero, List.set_cons_succ]
               as_aux_lemma =>
                by_cases k1 : ¬ E1 = 0
                ·
                 have k1b : (E1 != 0) = true := by simp [k1]
                 clear k1
                 first
                  | (refine wpAnyH_take (i := 39) (v := undef) rfl (by kernel_rfl) (by kernel_rfl) (by kernel_rfl) (fun _ _ _ h => h) (Or.inr ⟨by rfl, rfl⟩) (by assumption) ?_)
                  | (refine wpAnyH_take (i := 39) (v := ?_) rfl (by kernel_rfl) (by kernel_rfl) (by kernel_rfl) (fun _ _ _ h => h) (Or.inl ⟨by rfl, ?_⟩) (by assumption) ?_
                     rotate_left
                     (intro w hSw
                      (try dsimp only at hSw)
                      (go_simp <;> with_reducible rfl)))
                 try simp only [Act.put, List.getElem_toArray, List.getElem_cons_zero, List.getElem_cons_succ, List.setIfInBounds_toArray, List.set_cons_zero, List.set_cons_succ]
                 first
                  | (refine wpAnyH_take (i := 40) (v := undef) rfl (by kernel_rfl) (by kernel_rfl) (by kernel_rfl) (fun _ _ _ h => h) (Or.inr ⟨by rfl, rfl⟩) (by assumption) ?_)
                  | (refine wpAnyH_take (i := 40) (v := ?_) rfl (by kernel_rfl) (by kernel_rfl) (by kernel_rfl) (fun _ _ _ h => h) (Or.inl ⟨by rfl, ?_⟩) (by assumption) ?_
                     rotate_left
                     (intro w hSw
                      (try dsimp only at hSw)
                      (go_simp <;> with_reducible rfl)))
                 try simp only [Act.put, List.getElem_toArray, List.getElem_cons_zero, List.getElem_cons_succ, List.setIfInBounds_toArray, List.set_cons_zero, List.set_cons_succ]
                 as_aux_lemma =>
                  refine wpAnyH_take (i := 41) (v := undef) rfl (by kernel_rfl) (by kernel_rfl) (by kernel_rfl) (fun _ _ _ h => h) (Or.inr ⟨by rfl, rfl⟩) (by assumption) ?_
                  try simp only [Act.put, List.getElem_toArray, List.getElem_cons_zero, List.getElem_cons_succ, List.setIfInBounds_toArray, List.set_cons_zero, List.set_cons_succ]
                  refine wpAnyH_take (i := 42) (v := undef) rfl (by kernel_rfl) (by kernel_rfl) (by kernel_rfl) (fun _ _ _ h => h) (Or.inr ⟨by rfl, rfl⟩) (by assumption) ?_
                  try simp only [Act.put, List.getElem_toArray, List.getElem_cons_zero, List.getElem_cons_succ, List.setIfInBounds_toArray, List.set_cons_zero, List.set_cons_succ]
                  refine wpAnyH_take (i := 43) (v := undef) rfl (by kernel_rfl) (by kernel_rfl) (by kernel_rfl) (fun _ _ _ h => h) (Or.inr ⟨by rfl, rfl⟩) (by assumption) ?_
                  try simp only [Act.put, List.getElem_toArray, List.getElem_cons_zero, List.getElem_cons_succ, List.setIfInBounds_toArray, List.set_cons_zero, List.set_cons_succ]
                  refine wpAnyH_take (i := 44) (v := undef) rfl (by kernel_rfl) (by kernel_rfl) (by kernel_rfl) (fun _ _ _ h => h) (Or.inr ⟨by rfl, rfl⟩) (by assumption) ?_
                  try simp only [Act.put, List.getElem_toArray, List.getElem_cons_zero, List.getElem_cons_succ, List.setIfInBounds_toArray, List.set_cons_zero, List.set_cons_succ]
                  refine wpAnyH_take (i := 45) (v := undef) rfl (by kernel_rfl) (by kernel_rfl) (by kernel_rfl) (fun _ _ _ h => h) (Or.inr ⟨by rfl, rfl⟩) (by assumption) ?_
                  try simp only [Act.put, List.getElem_toArray, List.getElem_cons_zero, List.getElem_cons_succ, List.setIfInBounds_toArray, List.set_cons_zero, List.set_cons_succ]
                  as_aux_lemma =>
                   first
                    | (refine wpAnyH_take (i := 46) (v := undef) rfl (by kernel_rfl) (by kernel_rfl) (by kernel_rfl) (fun _ _ _ h => h) (Or.inr ⟨by rfl, rfl⟩) (by assumption) ?_)
                    | (refine wpAnyH_take (i := 46) (v := ?_) rfl (by kernel_rfl) (by kernel_rfl) (by kernel_rfl) (fun _ _ _ h => h) (Or.inl ⟨by rfl, ?_⟩) (by assumption) ?_
                       rotate_left
                       (intro w hSw
                        (try dsimp only at hSw)
                        (go_simp <;> with_reducible rfl)))
                   try simp only [Act.put, List.getElem_toArray, List.getElem_cons_zero, List.getElem_cons_succ, List.setIfInBounds_toArray, List.set_cons_zero, List.set_cons_succ]
                   first
                    | (refine wpAnyH_take (i := 47) (v := undef) rfl (by kernel_rfl) (by kernel_rfl) (by kernel_rfl) (fun _ _ _ h => h) (Or.inr ⟨by rfl, rfl⟩) (by assumption) ?_)
                    | (refine wpAnyH_take (i := 47) (v := ?_) rfl (by kernel_rfl) (by kernel_rfl) (by kernel_rfl) (fun _ _ _ h => h) (Or.inl ⟨by rfl, ?_⟩) (by assumption) ?_
                       rotate_left
                       (intro w hSw
                        (try dsimp only at hSw)
                        (go_simp <;> with_reducible rfl)))
                   try simp only [Act.put, List.getElem_toArray, List.getElem_cons_zero, List.getElem_cons_succ, List.setIfInBounds_toArray, List.set_cons_zero, List.set_cons_succ]
                   first
                    | (refine wpAnyH_take (i := 48) (v := undef) rfl (by kernel_rfl) (by kernel_rfl) (by kernel_rfl) (fun _ _ _ h => h) (Or.inr ⟨by rfl, rfl⟩) (by assumption) ?_)
                    | (refine wpAnyH_take (i := 48) (v := ?_) rfl (by kernel_rfl) (by kernel_rfl) (by kernel_rfl) (fun _ _ _ h => h) (Or.inl ⟨by rfl, ?_⟩) (by assumption) ?_
                       rotate_left
                       (intro w hSw
                        (try dsimp only at hSw)
                        (go_simp <;> with_reducible rfl)))
                   try simp only [Act.put, List.getElem_toArray, List.getElem_cons_zero, List.getElem_cons_succ, List.setIfInBounds_toArray, List.set_cons_zero, List.set_cons_succ]
                   first
                    | (refine wpAnyH_take (i := 49) (v := undef) rfl (by kernel_rfl) (by kernel_rfl) (by kernel_rfl) (fun _ _ _ h => h) (Or.inr ⟨by rfl, rfl⟩) (by assumption) ?_)
                    | (refine wpAnyH_take (i := 49) (v := ?_) rfl (by kernel_rfl) (by kernel_rfl) (by kernel_rfl) (fun _ _ _ h => h) (Or.inl ⟨by rfl, ?_⟩) (by assumption) ?_
                       rotate_left
                       (intro w hSw
                        (try dsimp only at hSw)
                        (go_simp <;> with_reducible rfl)))
                   try simp only [Act.put, List.getElem_toArray, List.getElem_cons_zero, List.getElem_cons_succ, List.setIfInBounds_toArray, List.set_cons_zero, List.set_cons_succ]
                   first
                    | (refine wpAnyH_take (i := 50) (v := undef) rfl (by kernel_rfl) (by kernel_rfl) (by kernel_rfl) (fun _ _ _ h => h) (Or.inr ⟨by rfl, rfl⟩) (by assumption) ?_)
                    | (refine wpAnyH_take (i := 50) (v := ?_) rfl (by kernel_rfl) (by kernel_rfl) (by kernel_rfl) (fun _ _ _ h => h) (Or.inl ⟨by rfl, ?_⟩) (by assumption) ?_
                       rotate_left
                       (intro w hSw
                        (try dsimp only at hSw)
                        (go_simp <;> with_reducible rfl)))
                   try simp only [Act.put, List.getElem_toArray, List.getElem_cons_zero, List.getElem_cons_succ, List.setIfInBounds_toArray, List.set_cons_zero, List.set_cons_succ]
                   refine wpAnyH_done (by kernel_rfl) ?_ _
                   go_wp2_with fail
                   go_meet
                   exact ⟨rfl, GW⟩
                replace k1 := Decidable.not_not.1 k1
                subst k1
                first
                 | (refine wpAnyH_take (i := 39) (v := undef) rfl (by kernel_rfl) (by kernel_rfl) (by kernel_rfl) (fun _ _ _ h => h) (Or.inr ⟨by rfl, rfl⟩) (by assumption) ?_)
                 | (refine wpAnyH_take (i := 39) (v := ?_) rfl (by kernel_rfl) (by kernel_rfl) (by kernel_rfl) (fun _ _ _ h => h) (Or.inl ⟨by rfl, ?_⟩) (by assumption) ?_
                    rotate_left
                    (intro w hSw
                     (try dsimp only at hSw)
                     (go_simp <;> with_reducible rfl)))
                try simp only [Act.put, List.getElem_toArray, List.getElem_cons_zero, List.getElem_cons_succ, List.setIfInBounds_toArray, List.set_cons_zero, List.set_cons_succ]
                first
                 | (refine wpAnyH_take (i := 40) (v := undef) rfl (by kernel_rfl) (by kernel_rfl) (by kernel_rfl) (fun _ _ _ h => h) (Or.inr ⟨by rfl, rfl⟩) (by assumption) ?_)
                 | (refine wpAnyH_take (i := 40) (v := ?_) rfl (by kernel_rfl) (by kernel_rfl) (by kernel_rfl) (fun _ _ _ h => h) (Or.inl ⟨by rfl, ?_⟩) (by assumption) ?_
                    rotate_left
                    (intro w hSw
                     (try dsimp only at hSw)
                     (go_simp <;> with_reducible rfl)))
                try simp only [Act.put, List.getElem_toArray, List.getElem_cons_zero, List.getElem_cons_succ, List.setIfInBounds_toArray, List.set_cons_zero, List.set_cons_succ]
                as_aux_lemma =>
                 refine wpAnyH_take (i := 41) (v := ?_) rfl (by kernel_rfl) (by kernel_rfl) (by kernel_rfl) (fun _ _ _ h => h) (Or.inl ⟨by rfl, ?_⟩) (by assumption) ?_
                 rotate_left
                 (intro w' hSw
                  replace hSw := hSw.out
                  have r0 : w'.cell? ⟨A, 0, none⟩ = some (.int .i64 wn) := blk_cell (hSw.blk (fun h => h) BA.out) 0
                  have r1 : w'.cell? ⟨A, 1, none⟩ = some (.slice va cs.len vc) := blk_cell (hSw.blk (fun h => h) BA.out) 1
                  have r2 : w'.cell? ⟨A, 2, none⟩ = some (.slice na ms.len nc) := blk_cell (hSw.blk (fun h => h) BA.out) 2
                  clear hSw
                  (go_simp <;> with_reducible rfl))
                 try simp only [Act.put, List.getElem_toArray, List.getElem_cons_zero, List.getElem_cons_succ, List.setIfInBounds_toArray, List.set_cons_zero, List.set_cons_succ]
                 refine wpAnyH_take (i := 42) (v := ?_) rfl (by kernel_rfl) (by kernel_rfl) (by kernel_rfl) (fun _ _ _ h => h) (Or.inl ⟨by rfl, ?_⟩) (by assumption) ?_
                 rotate_left
                 (intro w' hSw
                  replace hSw := hSw.out
                  have r0 : w'.cell? ⟨Y, 0, none⟩ = some (.slice ya (cx.app t0).len yc) := blk_cell (hSw.blk (fun h => h) BY.out) 0
                  have r1 : w'.cell? ⟨Y, 1, none⟩ = some (.int .i64 t1) := blk_cell (hSw.blk (fun h => h) BY.out) 1
                  have r2 : w'.cell? ⟨Y, 2, none⟩ = some (.int .i64 t2) := blk_cell (hSw.blk (fun h => h) BY.out) 2
                  have r3 : w'.cell? ⟨Y, 3, none⟩ = some (.slice yd t3.len ye) := blk_cell (hSw.blk (fun h => h) BY.out) 3
                  clear hSw
                  (go_simp <;> with_reducible rfl))
                 try simp only [Act.put, List.getElem_toArray, List.getElem_cons_zero, List.getElem_cons_succ, List.setIfInBounds_toArray, List.set_cons_zero, List.set_cons_succ]
                 refine wpAnyH_take (i := 43) (v := ?_) rfl (by kernel_rfl) (by kernel_rfl) (by kernel_rfl) (fun _ _ _ h => h) (Or.inl ⟨by rfl, ?_⟩) (by assumption) ?_
                 rotate_left
                 (intro w' hSw
                  replace hSw := hSw.out
                  have r0 : w'.cell? ⟨E, 0, none⟩ = some (.slice ga (cx.app t0).len gc) := blk_cell (hSw.blk (fun h => h) BG.out) 0
                  have r1 : w'.cell? ⟨E, 1, none⟩ = some (.int .i64 r2) := blk_cell (hSw.blk (fun h => h) BG.out) 1
                  clear hSw
                  (go_simp <;> with_reducible rfl))
                 try simp only [Act.put, List.getElem_toArray, List.getElem_cons_zero, List.getElem_cons_succ, List.setIfInBounds_toArray, List.set_cons_zero, List.set_cons_succ]
                 as_aux_lemma =>
                  refine wpAnyH_ready (rs := [44]) (by kernel_rfl) (by simp) ?_
                  refine AllReadyH.cons (i := 44) (o := _) rfl (fun K hK => ?_) ?_
                  rotate_left
                  ·
                   exact AllReadyH.nil
                  go_simp
                  have GC : Hid (Chg (fun _ => False) wz d7) := hide (GW.out)
                  refine (check_any cs ms (by have := SW.out.1; omega) (by have := SW.out.2.1; omega) wn .nil (cx.app t0, t1, t2, t3) (cx.app t0, r2) va vc na nc (.slice none 0 0) _ _ d7 (by have := HSZ.out; dsimp only [Tm.bs, Tm.ag, Fs.size]; omega) OKY.out.2.1 OKY.out.2.2.2.1 (by have := HSZ.out; dsimp only; omega) (TVA.out.all GC.out) (TVN.out.all GC.out) (Ts.nil _ _) (TYY.out.all GC.out) (TGG.out.all GC.out)).mono ?_
                  rintro e d8 ⟨rfl, g'⟩
                  rw [HE2.out]
                  have GW : Hid (Chg (fun _ => False) wz d8) := hide (GC.out.trans g')
                  clear g' GC
                  go_simp
                  refine hK.out _ _ GW (fun hHeld => ?_)
                  clear hK K
                  try simp only [Act.put, List.getElem_toArray, List.getElem_cons_zero, List.getElem_cons_succ, List.setIfInBounds_toArray, List.set_cons_zero, List.set_cons_succ]
                  first
                   | (refine wpAnyH_take (i := 45) (v := undef) rfl (by kernel_rfl) (by kernel_rfl) (by kernel_rfl) (fun _ _ _ h => h) (Or.inr ⟨by rfl, rfl⟩) (by assumption) ?_)
                   | (refine wpAnyH_take (i := 45) (v := ?_) rfl (by kernel_rfl) (by kernel_rfl) (by kernel_rfl) (fun _ _ _ h => h) (Or.inl ⟨by rfl, ?_⟩) (by assumption) ?_
                      rotate_left
                      (intro w hSw
                       (try dsimp only at hSw)
                       (go_simp <;> with_reducible rfl)))
                  try simp only [Act.put, List.getElem_toArray, List.getElem_cons_zero, List.getElem_cons_succ, List.setIfInBounds_toArray, List.set_cons_zero, List.set_cons_succ]
                  as_aux_lemma =>
                   first
                    | (refine wpAnyH_take (i := 46) (v := undef) rfl (by kernel_rfl) (by kernel_rfl) (by kernel_rfl) (fun _ _ _ h => h) (Or.inr ⟨by rfl, rfl⟩) (by assumption) ?_)
                    | (refine wpAnyH_take (i := 46) (v := ?_) rfl (by kernel_rfl) (by kernel_rfl) (by kernel_rfl) (fun _ _ _ h => h) (Or.inl ⟨by rfl, ?_⟩) (by assumption) ?_
                       rotate_left
                       (intro w hSw
                        (try dsimp only at hSw)
                        (go_simp <;> with_reducible rfl)))
                   try simp only [Act.put, List.getElem_toArray, List.getElem_cons_zero, List.getElem_cons_succ, List.setIfInBounds_toArray, List.set_cons_zero, List.set_cons_succ]
                   first
                    | (refine wpAnyH_take (i := 47) (v := undef) rfl (by kernel_rfl) (by kernel_rfl) (by kernel_rfl) (fun _ _ _ h => h) (Or.inr ⟨by rfl, rfl⟩) (by assumption) ?_)
                    | (refine wpAnyH_take (i := 47) (v := ?_) rfl (by kernel_rfl) (by kernel_rfl) (by kernel_rfl) (fun _ _ _ h => h) (Or.inl ⟨by rfl, ?_⟩) (by assumption) ?_
                       rotate_left
                       (intro w hSw
                        (try dsimp only at hSw)
                        (go_simp <;> with_reducible rfl)))
                   try simp only [Act.put, List.getElem_toArray, List.getElem_cons_zero, List.getElem_cons_succ, List.setIfInBounds_toArray, List.set_cons_zero, List.set_cons_succ]
                   first
                    | (refine wpAnyH_take (i := 48) (v := undef) rfl (by kernel_rfl) (by kernel_rfl) (by kernel_rfl) (fun _ _ _ h => h) (Or.inr ⟨by rfl, rfl⟩) (by assumption) ?_)
                    | (refine wpAnyH_take (i := 48) (v := ?_) rfl (by kernel_rfl) (by kernel_rfl) (by kernel_rfl) (fun _ _ _ h => h) (Or.inl ⟨by rfl, ?_⟩) (by assumption) ?_
                       rotate_left
                       (intro w hSw
                        (try dsimp only at hSw)
                        (go_simp <;> with_reducible rfl)))
                   try simp only [Act.put, List.getElem_toArray, List.getElem_cons_zero, List.getElem_cons_succ, List.setIfInBounds_toArray, List.set_cons_zero, List.set_cons_succ]
                   first
                    | (refine wpAnyH_take (i := 49) (v := undef) rfl (by kernel_rfl) (by kernel_rfl) (by kernel_rfl) (fun _ _ _ h => h) (Or.inr ⟨by rfl, rfl⟩) (by assumption) ?_)
                    | (refine wpAnyH_take (i := 49) (v := ?_) rfl (by kernel_rfl) (by kernel_rfl) (by kernel_rfl) (fun _ _ _ h => h) (Or.inl ⟨by rfl, ?_⟩) (by assumption) ?_
                       rotate_left
                       (intro w hSw
                        (try dsimp only at hSw)
                        (go_simp <;> with_reducible rfl)))
                   try simp only [Act.put, List.getElem_toArray, List.getElem_cons_zero, List.getElem_cons_succ, List.setIfInBounds_toArray, List.set_cons_zero, List.set_cons_succ]
                   first
                    | (refine wpAnyH_take (i := 50) (v := undef) rfl (by kernel_rfl) (by kernel_rfl) (by kernel_rfl) (fun _ _ _ h => h) (Or.inr ⟨by rfl, rfl⟩) (by assumption) ?_)
                    | (refine wpAnyH_take (i := 50) (v := ?_) rfl (by kernel_rfl) (by kernel_rfl) (by kernel_rfl) (fun _ _ _ h => h) (Or.inl ⟨by rfl, ?_⟩) (by assumption) ?_
                       rotate_left
                       (intro w hSw
                        (try dsimp only at hSw)
                        (go_simp <;> with_reducible rfl)))
                   try simp only [Act.put, List.getElem_toArray, List.getElem_cons_zero, List.getElem_cons_succ, List.setIfInBounds_toArray, List.set_cons_zero, List.set_cons_succ]
                   refine wpAnyH_done (by kernel_rfl) ?_ _
                   go_wp2_with fail
                   go_meet
                   exact ⟨rfl, GW⟩
 case rest =>
 obtain ⟨rfl, GO⟩ := hcut
 generalize wc = wq at *
 have GF := hide (GG.out.trans GO.out)
 clear GO
 go_wp2_with fail
 go_ret
 exact ⟨rfl, GF.out⟩
end Go.Proofs.YtnpcapdlgcaniaaDoor
