/- term.TypeOf. -/
import Derived.Test.YtnpcapdlgcaniaaDoorHead55
import Derived.Test.YtnpcapdlgcaniaaDoorClose30
import Derived.Test.YtnpcapdlgcaniaaDoorBehind
import Derived.Deep.DeepCutAuto
import Derived.Deep.CutBlock
namespace Go.Proofs.YtnpcapdlgcaniaaDoor
open Go.RowKit
set_option linter.unusedVariables false
set_option linter.unusedSimpArgs false

theorem Ts.of_newX {w w' : World} {v : Value} {f : Fs} (h : Ts w' (New (fun x => x < w.heap.size) w w') v f) (g : Chg (fun _ => False) w w') : Ts w' (fun x => x < w'.heap.size) v f :=
  h.up (fun x hx => by have := g.size; rcases hx with hx | hx <;> omega)
theorem TyV.all {w w' : World} {v : Value} {f : Fs × Int} (h : TyV w (fun x => x < w.heap.size) v f) (g : Chg (fun _ => False) w w') : TyV w' (fun x => x < w'.heap.size) v f :=
  (h.chg g (fun _ _ h => h)).up (fun x hx => Nat.lt_of_lt_of_le hx g.size)
/-- a term's type, by its head's -/
def typeG (b : Fs) (R : Option (Fs × Int)) : Fs × Int := match R with
  | none => (.nil, 0)
  | some p => (b, p.2)

set_option maxRecDepth 100000 in
set_option maxHeartbeats 16000000 in
theorem typeof_any (n : Int) (cs ms ctx : Fs) (t : Tm) (hi : In64' t.ix) (hcs : cs.len ≤ 1000000) (hms : ms.len ≤ 1000000) (hcx : ctx.len ≤ 50000) (hb : t.bs.size ≤ 50000) (ca : Option Addr) (cc : Nat) (ma : Option Addr) (mc : Nat) (vx v : Value) (w : World)
    (h1 : Ts w (fun x => x < w.heap.size) (.slice ca cs.len cc) cs) (h2 : Ts w (fun x => x < w.heap.size) (.slice ma ms.len mc) ms) (h3 : Ts w (fun x => x < w.heap.size) vx ctx) (hv : TV w (fun x => x < w.heap.size) v t) :
    Calls Tryd.prog 33 #[wldV n ca cs.len cc ma ms.len mc, vx, v] w fun e w' =>
      (∃ v', e = .returned (.tuple #[v', .int .i64 (if (headG cs ms (ctx.app t.bs) t.kd t.ix).isSome then 0 else 10)]) ∧ TyV w' (fun x => x < w'.heap.size) v' (typeG t.bs (headG cs ms (ctx.app t.bs) t.kd t.ix))) ∧ Chg (fun _ => False) w w' := by
  obtain ⟨b, k, i, f⟩ := t
  obtain ⟨xa, xc, rfl, _⟩ := id h3
  obtain ⟨ba, bc, a, cap, rfl, hb1, hb2⟩ := hv
  dsimp only [Tm.bs, Tm.kd, Tm.ix, Tm.ag] at *
  have hbl := Fs.len_size b
  have hal := Fs.app_len ctx b
  obtain ⟨R, hR⟩ : ∃ R, headG cs ms (ctx.app b) k i = R := ⟨_, rfl⟩
  rw [hR]
  have W1 := al w (.cells #[.int .i64 n, .slice ca cs.len cc, .slice ma ms.len mc] 66)
  have B1 := blk_new w (.cells #[.int .i64 n, .slice ca cs.len cc, .slice ma ms.len mc] 66)
  have W2 := al (w.alloc (.cells #[.int .i64 n, .slice ca cs.len cc, .slice ma ms.len mc] 66)) (.cells #[.slice ba b.len bc, .int .i64 k, .int .i64 i, .slice a f.len cap] 35)
  have B2 := blk_new (w.alloc (.cells #[.int .i64 n, .slice ca cs.len cc, .slice ma ms.len mc] 66)) (.cells #[.slice ba b.len bc, .int .i64 k, .int .i64 i, .slice a f.len cap] 35)
  have W3 := al ((w.alloc (.cells #[.int .i64 n, .slice ca cs.len cc, .slice ma ms.len mc] 66)).alloc (.cells #[.slice ba b.len bc, .int .i64 k, .int .i64 i, .slice a f.len cap] 35)) (.cells #[.slice none 0 0, .int .i64 0] 73)
  have B3 := blk_new ((w.alloc (.cells #[.int .i64 n, .slice ca cs.len cc, .slice ma ms.len mc] 66)).alloc (.cells #[.slice ba b.len bc, .int .i64 k, .int .i64 i, .slice a f.len cap] 35)) (.cells #[.slice none 0 0, .int .i64 0] 73)
  rw [al_sz] at B2
  rw [al_sz, al_sz] at B3
  have GG := hide ((W1.trans W2).trans W3)
  have b1 := hide (W3.blk (fun h => h) (W2.blk (fun h => h) B1))
  have b2 := hide (W3.blk (fun h => h) B2)
  have b3 := hide B3
  have H1 := hide (h1.all GG.out)
  have H2 := hide (h2.all GG.out)
  have H3 := hide (h3.all GG.out)
  have H4 := hide (hb1.all GG.out)
  have HR := hide hR
  have HI := hide hi
  have HA := hide hal
  clear W1 W2 W3 B1 B2 B3 h1 h2 h3 hb1 hb2 hR hi hal
  obtain ⟨P, hP⟩ : ∃ P, w.heap.size = P := ⟨_, rfl⟩
  have HP := hide hP
  rw [hP] at b1 b2 b3
  go_enter Tryd.func33, Tryd.ntmps33
  go_upto_region 1 with fail
  try rw [hP]
  clear hP
  generalize ((w.alloc (.cells #[.int .i64 n, .slice ca cs.len cc, .slice ma ms.len mc] 66)).alloc (.cells #[.slice ba b.len bc, .int .i64 k, .int .i64 i, .slice a f.len cap] 35)).alloc (.cells #[.slice none 0 0, .int .i64 0] 73) = w1 at *
  obtain ⟨⟨d1, d2⟩, hD⟩ : ∃ D, R.getD (.nil, 0) = D := ⟨_, rfl⟩
  obtain ⟨rb, hrb⟩ : ∃ rb, R.isSome = rb := ⟨_, rfl⟩
  have HD := hide hD
  have HRB := hide hrb
  clear hD hrb
  have B1s : Hid (P + 1 + 1 < w1.heap.size) := hide (blk_lt b3.out)
  have h0 : w1.cell? ⟨P, 0, none⟩ = some (.int .i64 n) := blk_cell b1.out 0
  have h1 : w1.cell? ⟨P, 1, none⟩ = some (.slice ca cs.len cc) := blk_cell b1.out 1
  have h2 : w1.cell? ⟨P, 2, none⟩ = some (.slice ma ms.len mc) := blk_cell b1.out 2
  have k0 : w1.cell? ⟨P + 1, 0, none⟩ = some (.slice ba b.len bc) := blk_cell b2.out 0
  have k1 : w1.cell? ⟨P + 1, 1, none⟩ = some (.int .i64 k) := blk_cell b2.out 1
  have k2 : w1.cell? ⟨P + 1, 2, none⟩ = some (.int .i64 i) := blk_cell b2.out 2
  have k3 : w1.cell? ⟨P + 1, 3, none⟩ = some (.slice a f.len cap) := blk_cell b2.out 3
  go_cut [8, 9] (fun s8 s9 wx => ∃ (O : Nat) (va : Option Addr) (vc : Nat), s8 = .pointer (some ⟨O, 0, none⟩) ∧ s9 = .bool rb ∧ Hid (wx.heap[O]? = some (.cells #[.slice va d1.len vc, .int .i64 d2] 73)) ∧ Hid (Chg (fun _ => False) w1 wx ∧ w1.heap.size ≤ O))
  case first =>
    refine wp_region_held_drew (S := (fun w' => w'.cell? ⟨P, 0, none⟩ = some (.int .i64 n) ∧ w'.cell? ⟨P, 1, none⟩ = some (.slice ca cs.len cc) ∧ w'.cell? ⟨P, 2, none⟩ = some (.slice ma ms.len mc) ∧ w'.cell? ⟨(P + 1), 0, none⟩ = some (.slice ba b.len bc) ∧ w'.cell? ⟨(P + 1), 1, none⟩ = some (.int .i64 k) ∧ w'.cell? ⟨(P + 1), 2, none⟩ = some (.int .i64 i) ∧ w'.cell? ⟨(P + 1), 3, none⟩ = some (.slice a f.len cap))) (by kernel_rfl) (by go_keep) (fun hHeld => ?_)
    first
      | (refine wpAnyH_take (i := 0) (v := undef) rfl (by kernel_rfl) (by kernel_rfl) (by kernel_rfl) (fun _ _ _ h => h) (Or.inr ⟨by rfl, rfl⟩) (by assumption) ?_)
      | (refine wpAnyH_take (i := 0) (v := ?_) rfl (by kernel_rfl) (by kernel_rfl) (by kernel_rfl) (fun _ _ _ h => h) (Or.inl ⟨by rfl, ?_⟩) (by assumption) ?_
         rotate_left
         (intro w hSw
          (try dsimp only at hSw)
          (go_simp <;> with_reducible rfl)))
    try simp only [Act.put, List.getElem_toArray, List.getElem_cons_zero, List.getElem_cons_succ, List.setIfInBounds_toArray, List.set_cons_zero, List.set_cons_succ]
    first
      | (refine wpAnyH_take (i := 1) (v := undef) rfl (by kernel_rfl) (by kernel_rfl) (by kernel_rfl) (fun _ _ _ h => h) (Or.inr ⟨by rfl, rfl⟩) (by assumption) ?_)
      | (refine wpAnyH_take (i := 1) (v := ?_) rfl (by kernel_rfl) (by kernel_rfl) (by kernel_rfl) (fun _ _ _ h => h) (Or.inl ⟨by rfl, ?_⟩) (by assumption) ?_
         rotate_left
         (intro w hSw
          (try dsimp only at hSw)
          (go_simp <;> with_reducible rfl)))
    try simp only [Act.put, List.getElem_toArray, List.getElem_cons_zero, List.getElem_cons_succ, List.setIfInBounds_toArray, List.set_cons_zero, List.set_cons_succ]
    first
      | (refine wpAnyH_take (i := 2) (v := undef) rfl (by kernel_rfl) (by kernel_rfl) (by kernel_rfl) (fun _ _ _ h => h) (Or.inr ⟨by rfl, rfl⟩) (by assumption) ?_)
      | (refine wpAnyH_take (i := 2) (v := ?_) rfl (by kernel_rfl) (by kernel_rfl) (by kernel_rfl) (fun _ _ _ h => h) (Or.inl ⟨by rfl, ?_⟩) (by assumption) ?_
         rotate_left
         (intro w hSw
          (try dsimp only at hSw)
          (go_simp <;> with_reducible rfl)))
    try simp only [Act.put, List.getElem_toArray, List.getElem_cons_zero, List.getElem_cons_succ, List.setIfInBounds_toArray, List.set_cons_zero, List.set_cons_succ]
    first
      | (refine wpAnyH_take (i := 3) (v := undef) rfl (by kernel_rfl) (by kernel_rfl) (by kernel_rfl) (fun _ _ _ h => h) (Or.inr ⟨by rfl, rfl⟩) (by assumption) ?_)
      | (refine wpAnyH_take (i := 3) (v := ?_) rfl (by kernel_rfl) (by kernel_rfl) (by kernel_rfl) (fun _ _ _ h => h) (Or.inl ⟨by rfl, ?_⟩) (by assumption) ?_
         rotate_left
         (intro w hSw
          (try dsimp only at hSw)
          (go_simp <;> with_reducible rfl)))
    try simp only [Act.put, List.getElem_toArray, List.getElem_cons_zero, List.getElem_cons_succ, List.setIfInBounds_toArray, List.set_cons_zero, List.set_cons_succ]
    first
      | (refine wpAnyH_take (i := 5) (v := undef) rfl (by kernel_rfl) (by kernel_rfl) (by kernel_rfl) (fun _ _ _ h => h) (Or.inr ⟨by rfl, rfl⟩) (by assumption) ?_)
      | (refine wpAnyH_take (i := 5) (v := ?_) rfl (by kernel_rfl) (by kernel_rfl) (by kernel_rfl) (fun _ _ _ h => h) (Or.inl ⟨by rfl, ?_⟩) (by assumption) ?_
         rotate_left
         (intro w hSw
          (try dsimp only at hSw)
          (go_simp <;> with_reducible rfl)))
    try simp only [Act.put, List.getElem_toArray, List.getElem_cons_zero, List.getElem_cons_succ, List.setIfInBounds_toArray, List.set_cons_zero, List.set_cons_succ]
    first
      | (refine wpAnyH_take (i := 6) (v := undef) rfl (by kernel_rfl) (by kernel_rfl) (by kernel_rfl) (fun _ _ _ h => h) (Or.inr ⟨by rfl, rfl⟩) (by assumption) ?_)
      | (refine wpAnyH_take (i := 6) (v := ?_) rfl (by kernel_rfl) (by kernel_rfl) (by kernel_rfl) (fun _ _ _ h => h) (Or.inl ⟨by rfl, ?_⟩) (by assumption) ?_
         rotate_left
         (intro w hSw
          (try dsimp only at hSw)
          (go_simp <;> with_reducible rfl)))
    try simp only [Act.put, List.getElem_toArray, List.getElem_cons_zero, List.getElem_cons_succ, List.setIfInBounds_toArray, List.set_cons_zero, List.set_cons_succ]
    refine wpAnyH_ready (rs := [4, 11]) (by kernel_rfl) (by simp) ?_
    refine AllReadyH.cons (i := 4) (o := _) rfl (fun K hK => ?_) ?_
    · go_simp
      have GC : Hid (Chg (fun _ => False) w1 w1.drew) := hide ((Chg.refl (fun _ => False) w1).drew)
      refine (within_any ctx b (by omega) (by omega) _ _ (fun x => x < w1.drew.heap.size) w1.drew (fun _ h => h) (H3.out.all GC.out) (H4.out.all GC.out)).mono ?_
      rintro e v1 ⟨⟨v', rfl, tv⟩, g'⟩
      obtain ⟨ia, ic, rfl, _⟩ := id tv
      have TI : Hid (Ts v1 (fun x => x < v1.heap.size) (.slice ia (ctx.app b).len ic) (ctx.app b)) := hide (tv.of_newX g')
      have GW : Hid (Chg (fun _ => False) w1 v1) := hide (GC.out.trans g')
      have h0 := g'.cell (fun h => h) h0
      have h1 := g'.cell (fun h => h) h1
      have h2 := g'.cell (fun h => h) h2
      have k0 := g'.cell (fun h => h) k0
      have k1 := g'.cell (fun h => h) k1
      have k2 := g'.cell (fun h => h) k2
      have k3 := g'.cell (fun h => h) k3
      clear g' tv GC
      go_simp
      refine hK.out _ _ ⟨h0, h1, h2, k0, k1, k2, k3⟩ (fun hHeld => ?_)
      clear hK K
      try simp only [Act.put, List.getElem_toArray, List.getElem_cons_zero, List.getElem_cons_succ, List.setIfInBounds_toArray, List.set_cons_zero, List.set_cons_succ]
      refine wpAnyH_ready (rs := [7, 11]) (by kernel_rfl) (by simp) ?_
      refine AllReadyH.cons (i := 7) (o := _) rfl (fun K hK => ?_) ?_
      · go_simp
        have GC : Hid (Chg (fun _ => False) w1 v1) := hide (GW.out)
        refine (head_any n cs ms (ctx.app b) k i HI.out hcs hms (by have := HA.out; omega) ca cc ma mc _ (fun x => x < v1.heap.size) v1 (fun _ h => h) (H1.out.all GC.out) (H2.out.all GC.out) TI.out).mono ?_
        rintro e v2 ⟨⟨v', rfl, tv⟩, g'⟩
        rw [HR.out, HD.out] at tv
        rw [HR.out, HRB.out]
        obtain ⟨va, vc, rfl, _⟩ := id tv
        dsimp only
        have TI := hide (TI.out.all g')
        have GW : Hid (Chg (fun _ => False) w1 v2) := hide (GC.out.trans g')
        have h0 := g'.cell (fun h => h) h0
        have h1 := g'.cell (fun h => h) h1
        have h2 := g'.cell (fun h => h) h2
        have k0 := g'.cell (fun h => h) k0
        have k1 := g'.cell (fun h => h) k1
        have k2 := g'.cell (fun h => h) k2
        have k3 := g'.cell (fun h => h) k3
        clear g' tv GC
        go_simp
        refine hK.out _ _ ⟨h0, h1, h2, k0, k1, k2, k3⟩ (fun hHeld => ?_)
        clear hK K
        try simp only [Act.put, List.getElem_toArray, List.getElem_cons_zero, List.getElem_cons_succ, List.setIfInBounds_toArray, List.set_cons_zero, List.set_cons_succ]
        first
          | (refine wpAnyH_take (i := 8) (v := undef) rfl (by kernel_rfl) (by kernel_rfl) (by kernel_rfl) (fun _ _ _ h => h) (Or.inr ⟨by rfl, rfl⟩) (by assumption) ?_)
          | (refine wpAnyH_take (i := 8) (v := ?_) rfl (by kernel_rfl) (by kernel_rfl) (by kernel_rfl) (fun _ _ _ h => h) (Or.inl ⟨by rfl, ?_⟩) (by assumption) ?_
             rotate_left
             (intro w hSw
              (try dsimp only at hSw)
              (go_simp <;> with_reducible rfl)))
        try simp only [Act.put, List.getElem_toArray, List.getElem_cons_zero, List.getElem_cons_succ, List.setIfInBounds_toArray, List.set_cons_zero, List.set_cons_succ]
        first
          | (refine wpAnyH_take (i := 9) (v := undef) rfl (by kernel_rfl) (by kernel_rfl) (by kernel_rfl) (fun _ _ _ h => h) (Or.inr ⟨by rfl, rfl⟩) (by assumption) ?_)
          | (refine wpAnyH_take (i := 9) (v := ?_) rfl (by kernel_rfl) (by kernel_rfl) (by kernel_rfl) (fun _ _ _ h => h) (Or.inl ⟨by rfl, ?_⟩) (by assumption) ?_
             rotate_left
             (intro w hSw
              (try dsimp only at hSw)
              (go_simp <;> with_reducible rfl)))
        try simp only [Act.put, List.getElem_toArray, List.getElem_cons_zero, List.getElem_cons_succ, List.setIfInBounds_toArray, List.set_cons_zero, List.set_cons_succ]
        first
          | (refine wpAnyH_take (i := 10) (v := undef) rfl (by kernel_rfl) (by kernel_rfl) (by kernel_rfl) (fun _ _ _ h => h) (Or.inr ⟨by rfl, rfl⟩) (by assumption) ?_)
          | (refine wpAnyH_take (i := 10) (v := ?_) rfl (by kernel_rfl) (by kernel_rfl) (by kernel_rfl) (fun _ _ _ h => h) (Or.inl ⟨by rfl, ?_⟩) (by assumption) ?_
             rotate_left
             (intro w hSw
              (try dsimp only at hSw)
              (go_simp <;> with_reducible rfl)))
        try simp only [Act.put, List.getElem_toArray, List.getElem_cons_zero, List.getElem_cons_succ, List.setIfInBounds_toArray, List.set_cons_zero, List.set_cons_succ]
        refine wpAnyH_ready (rs := [11]) (by kernel_rfl) (by simp) ?_
        refine AllReadyH.cons (i := 11) (o := _) rfl (fun K hK => ?_) ?_
        rotate_left
        · exact AllReadyH.nil
        go_simp
        have GC : Hid (Chg (fun _ => False) w1 v2) := hide (GW.out)
        have GA := (al v2 (.cells #[.slice none 0 0, .int .i64 0] 73))
        have BO : Hid ((v2.alloc (.cells #[.slice none 0 0, .int .i64 0] 73)).heap[v2.heap.size]? = some (.cells #[.slice none 0 0, .int .i64 0] 73)) := hide (blk_new v2 (.cells #[.slice none 0 0, .int .i64 0] 73))
        have h0 := GA.cell (fun h => h) h0
        have h1 := GA.cell (fun h => h) h1
        have h2 := GA.cell (fun h => h) h2
        have k0 := GA.cell (fun h => h) k0
        have k1 := GA.cell (fun h => h) k1
        have k2 := GA.cell (fun h => h) k2
        have k3 := GA.cell (fun h => h) k3
        have GW : Hid (Chg (fun _ => False) w1 (v2.alloc (.cells #[.slice none 0 0, .int .i64 0] 73))) := hide (GC.out.trans GA)
        have SG : Hid (w1.heap.size ≤ v2.heap.size) := hide GC.out.size
        clear GA GC
        go_simp
        refine hK.out _ _ ⟨h0, h1, h2, k0, k1, k2, k3⟩ (fun hHeld => ?_)
        clear hK K
        try simp only [Act.put, List.getElem_toArray, List.getElem_cons_zero, List.getElem_cons_succ, List.setIfInBounds_toArray, List.set_cons_zero, List.set_cons_succ]
        obtain ⟨O, hO⟩ : ∃ O, v2.heap.size = O := ⟨_, rfl⟩
        have SO : Hid (w1.heap.size ≤ O) := hide (by have := SG.out; omega)
        rw [hO] at BO ⊢
        clear hO SG
        generalize (v2.alloc (.cells #[.slice none 0 0, .int .i64 0] 73)) = v3 at *
        refine wpAnyH_ready (rs := [12]) (by kernel_rfl) (by simp) ?_
        refine AllReadyH.cons (i := 12) (o := _) rfl (fun K hK => ?_) ?_
        rotate_left
        · exact AllReadyH.nil
        go_simp
        have y0 := blk_cell BO.out 0
        have y1 := blk_cell BO.out 1
        have fy0 := blk_free BO.out 0
        have fy1 := blk_free BO.out 1
        simp only [List.getElem?_toArray, List.getElem?_cons_zero, List.getElem?_cons_succ] at y0 y1
        have S1 := blk_set (blk_set BO.out 0 (.slice va d1.len vc)) 1 (.int .i64 d2)
        simp only [List.setIfInBounds_toArray, List.set_cons_zero, List.set_cons_succ] at S1
        have CC := ((Chg.refl (fun x => x = O) v3).setCell (p := ⟨O, 0, none⟩) (Or.inl rfl) (.slice va d1.len vc)).setCell (p := ⟨O, 1, none⟩) (Or.inl rfl) (.int .i64 d2)
        have hOP : ¬ P = O ∧ ¬ P + 1 = O := by have := SO.out; have := B1s.out; omega
        have h0 := CC.cell hOP.1 h0
        have h1 := CC.cell hOP.1 h1
        have h2 := CC.cell hOP.1 h2
        have k0 := CC.cell hOP.2 k0
        have k1 := CC.cell hOP.2 k1
        have k2 := CC.cell hOP.2 k2
        have k3 := CC.cell hOP.2 k3
        have FIN : Hid (((v3.setCell ⟨O, 0, none⟩ (.slice va d1.len vc)).setCell ⟨O, 1, none⟩ (.int .i64 d2)).heap[O]? = some (.cells #[.slice va d1.len vc, .int .i64 d2] 73) ∧ Chg (fun _ => False) w1 ((v3.setCell ⟨O, 0, none⟩ (.slice va d1.len vc)).setCell ⟨O, 1, none⟩ (.int .i64 d2)) ∧ w1.heap.size ≤ O) := hide ⟨S1, (GW.out.none.trans (CC.mono (T := fun x => w1.heap.size ≤ x) (fun x _ e => by have := SO.out; omega))).mono (fun x hx e => by omega), SO.out⟩
        clear S1 CC hOP
        go_simp
        clear y0 y1 fy0 fy1
        refine hK.out _ _ ⟨h0, h1, h2, k0, k1, k2, k3⟩ (fun hHeld => ?_)
        clear hK K
        try simp only [Act.put, List.getElem_toArray, List.getElem_cons_zero, List.getElem_cons_succ, List.setIfInBounds_toArray, List.set_cons_zero, List.set_cons_succ]
        first
          | (refine wpAnyH_take (i := 13) (v := undef) rfl (by kernel_rfl) (by kernel_rfl) (by kernel_rfl) (fun _ _ _ h => h) (Or.inr ⟨by rfl, rfl⟩) (by assumption) ?_)
          | (refine wpAnyH_take (i := 13) (v := ?_) rfl (by kernel_rfl) (by kernel_rfl) (by kernel_rfl) (fun _ _ _ h => h) (Or.inl ⟨by rfl, ?_⟩) (by assumption) ?_
             rotate_left
             (intro w hSw
              (try dsimp only at hSw)
              (go_simp <;> with_reducible rfl)))
        try simp only [Act.put, List.getElem_toArray, List.getElem_cons_zero, List.getElem_cons_succ, List.setIfInBounds_toArray, List.set_cons_zero, List.set_cons_succ]
        refine wpAnyH_done (by kernel_rfl) ?_ _
        go_wp2_with fail
        go_meet
        exact ⟨O, va, vc, rfl, rfl, hide FIN.out.1, hide FIN.out.2⟩
      refine AllReadyH.cons (i := 11) (o := _) rfl (fun K hK => ?_) ?_
      rotate_left
      · exact AllReadyH.nil
      go_simp
      have GC : Hid (Chg (fun _ => False) w1 v1) := hide (GW.out)
      have GA := (al v1 (.cells #[.slice none 0 0, .int .i64 0] 73))
      have BO : Hid ((v1.alloc (.cells #[.slice none 0 0, .int .i64 0] 73)).heap[v1.heap.size]? = some (.cells #[.slice none 0 0, .int .i64 0] 73)) := hide (blk_new v1 (.cells #[.slice none 0 0, .int .i64 0] 73))
      have h0 := GA.cell (fun h => h) h0
      have h1 := GA.cell (fun h => h) h1
      have h2 := GA.cell (fun h => h) h2
      have k0 := GA.cell (fun h => h) k0
      have k1 := GA.cell (fun h => h) k1
      have k2 := GA.cell (fun h => h) k2
      have k3 := GA.cell (fun h => h) k3
      have GW : Hid (Chg (fun _ => False) w1 (v1.alloc (.cells #[.slice none 0 0, .int .i64 0] 73))) := hide (GC.out.trans GA)
      have SG : Hid (w1.heap.size ≤ v1.heap.size) := hide GC.out.size
      have TI := hide (TI.out.all GA)
      clear GA GC
      go_simp
      refine hK.out _ _ ⟨h0, h1, h2, k0, k1, k2, k3⟩ (fun hHeld => ?_)
      clear hK K
      try simp only [Act.put, List.getElem_toArray, List.getElem_cons_zero, List.getElem_cons_succ, List.setIfInBounds_toArray, List.set_cons_zero, List.set_cons_succ]
      obtain ⟨O, hO⟩ : ∃ O, v1.heap.size = O := ⟨_, rfl⟩
      have SO : Hid (w1.heap.size ≤ O) := hide (by have := SG.out; omega)
      rw [hO] at BO ⊢
      clear hO SG
      generalize (v1.alloc (.cells #[.slice none 0 0, .int .i64 0] 73)) = v2 at *
      refine wpAnyH_ready (rs := [7]) (by kernel_rfl) (by simp) ?_
      refine AllReadyH.cons (i := 7) (o := _) rfl (fun K hK => ?_) ?_
      rotate_left
      · exact AllReadyH.nil
      go_simp
      have GC : Hid (Chg (fun _ => False) w1 v2) := hide (GW.out)
      refine (head_any n cs ms (ctx.app b) k i HI.out hcs hms (by have := HA.out; omega) ca cc ma mc _ (fun x => x < v2.heap.size) v2 (fun _ h => h) (H1.out.all GC.out) (H2.out.all GC.out) TI.out).mono ?_
      rintro e v3 ⟨⟨v', rfl, tv⟩, g'⟩
      rw [HR.out, HD.out] at tv
      rw [HR.out, HRB.out]
      obtain ⟨va, vc, rfl, _⟩ := id tv
      dsimp only
      have TI := hide (TI.out.all g')
      have BO := hide (g'.blk (fun h => h) BO.out)
      have GW : Hid (Chg (fun _ => False) w1 v3) := hide (GC.out.trans g')
      have h0 := g'.cell (fun h => h) h0
      have h1 := g'.cell (fun h => h) h1
      have h2 := g'.cell (fun h => h) h2
      have k0 := g'.cell (fun h => h) k0
      have k1 := g'.cell (fun h => h) k1
      have k2 := g'.cell (fun h => h) k2
      have k3 := g'.cell (fun h => h) k3
      clear g' tv GC
      go_simp
      refine hK.out _ _ ⟨h0, h1, h2, k0, k1, k2, k3⟩ (fun hHeld => ?_)
      clear hK K
      try simp only [Act.put, List.getElem_toArray, List.getElem_cons_zero, List.getElem_cons_succ, List.setIfInBounds_toArray, List.set_cons_zero, List.set_cons_succ]
      first
        | (refine wpAnyH_take (i := 8) (v := undef) rfl (by kernel_rfl) (by kernel_rfl) (by kernel_rfl) (fun _ _ _ h => h) (Or.inr ⟨by rfl, rfl⟩) (by assumption) ?_)
        | (refine wpAnyH_take (i := 8) (v := ?_) rfl (by kernel_rfl) (by kernel_rfl) (by kernel_rfl) (fun _ _ _ h => h) (Or.inl ⟨by rfl, ?_⟩) (by assumption) ?_
           rotate_left
           (intro w hSw
            (try dsimp only at hSw)
            (go_simp <;> with_reducible rfl)))
      try simp only [Act.put, List.getElem_toArray, List.getElem_cons_zero, List.getElem_cons_succ, List.setIfInBounds_toArray, List.set_cons_zero, List.set_cons_succ]
      first
        | (refine wpAnyH_take (i := 9) (v := undef) rfl (by kernel_rfl) (by kernel_rfl) (by kernel_rfl) (fun _ _ _ h => h) (Or.inr ⟨by rfl, rfl⟩) (by assumption) ?_)
        | (refine wpAnyH_take (i := 9) (v := ?_) rfl (by kernel_rfl) (by kernel_rfl) (by kernel_rfl) (fun _ _ _ h => h) (Or.inl ⟨by rfl, ?_⟩) (by assumption) ?_
           rotate_left
           (intro w hSw
            (try dsimp only at hSw)
            (go_simp <;> with_reducible rfl)))
      try simp only [Act.put, List.getElem_toArray, List.getElem_cons_zero, List.getElem_cons_succ, List.setIfInBounds_toArray, List.set_cons_zero, List.set_cons_succ]
      first
        | (refine wpAnyH_take (i := 10) (v := undef) rfl (by kernel_rfl) (by kernel_rfl) (by kernel_rfl) (fun _ _ _ h => h) (Or.inr ⟨by rfl, rfl⟩) (by assumption) ?_)
        | (refine wpAnyH_take (i := 10) (v := ?_) rfl (by kernel_rfl) (by kernel_rfl) (by kernel_rfl) (fun _ _ _ h => h) (Or.inl ⟨by rfl, ?_⟩) (by assumption) ?_
           rotate_left
           (intro w hSw
            (try dsimp only at hSw)
            (go_simp <;> with_reducible rfl)))
      try simp only [Act.put, List.getElem_toArray, List.getElem_cons_zero, List.getElem_cons_succ, List.setIfInBounds_toArray, List.set_cons_zero, List.set_cons_succ]
      refine wpAnyH_ready (rs := [12]) (by kernel_rfl) (by simp) ?_
      refine AllReadyH.cons (i := 12) (o := _) rfl (fun K hK => ?_) ?_
      rotate_left
      · exact AllReadyH.nil
      go_simp
      have y0 := blk_cell BO.out 0
      have y1 := blk_cell BO.out 1
      have fy0 := blk_free BO.out 0
      have fy1 := blk_free BO.out 1
      simp only [List.getElem?_toArray, List.getElem?_cons_zero, List.getElem?_cons_succ] at y0 y1
      have S1 := blk_set (blk_set BO.out 0 (.slice va d1.len vc)) 1 (.int .i64 d2)
      simp only [List.setIfInBounds_toArray, List.set_cons_zero, List.set_cons_succ] at S1
      have CC := ((Chg.refl (fun x => x = O) v3).setCell (p := ⟨O, 0, none⟩) (Or.inl rfl) (.slice va d1.len vc)).setCell (p := ⟨O, 1, none⟩) (Or.inl rfl) (.int .i64 d2)
      have hOP : ¬ P = O ∧ ¬ P + 1 = O := by have := SO.out; have := B1s.out; omega
      have h0 := CC.cell hOP.1 h0
      have h1 := CC.cell hOP.1 h1
      have h2 := CC.cell hOP.1 h2
      have k0 := CC.cell hOP.2 k0
      have k1 := CC.cell hOP.2 k1
      have k2 := CC.cell hOP.2 k2
      have k3 := CC.cell hOP.2 k3
      have FIN : Hid (((v3.setCell ⟨O, 0, none⟩ (.slice va d1.len vc)).setCell ⟨O, 1, none⟩ (.int .i64 d2)).heap[O]? = some (.cells #[.slice va d1.len vc, .int .i64 d2] 73) ∧ Chg (fun _ => False) w1 ((v3.setCell ⟨O, 0, none⟩ (.slice va d1.len vc)).setCell ⟨O, 1, none⟩ (.int .i64 d2)) ∧ w1.heap.size ≤ O) := hide ⟨S1, (GW.out.none.trans (CC.mono (T := fun x => w1.heap.size ≤ x) (fun x _ e => by have := SO.out; omega))).mono (fun x hx e => by omega), SO.out⟩
      clear S1 CC hOP
      go_simp
      clear y0 y1 fy0 fy1
      refine hK.out _ _ ⟨h0, h1, h2, k0, k1, k2, k3⟩ (fun hHeld => ?_)
      clear hK K
      try simp only [Act.put, List.getElem_toArray, List.getElem_cons_zero, List.getElem_cons_succ, List.setIfInBounds_toArray, List.set_cons_zero, List.set_cons_succ]
      first
        | (refine wpAnyH_take (i := 13) (v := undef) rfl (by kernel_rfl) (by kernel_rfl) (by kernel_rfl) (fun _ _ _ h => h) (Or.inr ⟨by rfl, rfl⟩) (by assumption) ?_)
        | (refine wpAnyH_take (i := 13) (v := ?_) rfl (by kernel_rfl) (by kernel_rfl) (by kernel_rfl) (fun _ _ _ h => h) (Or.inl ⟨by rfl, ?_⟩) (by assumption) ?_
           rotate_left
           (intro w hSw
            (try dsimp only at hSw)
            (go_simp <;> with_reducible rfl)))
      try simp only [Act.put, List.getElem_toArray, List.getElem_cons_zero, List.getElem_cons_succ, List.setIfInBounds_toArray, List.set_cons_zero, List.set_cons_succ]
      refine wpAnyH_done (by kernel_rfl) ?_ _
      go_wp2_with fail
      go_meet
      exact ⟨O, va, vc, rfl, rfl, hide FIN.out.1, hide FIN.out.2⟩
    refine AllReadyH.cons (i := 11) (o := _) rfl (fun K hK => ?_) ?_
    rotate_left
    · exact AllReadyH.nil
    go_simp
    have GC : Hid (Chg (fun _ => False) w1 w1.drew) := hide ((Chg.refl (fun _ => False) w1).drew)
    have GA := (al w1 (.cells #[.slice none 0 0, .int .i64 0] 73)).drew
    have BO : Hid ((w1.alloc (.cells #[.slice none 0 0, .int .i64 0] 73)).drew.heap[w1.heap.size]? = some (.cells #[.slice none 0 0, .int .i64 0] 73)) := hide (blk_new w1 (.cells #[.slice none 0 0, .int .i64 0] 73))
    have h0 := GA.cell (fun h => h) h0
    have h1 := GA.cell (fun h => h) h1
    have h2 := GA.cell (fun h => h) h2
    have k0 := GA.cell (fun h => h) k0
    have k1 := GA.cell (fun h => h) k1
    have k2 := GA.cell (fun h => h) k2
    have k3 := GA.cell (fun h => h) k3
    have GW : Hid (Chg (fun _ => False) w1 (w1.alloc (.cells #[.slice none 0 0, .int .i64 0] 73)).drew) := hide GA
    have SG : Hid (w1.heap.size ≤ w1.heap.size) := hide GC.out.size
    clear GA GC
    go_simp
    refine hK.out _ _ ⟨h0, h1, h2, k0, k1, k2, k3⟩ (fun hHeld => ?_)
    clear hK K
    try simp only [Act.put, List.getElem_toArray, List.getElem_cons_zero, List.getElem_cons_succ, List.setIfInBounds_toArray, List.set_cons_zero, List.set_cons_succ]
    obtain ⟨O, hO⟩ : ∃ O, w1.heap.size = O := ⟨_, rfl⟩
    have SO : Hid (w1.heap.size ≤ O) := hide (by have := SG.out; omega)
    rw [hO] at BO ⊢
    clear hO SG
    generalize (w1.alloc (.cells #[.slice none 0 0, .int .i64 0] 73)).drew = v1 at *
    refine wpAnyH_ready (rs := [4]) (by kernel_rfl) (by simp) ?_
    refine AllReadyH.cons (i := 4) (o := _) rfl (fun K hK => ?_) ?_
    rotate_left
    · exact AllReadyH.nil
    go_simp
    have GC : Hid (Chg (fun _ => False) w1 v1) := hide (GW.out)
    refine (within_any ctx b (by omega) (by omega) _ _ (fun x => x < v1.heap.size) v1 (fun _ h => h) (H3.out.all GC.out) (H4.out.all GC.out)).mono ?_
    rintro e v2 ⟨⟨v', rfl, tv⟩, g'⟩
    obtain ⟨ia, ic, rfl, _⟩ := id tv
    have BO := hide (g'.blk (fun h => h) BO.out)
    have TI : Hid (Ts v2 (fun x => x < v2.heap.size) (.slice ia (ctx.app b).len ic) (ctx.app b)) := hide (tv.of_newX g')
    have GW : Hid (Chg (fun _ => False) w1 v2) := hide (GC.out.trans g')
    have h0 := g'.cell (fun h => h) h0
    have h1 := g'.cell (fun h => h) h1
    have h2 := g'.cell (fun h => h) h2
    have k0 := g'.cell (fun h => h) k0
    have k1 := g'.cell (fun h => h) k1
    have k2 := g'.cell (fun h => h) k2
    have k3 := g'.cell (fun h => h) k3
    clear g' tv GC
    go_simp
    refine hK.out _ _ ⟨h0, h1, h2, k0, k1, k2, k3⟩ (fun hHeld => ?_)
    clear hK K
    try simp only [Act.put, List.getElem_toArray, List.getElem_cons_zero, List.getElem_cons_succ, List.setIfInBounds_toArray, List.set_cons_zero, List.set_cons_succ]
    refine wpAnyH_ready (rs := [7]) (by kernel_rfl) (by simp) ?_
    refine AllReadyH.cons (i := 7) (o := _) rfl (fun K hK => ?_) ?_
    rotate_left
    · exact AllReadyH.nil
    go_simp
    have GC : Hid (Chg (fun _ => False) w1 v2) := hide (GW.out)
    refine (head_any n cs ms (ctx.app b) k i HI.out hcs hms (by have := HA.out; omega) ca cc ma mc _ (fun x => x < v2.heap.size) v2 (fun _ h => h) (H1.out.all GC.out) (H2.out.all GC.out) TI.out).mono ?_
    rintro e v3 ⟨⟨v', rfl, tv⟩, g'⟩
    rw [HR.out, HD.out] at tv
    rw [HR.out, HRB.out]
    obtain ⟨va, vc, rfl, _⟩ := id tv
    dsimp only
    have TI := hide (TI.out.all g')
    have BO := hide (g'.blk (fun h => h) BO.out)
    have GW : Hid (Chg (fun _ => False) w1 v3) := hide (GC.out.trans g')
    have h0 := g'.cell (fun h => h) h0
    have h1 := g'.cell (fun h => h) h1
    have h2 := g'.cell (fun h => h) h2
    have k0 := g'.cell (fun h => h) k0
    have k1 := g'.cell (fun h => h) k1
    have k2 := g'.cell (fun h => h) k2
    have k3 := g'.cell (fun h => h) k3
    clear g' tv GC
    go_simp
    refine hK.out _ _ ⟨h0, h1, h2, k0, k1, k2, k3⟩ (fun hHeld => ?_)
    clear hK K
    try simp only [Act.put, List.getElem_toArray, List.getElem_cons_zero, List.getElem_cons_succ, List.setIfInBounds_toArray, List.set_cons_zero, List.set_cons_succ]
    first
      | (refine wpAnyH_take (i := 8) (v := undef) rfl (by kernel_rfl) (by kernel_rfl) (by kernel_rfl) (fun _ _ _ h => h) (Or.inr ⟨by rfl, rfl⟩) (by assumption) ?_)
      | (refine wpAnyH_take (i := 8) (v := ?_) rfl (by kernel_rfl) (by kernel_rfl) (by kernel_rfl) (fun _ _ _ h => h) (Or.inl ⟨by rfl, ?_⟩) (by assumption) ?_
         rotate_left
         (intro w hSw
          (try dsimp only at hSw)
          (go_simp <;> with_reducible rfl)))
    try simp only [Act.put, List.getElem_toArray, List.getElem_cons_zero, List.getElem_cons_succ, List.setIfInBounds_toArray, List.set_cons_zero, List.set_cons_succ]
    first
      | (refine wpAnyH_take (i := 9) (v := undef) rfl (by kernel_rfl) (by kernel_rfl) (by kernel_rfl) (fun _ _ _ h => h) (Or.inr ⟨by rfl, rfl⟩) (by assumption) ?_)
      | (refine wpAnyH_take (i := 9) (v := ?_) rfl (by kernel_rfl) (by kernel_rfl) (by kernel_rfl) (fun _ _ _ h => h) (Or.inl ⟨by rfl, ?_⟩) (by assumption) ?_
         rotate_left
         (intro w hSw
          (try dsimp only at hSw)
          (go_simp <;> with_reducible rfl)))
    try simp only [Act.put, List.getElem_toArray, List.getElem_cons_zero, List.getElem_cons_succ, List.setIfInBounds_toArray, List.set_cons_zero, List.set_cons_succ]
    first
      | (refine wpAnyH_take (i := 10) (v := undef) rfl (by kernel_rfl) (by kernel_rfl) (by kernel_rfl) (fun _ _ _ h => h) (Or.inr ⟨by rfl, rfl⟩) (by assumption) ?_)
      | (refine wpAnyH_take (i := 10) (v := ?_) rfl (by kernel_rfl) (by kernel_rfl) (by kernel_rfl) (fun _ _ _ h => h) (Or.inl ⟨by rfl, ?_⟩) (by assumption) ?_
         rotate_left
         (intro w hSw
          (try dsimp only at hSw)
          (go_simp <;> with_reducible rfl)))
    try simp only [Act.put, List.getElem_toArray, List.getElem_cons_zero, List.getElem_cons_succ, List.setIfInBounds_toArray, List.set_cons_zero, List.set_cons_succ]
    refine wpAnyH_ready (rs := [12]) (by kernel_rfl) (by simp) ?_
    refine AllReadyH.cons (i := 12) (o := _) rfl (fun K hK => ?_) ?_
    rotate_left
    · exact AllReadyH.nil
    go_simp
    have y0 := blk_cell BO.out 0
    have y1 := blk_cell BO.out 1
    have fy0 := blk_free BO.out 0
    have fy1 := blk_free BO.out 1
    simp only [List.getElem?_toArray, List.getElem?_cons_zero, List.getElem?_cons_succ] at y0 y1
    have S1 := blk_set (blk_set BO.out 0 (.slice va d1.len vc)) 1 (.int .i64 d2)
    simp only [List.setIfInBounds_toArray, List.set_cons_zero, List.set_cons_succ] at S1
    have CC := ((Chg.refl (fun x => x = O) v3).setCell (p := ⟨O, 0, none⟩) (Or.inl rfl) (.slice va d1.len vc)).setCell (p := ⟨O, 1, none⟩) (Or.inl rfl) (.int .i64 d2)
    have hOP : ¬ P = O ∧ ¬ P + 1 = O := by have := SO.out; have := B1s.out; omega
    have h0 := CC.cell hOP.1 h0
    have h1 := CC.cell hOP.1 h1
    have h2 := CC.cell hOP.1 h2
    have k0 := CC.cell hOP.2 k0
    have k1 := CC.cell hOP.2 k1
    have k2 := CC.cell hOP.2 k2
    have k3 := CC.cell hOP.2 k3
    have FIN : Hid (((v3.setCell ⟨O, 0, none⟩ (.slice va d1.len vc)).setCell ⟨O, 1, none⟩ (.int .i64 d2)).heap[O]? = some (.cells #[.slice va d1.len vc, .int .i64 d2] 73) ∧ Chg (fun _ => False) w1 ((v3.setCell ⟨O, 0, none⟩ (.slice va d1.len vc)).setCell ⟨O, 1, none⟩ (.int .i64 d2)) ∧ w1.heap.size ≤ O) := hide ⟨S1, (GW.out.none.trans (CC.mono (T := fun x => w1.heap.size ≤ x) (fun x _ e => by have := SO.out; omega))).mono (fun x hx e => by omega), SO.out⟩
    clear S1 CC hOP
    go_simp
    clear y0 y1 fy0 fy1
    refine hK.out _ _ ⟨h0, h1, h2, k0, k1, k2, k3⟩ (fun hHeld => ?_)
    clear hK K
    try simp only [Act.put, List.getElem_toArray, List.getElem_cons_zero, List.getElem_cons_succ, List.setIfInBounds_toArray, List.set_cons_zero, List.set_cons_succ]
    first
      | (refine wpAnyH_take (i := 13) (v := undef) rfl (by kernel_rfl) (by kernel_rfl) (by kernel_rfl) (fun _ _ _ h => h) (Or.inr ⟨by rfl, rfl⟩) (by assumption) ?_)
      | (refine wpAnyH_take (i := 13) (v := ?_) rfl (by kernel_rfl) (by kernel_rfl) (by kernel_rfl) (fun _ _ _ h => h) (Or.inl ⟨by rfl, ?_⟩) (by assumption) ?_
         rotate_left
         (intro w hSw
          (try dsimp only at hSw)
          (go_simp <;> with_reducible rfl)))
    try simp only [Act.put, List.getElem_toArray, List.getElem_cons_zero, List.getElem_cons_succ, List.setIfInBounds_toArray, List.set_cons_zero, List.set_cons_succ]
    refine wpAnyH_done (by kernel_rfl) ?_ _
    go_wp2_with fail
    go_meet
    exact ⟨O, va, vc, rfl, rfl, hide FIN.out.1, hide FIN.out.2⟩
  case rest =>
  obtain ⟨O, va, vc, rfl, rfl, BO, GO⟩ := hcut
  generalize wc = w5 at *
  have GG5 := hide (GG.out.trans GO.out.1)
  have b2' := hide (GO.out.1.blk (fun h => h) b2.out)
  have b3' := hide (GO.out.1.blk (fun h => h) b3.out)
  have H5 := hide (H4.out.all GO.out.1)
  clear h0 h1 h2 k0 k1 k2 k3 H1 H2 H3 H4 b1 b2 b3 GG
  have z0 := blk_cell BO.out 1
  have z1 := blk_cell b2'.out 0
  have r0 := blk_cell b3'.out 0
  have r1 := blk_cell b3'.out 1
  have e0 := blk_free b3'.out 0
  have e1 := blk_free b3'.out 1
  simp only [List.getElem?_toArray, List.getElem?_cons_zero, List.getElem?_cons_succ] at z0 z1 r0 r1
  cases R with
  | none =>
    obtain rfl : rb = false := HRB.out.symm
    have S0 := blk_set b3'.out 0 (.slice none 0 0)
    have S1 := blk_set S0 1 (.int .i64 0)
    simp only [List.setIfInBounds_toArray, List.set_cons_zero, List.set_cons_succ] at S1
    have SS := hide S1
    have CC := hide (((Chg.refl (fun x => x = P + 1 + 1) w5).setCell (p := ⟨P + 1 + 1, 0, none⟩) (Or.inl rfl) (.slice none 0 0)).setCell (p := ⟨P + 1 + 1, 1, none⟩) (Or.inl rfl) (.int .i64 0))
    clear S0 S1
    go_wp2_with fail
    have u0 := blk_cell SS.out 0
    have u1 := blk_cell SS.out 1
    simp only [List.getElem?_toArray, List.getElem?_cons_zero, List.getElem?_cons_succ] at u0 u1
    refine bodyPost_ret (v := .tuple #[.agg #[.slice none 0 0, .int .i64 0], .int .i64 10]) (by simp [results, Tryd.results33, go_sem, u0, u1]) rfl ?_
    exact ⟨⟨_, rfl, TyV.zero _ _⟩, (GG5.out.none.trans (CC.out.mono (T := fun x => P ≤ x) (fun x _ e => by omega))).mono (fun x hx e => by have := HP.out; omega)⟩
  | some p =>
    obtain rfl : rb = true := HRB.out.symm
    obtain ⟨p1, p2⟩ := p
    have hd : (d1, d2) = (p1, p2) := HD.out.symm
    injection hd with hd1 hd2
    subst hd1 hd2
    have KO := hide (kindOf_any b (by omega) (.slice ba b.len bc) d2 _ w5 (fun x h => h) H5.out)
    go_wp2_with fail
    refine KO.out.mono ?_
    rintro e w6 ⟨⟨v', rfl, ts⟩, g6⟩
    obtain ⟨oa, oc, rfl, _⟩ := id ts
    have b3'' := g6.blk (fun h => h) b3'.out
    clear r0 r1 e0 e1 z0 z1 KO
    have r0 := blk_cell b3'' 0
    have r1 := blk_cell b3'' 1
    have e0 := blk_free b3'' 0
    have e1 := blk_free b3'' 1
    simp only [List.getElem?_toArray, List.getElem?_cons_zero, List.getElem?_cons_succ] at r0 r1
    have S0 := blk_set b3'' 0 (.slice oa b.len oc)
    have S1 := blk_set S0 1 (.int .i64 d2)
    simp only [List.setIfInBounds_toArray, List.set_cons_zero, List.set_cons_succ] at S1
    have SS := hide S1
    have CC := hide (((Chg.refl (fun x => x = P + 1 + 1) w6).setCell (p := ⟨P + 1 + 1, 0, none⟩) (Or.inl rfl) (.slice oa b.len oc)).setCell (p := ⟨P + 1 + 1, 1, none⟩) (Or.inl rfl) (.int .i64 d2))
    have G6 := hide (GG5.out.trans g6)
    have TS := hide (ts.chg CC.out (fun x hx e => by have := GO.out.1.size; have := B1s.out; omega))
    have hs6 := hide (show _ ≤ _ from CC.out.size)
    clear S0 S1 ts g6 b3''
    go_wp2_with fail
    have u0 := blk_cell SS.out 0
    have u1 := blk_cell SS.out 1
    simp only [List.getElem?_toArray, List.getElem?_cons_zero, List.getElem?_cons_succ] at u0 u1
    refine bodyPost_ret (v := .tuple #[.agg #[.slice oa b.len oc, .int .i64 d2], .int .i64 0]) (by simp [results, Tryd.results33, go_sem, u0, u1]) rfl ?_
    exact ⟨⟨_, rfl, ⟨_, _, rfl, TS.out.up (fun x hx => by have := hs6.out; omega)⟩⟩, (G6.out.none.trans (CC.out.mono (T := fun x => P ≤ x) (fun x _ e => by omega))).mono (fun x hx e => by have := HP.out; omega)⟩
end Go.Proofs.YtnpcapdlgcaniaaDoor
