/- kind.Of, kind.Arrow. -/
import Derived.Test.YtnpcapdlgcaniaaDoorConcat
import Derived.Deep.RegionHeld3
namespace Go.Proofs.YtnpcapdlgcaniaaDoor
open Go.RowKit
set_option linter.unusedVariables false
set_option linter.unusedSimpArgs false

def Fs.app (f g : Fs) : Fs := Fs.ofL (f.toL ++ g.toL)
theorem Fs.app_toL (f g : Fs) : (f.app g).toL = f.toL ++ g.toL := Fs.toL_ofL _
theorem Fs.app_len (f g : Fs) : (f.app g).len = f.len + g.len := by rw [← Fs.toL_len, Fs.app_toL, List.length_append, Fs.toL_len, Fs.toL_len]
theorem Fs.nil_app (g : Fs) : Fs.nil.app g = g := Fs.ofL_toL g
theorem Fs.app_nil (f : Fs) : f.app .nil = f := by unfold Fs.app; simp only [Fs.toL, List.append_nil]; exact Fs.ofL_toL f
theorem Fs.app_cons (k : Fs) (b : Int) (r g : Fs) : (Fs.cons k b r).app g = .cons k b (r.app g) := rfl
theorem Fs.app_size (f g : Fs) : (f.app g).size = f.size + g.size := by
  induction f with
  | nil => rw [Fs.nil_app]; simp [Fs.size]
  | cons k b r _ ih => rw [Fs.app_cons]; simp only [Fs.size, ih]; omega

theorem concat_ts (C : Nat) (X : Nat → Prop) (v1 v2 : Value) (f1 f2 : Fs) (h1 : f1.len ≤ 50000) (h2 : f2.len ≤ 50000) (w : World) (hX : ∀ x, X x → x < w.heap.size) (c0 : w.cell? ⟨C, 0, none⟩ = some v1) (c1 : w.cell? ⟨C, 1, none⟩ = some v2)
    (hp : Ts w X v1 f1) (hq : Ts w X v2 f2) :
    Calls Tryd.prog 54 #[.slice (some ⟨C, 0, none⟩) 2 2] w fun e w' => (∃ v, e = .returned v ∧ Ts w' (fun x => X x ∨ (w.heap.size ≤ x ∧ x < w'.heap.size)) v (f1.app f2)) ∧ Chg (fun _ => False) w w' := by
  obtain ⟨us, e1, r1, k1⟩ := ts_vrow hp
  obtain ⟨vs, e2, r2, k2⟩ := ts_vrow hq
  obtain ⟨_, pa, pc, rfl, _⟩ := id r1
  obtain ⟨_, qa, qc, rfl, _⟩ := id r2
  refine (concat_any C X pa qa pc qc us vs (by omega) (by omega) w c0 c1 hX r1 r2).mono ?_
  rintro e w' ⟨⟨v, rfl, o⟩, g⟩
  refine ⟨⟨v, rfl, tacc_ts o (fun r e => Or.inr (World.ownsRow.lt o r e)) (by rw [Fs.app_toL, List.length_append, List.length_append, Fs.toL_len, Fs.toL_len, e1, e2]) (fun i i1 i2 => ?_)⟩, g⟩
  have t1 := Fs.toL_len f1
  have t2 := Fs.toL_len f2
  simp only [Fs.app_toL] at i1 ⊢
  by_cases h : i < us.length
  · rw [List.getElem_append_left h, List.getElem_append_left (by omega)]
    have := k1 i (by omega) h
    exact ⟨this.1, (this.2.chg g (fun _ _ h => h)).up (fun x hx => Or.inl hx)⟩
  · rw [List.getElem_append_right (by omega), List.getElem_append_right (by omega)]
    rw [List.length_append] at i2
    simp only [show i - f1.toL.length = i - us.length by omega]
    have := k2 (i - us.length) (by omega) (by omega)
    exact ⟨this.1, (this.2.chg g (fun _ _ h => h)).up (fun x hx => Or.inl hx)⟩

set_option maxRecDepth 100000 in
set_option maxHeartbeats 8000000 in
theorem arrow_any (f fa : Fs) (hf : f.size ≤ 40000) (hfa : fa.size ≤ 40000) (v va : Value) (b : Int) (X : Nat → Prop) (w : World) (hX : ∀ x, X x → x < w.heap.size) (hv : Ts w X v f) (ha : Ts w X va fa) :
    Calls Tryd.prog 35 #[.agg #[v, .int .i64 b], va] w fun e w' => (∃ v', e = .returned (.agg #[v', .int .i64 b]) ∧ Ts w' (fun x => w.heap.size ≤ x ∧ x < w'.heap.size) v' (fa.app f)) ∧ Chg (fun _ => False) w w' := by
  have l1 := Fs.len_size f
  have l2 := Fs.len_size fa
  obtain ⟨a, cap, rfl, _⟩ := id hv
  obtain ⟨aa, acap, rfl, _⟩ := id ha
  have G1 := al w (.cells #[.slice a f.len cap, .int .i64 b] 73)
  have G2 := al (w.alloc (.cells #[.slice a f.len cap, .int .i64 b] 73)) (.cells #[.slice none 0 0, .int .i64 0] 73)
  have b0 := G2.blk (fun h => h) (blk_new w (.cells #[.slice a f.len cap, .int .i64 b] 73))
  have b1 := blk_new (w.alloc (.cells #[.slice a f.len cap, .int .i64 b] 73)) (.cells #[.slice none 0 0, .int .i64 0] 73)
  rw [al_sz] at b1
  have GG := G1.trans G2
  have HT := hide (hv.chg GG (fun _ _ h => h))
  have HA := hide (ha.chg GG (fun _ _ h => h))
  have sz2 : ((w.alloc (.cells #[.slice a f.len cap, .int .i64 b] 73)).alloc (.cells #[.slice none 0 0, .int .i64 0] 73)).heap.size = w.heap.size + 2 := by rw [al_sz, al_sz]
  have HG := hide GG
  have HX := hide hX
  have SZ := hide sz2
  clear G1 G2 hv ha GG sz2 hX
  go_enter Tryd.func35, Tryd.ntmps35
  go_wp2_with fail
  generalize ((w.alloc (.cells #[.slice a f.len cap, .int .i64 b] 73)).alloc (.cells #[.slice none 0 0, .int .i64 0] 73)) = w1 at *
  obtain ⟨W0, hW0⟩ : ∃ W0, w.heap.size = W0 := ⟨_, rfl⟩
  rw [hW0] at b0 b1 SZ ⊢
  have HW := hide hW0
  clear hW0
  have y0 := blk_cell b0 0
  have y1 := blk_cell b0 1
  simp only [List.getElem?_toArray, List.getElem?_cons_zero, List.getElem?_cons_succ] at y0 y1
  have B1 := hide b1
  clear b0 b1
  -- REG
  refine wp_region_held_drew (S := (fun w' => w'.cell? ⟨W0, 0, none⟩ = some (.slice a f.len cap) ∧ w'.cell? ⟨W0, 1, none⟩ = some (.int .i64 b))) (by kernel_rfl) (by go_keep) (fun hHeld => ?_)
  first
    | (refine wpAnyH_take (i := 0) (v := undef) rfl (by kernel_rfl) (by kernel_rfl) (by kernel_rfl) (fun _ _ _ h => h) (Or.inr ⟨by rfl, rfl⟩) (by assumption) ?_)
    | (refine wpAnyH_take (i := 0) (v := ?_) rfl (by kernel_rfl) (by kernel_rfl) (by kernel_rfl) (fun _ _ _ h => h) (Or.inl ⟨by rfl, ?_⟩) (by assumption) ?_
       rotate_left
       (intro w hSw
        (try dsimp only at hSw)
        (go_simp <;> with_reducible rfl)))
  try simp only [Act.put, List.getElem_toArray, List.getElem_cons_zero, List.getElem_cons_succ, List.setIfInBounds_toArray, List.set_cons_zero, List.set_cons_succ]
  first
    | (refine wpAnyH_take (i := 1) (v := undef) rfl (by kernel_rfl) (by kernel_rfl) (by kernel_rfl) (fun _ _ _ h => h) (Or.inr ⟨by rfl, rfl⟩) (by assumption) ?_)
    | (refine wpAnyH_take (i := 1) (v := ?_) rfl (by kernel_rfl) (by kernel_rfl) (by kernel_rfl) (fun _ _ _ h => h) (Or.inl ⟨by rfl, ?_⟩) (by assumption) ?_
       rotate_left
       (intro w hSw
        (try dsimp only at hSw)
        (go_simp <;> with_reducible rfl)))
  try simp only [Act.put, List.getElem_toArray, List.getElem_cons_zero, List.getElem_cons_succ, List.setIfInBounds_toArray, List.set_cons_zero, List.set_cons_succ]
  first
    | (refine wpAnyH_take (i := 2) (v := undef) rfl (by kernel_rfl) (by kernel_rfl) (by kernel_rfl) (fun _ _ _ h => h) (Or.inr ⟨by rfl, rfl⟩) (by assumption) ?_)
    | (refine wpAnyH_take (i := 2) (v := ?_) rfl (by kernel_rfl) (by kernel_rfl) (by kernel_rfl) (fun _ _ _ h => h) (Or.inl ⟨by rfl, ?_⟩) (by assumption) ?_
       rotate_left
       (intro w hSw
        (try dsimp only at hSw)
        (go_simp <;> with_reducible rfl)))
  try simp only [Act.put, List.getElem_toArray, List.getElem_cons_zero, List.getElem_cons_succ, List.setIfInBounds_toArray, List.set_cons_zero, List.set_cons_succ]
  first
    | (refine wpAnyH_take (i := 5) (v := undef) rfl (by kernel_rfl) (by kernel_rfl) (by kernel_rfl) (fun _ _ _ h => h) (Or.inr ⟨by rfl, rfl⟩) (by assumption) ?_)
    | (refine wpAnyH_take (i := 5) (v := ?_) rfl (by kernel_rfl) (by kernel_rfl) (by kernel_rfl) (fun _ _ _ h => h) (Or.inl ⟨by rfl, ?_⟩) (by assumption) ?_
       rotate_left
       (intro w hSw
        (try dsimp only at hSw)
        (go_simp <;> with_reducible rfl)))
  try simp only [Act.put, List.getElem_toArray, List.getElem_cons_zero, List.getElem_cons_succ, List.setIfInBounds_toArray, List.set_cons_zero, List.set_cons_succ]
  first
    | (refine wpAnyH_take (i := 6) (v := undef) rfl (by kernel_rfl) (by kernel_rfl) (by kernel_rfl) (fun _ _ _ h => h) (Or.inr ⟨by rfl, rfl⟩) (by assumption) ?_)
    | (refine wpAnyH_take (i := 6) (v := ?_) rfl (by kernel_rfl) (by kernel_rfl) (by kernel_rfl) (fun _ _ _ h => h) (Or.inl ⟨by rfl, ?_⟩) (by assumption) ?_
       rotate_left
       (intro w hSw
        (try dsimp only at hSw)
        (go_simp <;> with_reducible rfl)))
  try simp only [Act.put, List.getElem_toArray, List.getElem_cons_zero, List.getElem_cons_succ, List.setIfInBounds_toArray, List.set_cons_zero, List.set_cons_succ]
  refine wpAnyH_ready (rs := [3]) (by kernel_rfl) (by simp) ?_
  refine AllReadyH.cons (i := 3) (o := _) rfl (fun K hK => ?_) ?_
  rotate_left
  · exact AllReadyH.nil
  have D0 := hide ((Chg.refl (fun _ => False) w1).drew.trans (al w1.drew (.cells #[.slice aa fa.len acap, .slice a f.len cap] 31)))
  have NB := blk_new w1.drew (.cells #[.slice aa fa.len acap, .slice a f.len cap] 31)
  have n0 := blk_cell NB 0
  have n1 := blk_cell NB 1
  simp only [List.getElem?_toArray, List.getElem?_cons_zero, List.getElem?_cons_succ] at n0 n1
  have u0 := D0.out.cell (fun h => h) y0
  have u1 := D0.out.cell (fun h => h) y1
  have B2 := hide (D0.out.blk (fun h => h) B1.out)
  have HTT := hide (HT.out.chg D0.out (fun _ _ h => h))
  have HAA := hide (HA.out.chg D0.out (fun _ _ h => h))
  have HXX := hide (fun x (hx : X x) => Nat.lt_of_lt_of_le (HX.out x hx) (Nat.le_trans HG.out.size D0.out.size))
  clear NB
  go_simp
  refine hK.out _ _ ⟨u0, u1⟩ (fun hHeld => ?_)
  clear hK K
  try simp only [Act.put, List.getElem_toArray, List.getElem_cons_zero, List.getElem_cons_succ, List.setIfInBounds_toArray, List.set_cons_zero, List.set_cons_succ]
  refine wpAnyH_ready (rs := [4]) (by kernel_rfl) (by simp) ?_
  refine AllReadyH.cons (i := 4) (o := _) rfl (fun K hK => ?_) ?_
  rotate_left
  · exact AllReadyH.nil
  go_simp
  refine (concat_ts _ X _ _ fa f (by omega) (by omega) _ HXX.out n0 n1 HAA.out HTT.out).mono ?_
  rintro e w3 ⟨⟨v3, rfl, t3⟩, g3⟩
  obtain ⟨a3, c3, rfl, _⟩ := id t3
  have D3 := hide (D0.out.trans g3)
  have p0 := g3.cell (fun h => h) u0
  have p1 := g3.cell (fun h => h) u1
  have B3 := hide (g3.blk (fun h => h) B2.out)
  have cp := hide (copied_any (fa.app f) (by rw [Fs.app_size]; omega) (.slice a3 (fa.app f).len c3) b _ w3 (fun x hx => by
    rcases hx with hx | hx
    · exact Nat.lt_of_lt_of_le (HXX.out x hx) g3.size
    · exact hx.2) t3)
  clear t3 g3 n0 n1 HTT HAA B2 HXX
  go_simp
  refine hK.out _ _ ⟨p0, p1⟩ (fun hHeld => ?_)
  clear hK K
  try simp only [Act.put, List.getElem_toArray, List.getElem_cons_zero, List.getElem_cons_succ, List.setIfInBounds_toArray, List.set_cons_zero, List.set_cons_succ]
  first
    | (refine wpAnyH_take (i := 7) (v := undef) rfl (by kernel_rfl) (by kernel_rfl) (by kernel_rfl) (fun _ _ _ h => h) (Or.inr ⟨by rfl, rfl⟩) (by assumption) ?_)
    | (refine wpAnyH_take (i := 7) (v := ?_) rfl (by kernel_rfl) (by kernel_rfl) (by kernel_rfl) (fun _ _ _ h => h) (Or.inl ⟨by rfl, ?_⟩) (by assumption) ?_
       rotate_left
       (intro w hSw
        (try dsimp only at hSw)
        (go_simp <;> with_reducible rfl)))
  try simp only [Act.put, List.getElem_toArray, List.getElem_cons_zero, List.getElem_cons_succ, List.setIfInBounds_toArray, List.set_cons_zero, List.set_cons_succ]
  refine wpAnyH_ready (rs := [8]) (by kernel_rfl) (by simp) ?_
  refine AllReadyH.cons (i := 8) (o := _) rfl (fun K hK => ?_) ?_
  rotate_left
  · exact AllReadyH.nil
  go_simp
  refine cp.out.mono ?_
  rintro e w4 ⟨⟨v4, rfl, t4⟩, g4⟩
  obtain ⟨a4, c4, rfl, _⟩ := id t4
  have o0 := g4.cell (fun h => h) p0
  have o1 := g4.cell (fun h => h) p1
  have B4 := g4.blk (fun h => h) B3.out
  have r0 := blk_cell B4 0
  have r1 := blk_cell B4 1
  have fr0 := blk_free B4 0
  have fr1 := blk_free B4 1
  simp only [List.getElem?_toArray, List.getElem?_cons_zero, List.getElem?_cons_succ] at r0 r1
  have T1 := blk_set B4 0 (.slice a4 (fa.app f).len c4)
  have T2 := blk_set T1 1 (.int .i64 b)
  have z0 : ((w4.setCell ⟨W0 + 1, 0, none⟩ (.slice a4 (fa.app f).len c4)).setCell ⟨W0 + 1, 1, none⟩ (.int .i64 b)).cell? ⟨W0 + 1, 0, none⟩ = some (.slice a4 (fa.app f).len c4) := blk_cell T2 0
  have z1 : ((w4.setCell ⟨W0 + 1, 0, none⟩ (.slice a4 (fa.app f).len c4)).setCell ⟨W0 + 1, 1, none⟩ (.int .i64 b)).cell? ⟨W0 + 1, 1, none⟩ = some (.int .i64 b) := blk_cell T2 1
  have SS := (Chg.set w4 (W0 + 1) 0 (.slice a4 (fa.app f).len c4)).trans (Chg.set (w4.setCell ⟨W0 + 1, 0, none⟩ (.slice a4 (fa.app f).len c4)) (W0 + 1) 1 (.int .i64 b))
  have q0 := SS.cell (by omega) o0
  have q1 := SS.cell (by omega) o1
  have F : Hid (Ts ((w4.setCell ⟨W0 + 1, 0, none⟩ (.slice a4 (fa.app f).len c4)).setCell ⟨W0 + 1, 1, none⟩ (.int .i64 b)) (fun x => W0 ≤ x ∧ x < ((w4.setCell ⟨W0 + 1, 0, none⟩ (.slice a4 (fa.app f).len c4)).setCell ⟨W0 + 1, 1, none⟩ (.int .i64 b)).heap.size) (.slice a4 (fa.app f).len c4) (fa.app f) ∧ Chg (fun _ => False) w ((w4.setCell ⟨W0 + 1, 0, none⟩ (.slice a4 (fa.app f).len c4)).setCell ⟨W0 + 1, 1, none⟩ (.int .i64 b))) := hide (by
    have h0 := D3.out.size
    have h1 := SZ.out
    refine ⟨(t4.chg SS (fun x hx e => by have := hx.1; omega)).up (fun x hx => ⟨by have := hx.1; omega, Nat.lt_of_lt_of_le hx.2 SS.size⟩), ?_⟩
    have h2 : Chg (fun x => x = W0 + 1) w _ := ((HG.out.trans D3.out).trans g4).none.trans SS
    exact h2.mono (fun x hx e => by have := HW.out; omega))
  clear t4 g4 T1 T2 SS cp B4
  go_simp
  refine hK.out _ _ ⟨o0, o1⟩ (fun hHeld => ?_)
  clear hK K
  try simp only [Act.put, List.getElem_toArray, List.getElem_cons_zero, List.getElem_cons_succ, List.setIfInBounds_toArray, List.set_cons_zero, List.set_cons_succ]
  refine wpAnyH_ready (rs := [9]) (by kernel_rfl) (by simp) ?_
  refine AllReadyH.cons (i := 9) (o := _) rfl (fun K hK => ?_) ?_
  rotate_left
  · exact AllReadyH.nil
  go_simp
  refine hK.out _ _ ⟨q0, q1⟩ (fun hHeld => ?_)
  clear hK K
  try simp only [Act.put, List.getElem_toArray, List.getElem_cons_zero, List.getElem_cons_succ, List.setIfInBounds_toArray, List.set_cons_zero, List.set_cons_succ]
  refine wpAnyH_done (by kernel_rfl) ?_ _
  go_wp2_with fail
  generalize ((w4.setCell ⟨W0 + 1, 0, none⟩ (.slice a4 (fa.app f).len c4)).setCell ⟨W0 + 1, 1, none⟩ (.int .i64 b)) = wF at *
  refine bodyPost_ret (fn := Tryd.f35) (v := .agg #[.slice a4 (fa.app f).len c4, .int .i64 b]) (by simp [results, Tryd.results35, go_sem, z0, z1]) rfl ?_
  exact ⟨⟨_, rfl, by rw [HW.out]; exact F.out.1⟩, F.out.2⟩

set_option maxRecDepth 100000 in
set_option maxHeartbeats 8000000 in
theorem kindOf_any (f : Fs) (hf : f.size ≤ 100000) (v : Value) (b : Int) (X : Nat → Prop) (w : World) (hX : ∀ x, X x → x < w.heap.size) (hv : Ts w X v f) :
    Calls Tryd.prog 57 #[.int .i64 b, v] w fun e w' => (∃ v', e = .returned (.agg #[v', .int .i64 b]) ∧ Ts w' (fun x => w.heap.size ≤ x ∧ x < w'.heap.size) v' f) ∧ Chg (fun _ => False) w w' := by
  obtain ⟨a, cap, rfl, _⟩ := id hv
  have G1 := al w (.cells #[.slice none 0 0, .int .i64 0] 73)
  have b1 := blk_new w (.cells #[.slice none 0 0, .int .i64 0] 73)
  have cp := hide (copied_any f (by omega) (.slice a f.len cap) b X _ (fun x hx => Nat.lt_of_lt_of_le (hX x hx) G1.size) (hv.chg G1 (fun _ _ h => h)))
  have HG := hide G1
  have SZ := hide (al_sz w (.cells #[.slice none 0 0, .int .i64 0] 73))
  clear hv hX G1
  go_enter Tryd.func57, Tryd.ntmps57
  go_wp2_with fail
  generalize w.alloc (.cells #[.slice none 0 0, .int .i64 0] 73) = w1 at *
  obtain ⟨W0, hW0⟩ : ∃ W0, w.heap.size = W0 := ⟨_, rfl⟩
  rw [hW0] at b1 SZ ⊢
  have HW := hide hW0
  clear hW0
  refine cp.out.mono ?_
  rintro e w4 ⟨⟨v4, rfl, t4⟩, g4⟩
  obtain ⟨a4, c4, rfl, _⟩ := id t4
  have B4 := g4.blk (fun h => h) b1
  have r0 := blk_cell B4 0
  have r1 := blk_cell B4 1
  have fr0 := blk_free B4 0
  have fr1 := blk_free B4 1
  simp only [List.getElem?_toArray, List.getElem?_cons_zero, List.getElem?_cons_succ] at r0 r1
  have T1 := blk_set B4 0 (.slice a4 f.len c4)
  have T2 := blk_set T1 1 (.int .i64 b)
  have z0 : ((w4.setCell ⟨W0, 0, none⟩ (.slice a4 f.len c4)).setCell ⟨W0, 1, none⟩ (.int .i64 b)).cell? ⟨W0, 0, none⟩ = some (.slice a4 f.len c4) := blk_cell T2 0
  have z1 : ((w4.setCell ⟨W0, 0, none⟩ (.slice a4 f.len c4)).setCell ⟨W0, 1, none⟩ (.int .i64 b)).cell? ⟨W0, 1, none⟩ = some (.int .i64 b) := blk_cell T2 1
  have SS := (Chg.set w4 W0 0 (.slice a4 f.len c4)).trans (Chg.set (w4.setCell ⟨W0, 0, none⟩ (.slice a4 f.len c4)) W0 1 (.int .i64 b))
  have F : Hid (Ts ((w4.setCell ⟨W0, 0, none⟩ (.slice a4 f.len c4)).setCell ⟨W0, 1, none⟩ (.int .i64 b)) (fun x => W0 ≤ x ∧ x < ((w4.setCell ⟨W0, 0, none⟩ (.slice a4 f.len c4)).setCell ⟨W0, 1, none⟩ (.int .i64 b)).heap.size) (.slice a4 f.len c4) f ∧ Chg (fun _ => False) w ((w4.setCell ⟨W0, 0, none⟩ (.slice a4 f.len c4)).setCell ⟨W0, 1, none⟩ (.int .i64 b))) := hide (by
    have h1 := SZ.out
    refine ⟨(t4.chg SS (fun x hx e => by have := hx.1; omega)).up (fun x hx => ⟨by have := hx.1; omega, Nat.lt_of_lt_of_le hx.2 SS.size⟩), ?_⟩
    have h2 : Chg (fun x => x = W0) w _ := (HG.out.trans g4).none.trans SS
    exact h2.mono (fun x hx e => by have := HW.out; omega))
  clear t4 g4 T1 T2 SS cp B4
  go_wp2_with fail
  generalize ((w4.setCell ⟨W0, 0, none⟩ (.slice a4 f.len c4)).setCell ⟨W0, 1, none⟩ (.int .i64 b)) = wF at *
  refine bodyPost_ret (fn := Tryd.f57) (v := .agg #[.slice a4 f.len c4, .int .i64 b]) (by simp [results, Tryd.results57, go_sem, z0, z1]) rfl ?_
  exact ⟨⟨_, rfl, by rw [HW.out]; exact F.out.1⟩, F.out.2⟩
end Go.Proofs.YtnpcapdlgcaniaaDoor
