/- L06.World, L06.Small. -/
import Derived.Test.YtnpcapdlgcaniaaDoorTypeOf33
import Derived.Test.YtnpcapdlgcaniaaDoorTypes
import Derived.Test.YtnpcapdlgcaniaaDoorFew
namespace Go.Proofs.YtnpcapdlgcaniaaDoor
open Go.RowKit
set_option linter.unusedVariables false
set_option linter.unusedSimpArgs false

set_option maxRecDepth 100000 in
set_option maxHeartbeats 16000000 in
theorem world_any (n : Int) (cs ms : Fs) (hcs : cs.size ≤ 1000000) (hms : ms.size ≤ 1000000) (ca : Option Addr) (cc : Nat) (ma : Option Addr) (mc : Nat) (w : World)
    (g1 : Ts w (fun x => x < w.heap.size) (.slice ca cs.len cc) cs) (g2 : Ts w (fun x => x < w.heap.size) (.slice ma ms.len mc) ms) :
    Calls Tryd.prog 28 #[.agg #[.int .i64 n, .slice ca cs.len cc, .slice ma ms.len mc]] w fun e w' => (∃ ra rc qa qc, e = .returned (wldV n ra cs.len rc qa ms.len qc) ∧ Ts w' (fun x => w.heap.size ≤ x ∧ x < w'.heap.size) (.slice ra cs.len rc) cs ∧ Ts w' (fun x => w.heap.size ≤ x ∧ x < w'.heap.size) (.slice qa ms.len qc) ms) ∧ Chg (fun _ => False) w w' := by
  have W1 := al w (.cells #[.int .i64 n, .slice ca cs.len cc, .slice ma ms.len mc] 63)
  have B1 := blk_new w (.cells #[.int .i64 n, .slice ca cs.len cc, .slice ma ms.len mc] 63)
  have W2 := al (w.alloc (.cells #[.int .i64 n, .slice ca cs.len cc, .slice ma ms.len mc] 63)) (.cells #[.int .i64 0, .slice none 0 0, .slice none 0 0] 66)
  have B2 := blk_new (w.alloc (.cells #[.int .i64 n, .slice ca cs.len cc, .slice ma ms.len mc] 63)) (.cells #[.int .i64 0, .slice none 0 0, .slice none 0 0] 66)
  rw [al_sz] at B2
  have GG := hide (W1.trans W2)
  have b1 := hide (W2.blk (fun h => h) B1)
  have b2 := hide B2
  have H1 := hide (g1.all GG.out)
  have H2 := hide (g2.all GG.out)
  clear W1 W2 B1 B2 g1 g2
  obtain ⟨P, hP⟩ : ∃ P, w.heap.size = P := ⟨_, rfl⟩
  have HP := hide hP
  rw [hP] at b1 b2
  go_enter Tryd.func28, Tryd.ntmps28
  go_upto_region 1 with fail
  try rw [hP]
  clear hP
  generalize (w.alloc (.cells #[.int .i64 n, .slice ca cs.len cc, .slice ma ms.len mc] 63)).alloc (.cells #[.int .i64 0, .slice none 0 0, .slice none 0 0] 66) = w1 at *
  have SB : Hid (P + 1 < w1.heap.size) := hide (blk_lt b2.out)
  have h0 : w1.cell? ⟨P, 0, none⟩ = some (.int .i64 n) := blk_cell b1.out 0
  have h1 : w1.cell? ⟨P, 1, none⟩ = some (.slice ca cs.len cc) := blk_cell b1.out 1
  have h2 : w1.cell? ⟨P, 2, none⟩ = some (.slice ma ms.len mc) := blk_cell b1.out 2
  refine wp_region_held_drew (S := (fun w' => w'.cell? ⟨P, 0, none⟩ = some (.int .i64 n) ∧ w'.cell? ⟨P, 1, none⟩ = some (.slice ca cs.len cc) ∧ w'.cell? ⟨P, 2, none⟩ = some (.slice ma ms.len mc))) (by kernel_rfl) (by go_keep) (fun hHeld => ?_)
  first
    | (refine wpAnyH_take (i := 0) (v := undef) rfl (by kernel_rfl) (by kernel_rfl) (by kernel_rfl) (fun _ _ _ h => h) (Or.inr ⟨by rfl, rfl⟩) (by assumption) ?_)
    | (refine wpAnyH_take (i := 0) (v := ?_) rfl (by kernel_rfl) (by kernel_rfl) (by kernel_rfl) (fun _ _ _ h => h) (Or.inl ⟨by rfl, ?_⟩) (by assumption) ?_
       rotate_left
       (intro w hSw
        (try dsimp only at hSw)
        (go_simp <;> with_reducible rfl)))
  try simp only [Act.put, List.getElem_toArray, List.getElem_cons_zero, List.getElem_cons_succ, List.setIfInBounds_toArray, List.set_cons_zero, List.set_cons_succ]
  first
    | (refine wpAnyH_take (i := 1) (v := undef) rfl (by kernel_rfl) (by kernel_rfl) (by kernel_rfl) (fun _ _ _ h => h) (Or.inr ⟨by rfl, rfl⟩) (by assumption) ?_)
    | (refine wpAnyH_take (i := 1) (v := ?_) rfl (by kernel_rfl) (by kernel_rfl) (by kernel_rfl) (fun _ _ _ h => h) (Or.inl ⟨by rfl, ?_⟩) (by assumption) ?_
       rotate_left
       (intro w hSw
        (try dsimp only at hSw)
        (go_simp <;> with_reducible rfl)))
  try simp only [Act.put, List.getElem_toArray, List.getElem_cons_zero, List.getElem_cons_succ, List.setIfInBounds_toArray, List.set_cons_zero, List.set_cons_succ]
  first
    | (refine wpAnyH_take (i := 2) (v := undef) rfl (by kernel_rfl) (by kernel_rfl) (by kernel_rfl) (fun _ _ _ h => h) (Or.inr ⟨by rfl, rfl⟩) (by assumption) ?_)
    | (refine wpAnyH_take (i := 2) (v := ?_) rfl (by kernel_rfl) (by kernel_rfl) (by kernel_rfl) (fun _ _ _ h => h) (Or.inl ⟨by rfl, ?_⟩) (by assumption) ?_
       rotate_left
       (intro w hSw
        (try dsimp only at hSw)
        (go_simp <;> with_reducible rfl)))
  try simp only [Act.put, List.getElem_toArray, List.getElem_cons_zero, List.getElem_cons_succ, List.setIfInBounds_toArray, List.set_cons_zero, List.set_cons_succ]
  first
    | (refine wpAnyH_take (i := 3) (v := undef) rfl (by kernel_rfl) (by kernel_rfl) (by kernel_rfl) (fun _ _ _ h => h) (Or.inr ⟨by rfl, rfl⟩) (by assumption) ?_)
    | (refine wpAnyH_take (i := 3) (v := ?_) rfl (by kernel_rfl) (by kernel_rfl) (by kernel_rfl) (fun _ _ _ h => h) (Or.inl ⟨by rfl, ?_⟩) (by assumption) ?_
       rotate_left
       (intro w hSw
        (try dsimp only at hSw)
        (go_simp <;> with_reducible rfl)))
  try simp only [Act.put, List.getElem_toArray, List.getElem_cons_zero, List.getElem_cons_succ, List.setIfInBounds_toArray, List.set_cons_zero, List.set_cons_succ]
  first
    | (refine wpAnyH_take (i := 5) (v := undef) rfl (by kernel_rfl) (by kernel_rfl) (by kernel_rfl) (fun _ _ _ h => h) (Or.inr ⟨by rfl, rfl⟩) (by assumption) ?_)
    | (refine wpAnyH_take (i := 5) (v := ?_) rfl (by kernel_rfl) (by kernel_rfl) (by kernel_rfl) (fun _ _ _ h => h) (Or.inl ⟨by rfl, ?_⟩) (by assumption) ?_
       rotate_left
       (intro w hSw
        (try dsimp only at hSw)
        (go_simp <;> with_reducible rfl)))
  try simp only [Act.put, List.getElem_toArray, List.getElem_cons_zero, List.getElem_cons_succ, List.setIfInBounds_toArray, List.set_cons_zero, List.set_cons_succ]
  first
    | (refine wpAnyH_take (i := 6) (v := undef) rfl (by kernel_rfl) (by kernel_rfl) (by kernel_rfl) (fun _ _ _ h => h) (Or.inr ⟨by rfl, rfl⟩) (by assumption) ?_)
    | (refine wpAnyH_take (i := 6) (v := ?_) rfl (by kernel_rfl) (by kernel_rfl) (by kernel_rfl) (fun _ _ _ h => h) (Or.inl ⟨by rfl, ?_⟩) (by assumption) ?_
       rotate_left
       (intro w hSw
        (try dsimp only at hSw)
        (go_simp <;> with_reducible rfl)))
  try simp only [Act.put, List.getElem_toArray, List.getElem_cons_zero, List.getElem_cons_succ, List.setIfInBounds_toArray, List.set_cons_zero, List.set_cons_succ]
  refine wpAnyH_ready (rs := [4]) (by kernel_rfl) (by simp) ?_
  refine AllReadyH.cons (i := 4) (o := _) rfl (fun K hK => ?_) ?_
  rotate_left
  · exact AllReadyH.nil
  go_simp
  have GC : Hid (Chg (fun _ => False) w1 w1.drew) := hide (Chg.refl (fun _ => False) w1).drew
  refine (types_any cs hcs _ (fun x => x < w1.drew.heap.size) w1.drew (fun _ h => h) (H1.out.all GC.out)).mono ?_
  rintro e v1 ⟨⟨v', rfl, tv⟩, g'⟩
  obtain ⟨ra, rc, rfl, _⟩ := id tv
  have TR := hide (tv.up (Y := fun x => w1.heap.size ≤ x ∧ x < v1.heap.size) (fun x hx => ⟨Nat.le_trans GC.out.size hx.1, hx.2⟩))
  have h0 := g'.cell (fun h => h) h0
  have h1 := g'.cell (fun h => h) h1
  have h2 := g'.cell (fun h => h) h2
  have GW : Hid (Chg (fun _ => False) w1 v1) := hide (GC.out.trans g')
  clear g' tv GC
  go_simp
  refine hK.out _ _ ⟨h0, h1, h2⟩ (fun hHeld => ?_)
  clear hK K
  try simp only [Act.put, List.getElem_toArray, List.getElem_cons_zero, List.getElem_cons_succ, List.setIfInBounds_toArray, List.set_cons_zero, List.set_cons_succ]
  refine wpAnyH_ready (rs := [7]) (by kernel_rfl) (by simp) ?_
  refine AllReadyH.cons (i := 7) (o := _) rfl (fun K hK => ?_) ?_
  rotate_left
  · exact AllReadyH.nil
  go_simp
  refine (types_any ms hms _ (fun x => x < v1.heap.size) v1 (fun _ h => h) (H2.out.all GW.out)).mono ?_
  rintro e v2 ⟨⟨v', rfl, tv⟩, g'⟩
  obtain ⟨qa, qc, rfl, _⟩ := id tv
  have TQ := hide (tv.up (Y := fun x => w1.heap.size ≤ x ∧ x < v2.heap.size) (fun x hx => ⟨Nat.le_trans GW.out.size hx.1, hx.2⟩))
  have TR2 := hide ((TR.out.chg g' (fun _ _ h => h)).up (Y := fun x => w1.heap.size ≤ x ∧ x < v2.heap.size) (fun x hx => ⟨hx.1, Nat.lt_of_lt_of_le hx.2 g'.size⟩))
  have h0 := g'.cell (fun h => h) h0
  have h1 := g'.cell (fun h => h) h1
  have h2 := g'.cell (fun h => h) h2
  have GW2 : Hid (Chg (fun _ => False) w1 v2) := hide (GW.out.trans g')
  clear g' tv GW TR
  go_simp
  refine hK.out _ _ ⟨h0, h1, h2⟩ (fun hHeld => ?_)
  clear hK K
  try simp only [Act.put, List.getElem_toArray, List.getElem_cons_zero, List.getElem_cons_succ, List.setIfInBounds_toArray, List.set_cons_zero, List.set_cons_succ]
  first
    | (refine wpAnyH_take (i := 8) (v := undef) rfl (by kernel_rfl) (by kernel_rfl) (by kernel_rfl) (fun _ _ _ h => h) (Or.inr ⟨by rfl, rfl⟩) (by assumption) ?_)
    | (refine wpAnyH_take (i := 8) (v := ?_) rfl (by kernel_rfl) (by kernel_rfl) (by kernel_rfl) (fun _ _ _ h => h) (Or.inl ⟨by rfl, ?_⟩) (by assumption) ?_
       rotate_left
       (intro w hSw
        (try dsimp only at hSw)
        (go_simp <;> with_reducible rfl)))
  try simp only [Act.put, List.getElem_toArray, List.getElem_cons_zero, List.getElem_cons_succ, List.setIfInBounds_toArray, List.set_cons_zero, List.set_cons_succ]
  refine wpAnyH_ready (rs := [9]) (by kernel_rfl) (by simp) ?_
  refine AllReadyH.cons (i := 9) (o := _) rfl (fun K hK => ?_) ?_
  rotate_left
  · exact AllReadyH.nil
  go_simp
  have BB := GW2.out.blk (fun h => h) b2.out
  have y0 := blk_cell BB 0
  have f0 := blk_free BB 0
  have y1 := blk_cell BB 1
  have f1 := blk_free BB 1
  have y2 := blk_cell BB 2
  have f2 := blk_free BB 2
  simp only [List.getElem?_toArray, List.getElem?_cons_zero, List.getElem?_cons_succ] at y0 y1 y2
  have S1 := (blk_set (blk_set (blk_set BB 0 (.int .i64 n)) 1 (.slice ra cs.len rc)) 2 (.slice qa ms.len qc))
  simp only [List.setIfInBounds_toArray, List.set_cons_zero, List.set_cons_succ] at S1
  have CC := ((((Chg.refl (fun x => x = P + 1) v2).setCell (p := ⟨P + 1, 0, none⟩) (Or.inl rfl) (.int .i64 n)).setCell (p := ⟨P + 1, 1, none⟩) (Or.inl rfl) (.slice ra cs.len rc)).setCell (p := ⟨P + 1, 2, none⟩) (Or.inl rfl) (.slice qa ms.len qc))
  have hn : ¬ P = P + 1 := by omega
  have h0 := CC.cell hn h0
  have h1 := CC.cell hn h1
  have h2 := CC.cell hn h2
  have hx : ∀ x, x < v2.heap.size → x ≠ P + 1 → ¬ x = P + 1 := fun x _ h => h
  have own : ∀ (v : Value) (f : Fs), Ts v2 (fun x => w1.heap.size ≤ x ∧ x < v2.heap.size) v f → Ts (((v2.setCell ⟨P + 1, 0, none⟩ (.int .i64 n)).setCell ⟨P + 1, 1, none⟩ (.slice ra cs.len rc)).setCell ⟨P + 1, 2, none⟩ (.slice qa ms.len qc)) (fun x => P ≤ x ∧ x < (((v2.setCell ⟨P + 1, 0, none⟩ (.int .i64 n)).setCell ⟨P + 1, 1, none⟩ (.slice ra cs.len rc)).setCell ⟨P + 1, 2, none⟩ (.slice qa ms.len qc)).heap.size) v f := fun v f h => (h.chg CC (fun x hx e => by have := SB.out; omega)).up (fun x hx => ⟨by have := SB.out; omega, Nat.lt_of_lt_of_le hx.2 CC.size⟩)
  have FIN : Hid ((((v2.setCell ⟨P + 1, 0, none⟩ (.int .i64 n)).setCell ⟨P + 1, 1, none⟩ (.slice ra cs.len rc)).setCell ⟨P + 1, 2, none⟩ (.slice qa ms.len qc)).heap[P + 1]? = some (.cells #[.int .i64 n, .slice ra cs.len rc, .slice qa ms.len qc] 66) ∧ Chg (fun x => P ≤ x) w1 (((v2.setCell ⟨P + 1, 0, none⟩ (.int .i64 n)).setCell ⟨P + 1, 1, none⟩ (.slice ra cs.len rc)).setCell ⟨P + 1, 2, none⟩ (.slice qa ms.len qc)) ∧ Ts (((v2.setCell ⟨P + 1, 0, none⟩ (.int .i64 n)).setCell ⟨P + 1, 1, none⟩ (.slice ra cs.len rc)).setCell ⟨P + 1, 2, none⟩ (.slice qa ms.len qc)) (fun x => P ≤ x ∧ x < (((v2.setCell ⟨P + 1, 0, none⟩ (.int .i64 n)).setCell ⟨P + 1, 1, none⟩ (.slice ra cs.len rc)).setCell ⟨P + 1, 2, none⟩ (.slice qa ms.len qc)).heap.size) (.slice ra cs.len rc) cs ∧ Ts (((v2.setCell ⟨P + 1, 0, none⟩ (.int .i64 n)).setCell ⟨P + 1, 1, none⟩ (.slice ra cs.len rc)).setCell ⟨P + 1, 2, none⟩ (.slice qa ms.len qc)) (fun x => P ≤ x ∧ x < (((v2.setCell ⟨P + 1, 0, none⟩ (.int .i64 n)).setCell ⟨P + 1, 1, none⟩ (.slice ra cs.len rc)).setCell ⟨P + 1, 2, none⟩ (.slice qa ms.len qc)).heap.size) (.slice qa ms.len qc) ms) := hide ⟨S1, GW2.out.none.trans (CC.mono (fun x _ e => by omega)), own _ _ TR2.out, own _ _ TQ.out⟩
  clear S1 CC hn hx own BB
  go_simp
  clear y0 y1 y2 f0 f1 f2
  refine hK.out _ _ ⟨h0, h1, h2⟩ (fun hHeld => ?_)
  clear hK K
  try simp only [Act.put, List.getElem_toArray, List.getElem_cons_zero, List.getElem_cons_succ, List.setIfInBounds_toArray, List.set_cons_zero, List.set_cons_succ]
  refine wpAnyH_done (by kernel_rfl) ?_ _
  go_wp2_with fail
  have u0 := blk_cell FIN.out.1 0
  have u1 := blk_cell FIN.out.1 1
  have u2 := blk_cell FIN.out.1 2
  simp only [List.getElem?_toArray, List.getElem?_cons_zero, List.getElem?_cons_succ] at u0 u1 u2
  refine bodyPost_ret (v := wldV n ra cs.len rc qa ms.len qc) (by simp [results, Tryd.results28, go_sem, u0, u1, u2]) rfl ?_
  have hp := HP.out
  exact ⟨⟨_, _, _, _, rfl, FIN.out.2.2.1.up (fun x hx => ⟨by omega, hx.2⟩), FIN.out.2.2.2.up (fun x hx => ⟨by omega, hx.2⟩)⟩, (GG.out.none.trans FIN.out.2.1).mono (fun x hx e => by have := HP.out; omega)⟩

theorem Fs.size_le (f : Fs) (k : Nat) (h : ∀ j (h1 : j < f.toL.length), 1 + (f.toL[j]).1.size ≤ k) : f.size ≤ f.len * k := by
  induction f with
  | nil => simp [Fs.size]
  | cons a b r _ ih =>
    have h0 := h 0 (by simp [Fs.toL])
    have h1 := ih (fun j hj => by
      have := h (j + 1) (by simpa [Fs.toL] using hj)
      simpa [Fs.toL] using this)
    simp only [Fs.toL, List.getElem_cons_zero] at h0
    simp only [Fs.size, Fs.len, Nat.add_mul, Nat.one_mul]
    omega
/-- what Small says -/
def SmallW (cs ms ctx : Fs) : Prop := cs.size ≤ 1200 ∧ ms.size ≤ 1200 ∧ ctx.size ≤ 1200
theorem app_get (f g : Fs) (j : Nat) (h : j < f.toL.length) : ∃ h' : j < (f.app g).toL.length, (f.app g).toL[j] = f.toL[j] := by
  have e := Fs.app_toL f g
  refine ⟨by rw [e, List.length_append]; omega, ?_⟩
  simp only [e]
  rw [List.getElem_append_left h]
theorem app_get2 (f g : Fs) (j : Nat) (h : j < g.toL.length) : ∃ h' : f.toL.length + j < (f.app g).toL.length, (f.app g).toL[f.toL.length + j] = g.toL[j] := by
  have e := Fs.app_toL f g
  refine ⟨by rw [e, List.length_append]; omega, ?_⟩
  simp only [e]
  rw [List.getElem_append_right (by omega)]
  congr 1
  omega
theorem small_of {cs ms ctx : Fs} (h1 : cs.len ≤ 20) (h2 : ms.len ≤ 20) (h3 : ctx.len ≤ 20) (h : ∀ j (hj : j < ((cs.app ms).app ctx).toL.length), 1 + (((cs.app ms).app ctx).toL[j]).1.size ≤ 60) : SmallW cs ms ctx := by
  have hm : ∀ j (hj : j < (cs.app ms).toL.length), 1 + ((cs.app ms).toL[j]).1.size ≤ 60 := fun j hj => by
    obtain ⟨h', e⟩ := app_get (cs.app ms) ctx j hj
    have := h j h'
    rw [e] at this
    exact this
  refine ⟨?_, ?_, ?_⟩
  · have := Fs.size_le cs 60 (fun j hj => by
      obtain ⟨h', e⟩ := app_get cs ms j hj
      have := hm j h'
      rw [e] at this
      exact this)
    omega
  · have := Fs.size_le ms 60 (fun j hj => by
      obtain ⟨h', e⟩ := app_get2 cs ms j hj
      have := hm _ h'
      rw [e] at this
      exact this)
    omega
  · have := Fs.size_le ctx 60 (fun j hj => by
      obtain ⟨h', e⟩ := app_get2 (cs.app ms) ctx j hj
      have := h _ h'
      rw [e] at this
      exact this)
    omega
/-- Small's ending -/
def SmallP (cs ms ctx : Fs) (e : Ending) : Prop := ∃ r, e = .returned (.bool r) ∧ (r = true → SmallW cs ms ctx)
/-- what the loop keeps -/
def SmInv (w3 wr : World) (F : Fs) (i : Nat) : Prop := Hid (Chg (fun _ => False) w3 wr) ∧ Hid (∀ j (hj : j < F.toL.length), j < i → 1 + (F.toL[j]).1.size ≤ 60)

set_option maxRecDepth 100000 in
set_option maxHeartbeats 16000000 in
theorem small_any (n : Int) (cs ms ctx : Fs) (ca : Option Addr) (cc : Nat) (ma : Option Addr) (mc : Nat) (vx : Value) (w : World)
    (g1 : Ts w (fun x => x < w.heap.size) (.slice ca cs.len cc) cs) (g2 : Ts w (fun x => x < w.heap.size) (.slice ma ms.len mc) ms) (g3 : Ts w (fun x => x < w.heap.size) vx ctx) :
    Calls Tryd.prog 27 #[.agg #[.int .i64 n, .slice ca cs.len cc, .slice ma ms.len mc], vx] w fun e w' => SmallP cs ms ctx e ∧ Chg (fun _ => False) w w' := by
  obtain ⟨xa, xc, rfl, _⟩ := id g3
  have GG := hide (al w (.cells #[.int .i64 n, .slice ca cs.len cc, .slice ma ms.len mc] 63))
  have b1 := hide (blk_new w (.cells #[.int .i64 n, .slice ca cs.len cc, .slice ma ms.len mc] 63))
  have H1 := hide (g1.all GG.out)
  have H2 := hide (g2.all GG.out)
  have H3 := hide (g3.all GG.out)
  clear g1 g2 g3
  obtain ⟨P, hP⟩ : ∃ P, w.heap.size = P := ⟨_, rfl⟩
  have HP := hide hP
  rw [hP] at b1
  go_enter Tryd.func27, Tryd.ntmps27
  go_upto_region 1 with fail
  try rw [hP]
  clear hP
  generalize w.alloc (.cells #[.int .i64 n, .slice ca cs.len cc, .slice ma ms.len mc] 63) = w1 at *
  have z1 := blk_cell b1.out 1
  have z2 := blk_cell b1.out 2
  simp only [List.getElem?_toArray, List.getElem?_cons_zero, List.getElem?_cons_succ] at z1 z2
  by_cases k1 : 20 < cs.len
  · have k1b : (20 : Int) < (cs.len : Int) := by omega
    clear k1
    go_wp2_with fail
    go_ret
    exact ⟨⟨_, rfl, fun h => by cases h⟩, GG.out⟩
  have k1b : ¬ (20 : Int) < (cs.len : Int) := by omega
  by_cases k2 : 20 < ms.len
  · have k2b : (20 : Int) < (ms.len : Int) := by omega
    clear k2
    go_wp2_with fail
    go_ret
    exact ⟨⟨_, rfl, fun h => by cases h⟩, GG.out⟩
  have k2b : ¬ (20 : Int) < (ms.len : Int) := by omega
  by_cases k3 : 20 < ctx.len
  · have k3b : (20 : Int) < (ctx.len : Int) := by omega
    clear k3
    go_wp2_with fail
    go_ret
    exact ⟨⟨_, rfl, fun h => by cases h⟩, GG.out⟩
  have k3b : ¬ (20 : Int) < (ctx.len : Int) := by omega
  have KK := hide (And.intro k1 (And.intro k2 k3))
  clear k1 k2 k3
  go_upto_region 3 with fail
  clear k1b k2b k3b
  have A1 := Fs.app_len cs ms
  have A2 := Fs.app_len (cs.app ms) ctx
  have BH := hide (behind_any cs ms (by have := KK.out; omega) (.slice ca cs.len cc) (.slice ma ms.len mc) _ w1 (fun x h => h) H1.out H2.out)
  have HA := hide (And.intro A1 A2)
  clear A1 A2
  go_wp2_with fail
  refine BH.out.mono ?_
  rintro e w2 ⟨⟨v2, rfl, t2⟩, g2⟩
  obtain ⟨ia, ic, rfl, _⟩ := id t2
  have B2 := hide (behind_any (cs.app ms) ctx (by have := KK.out; have := HA.out; omega) (.slice ia (cs.app ms).len ic) (.slice xa ctx.len xc) _ w2 (fun x h => h) (t2.of_newX g2) (H3.out.all g2))
  have G2 := hide (GG.out.trans g2)
  clear t2 g2 BH z1 z2
  go_wp2_with fail
  refine B2.out.mono ?_
  rintro e w3 ⟨⟨v3, rfl, t3⟩, g3⟩
  obtain ⟨ja, jc, rfl, _⟩ := id t3
  have TF := hide (t3.of_newX g3)
  have G3 := hide (G2.out.trans g3)
  clear t3 g3 B2 b1 H1 H2 H3 GG G2
  have FIN : Hid ((∀ j (hj : j < ((cs.app ms).app ctx).toL.length), 1 + (((cs.app ms).app ctx).toL[j]).1.size ≤ 60) → SmallW cs ms ctx) := hide (fun h => small_of (by have := KK.out; omega) (by have := KK.out; omega) (by have := KK.out; omega) h)
  have hfl : ((cs.app ms).app ctx).len ≤ 60 := by have := KK.out; have := HA.out; omega
  clear KK HA
  generalize (cs.app ms).app ctx = F at *
  have htl := Fs.toL_len F
  go_wp2_with fail
  go_loopw [6] (fun iv wr => ∃ (i : Nat), i ≤ F.len ∧ iv = .int .i64 i ∧ Hid (SmInv w3 wr F i)) (fun iv _ => F.len - (intOf iv).toNat)
  case atStart => exact ⟨0, Nat.zero_le _, rfl, hide ⟨hide (Chg.refl _ _), hide (fun m _ h => absurd h (Nat.not_lt_zero _))⟩⟩
  case round =>
    obtain ⟨i, hi, rfl, hIN⟩ := hrel
    obtain ⟨hC, hM⟩ := hIN.out
    clear hIN
    by_cases hlt : i < F.len
    · have hit : i < F.toL.length := by omega
      obtain ⟨la, lc, hlv, hl⟩ := TF.out
      rcases hl with h0 | ⟨g, off, rfl, hg, hl⟩
      · subst h0; exact absurd hlt (Nat.not_lt_zero _)
      injection hlv with e1 e2 e3
      subst e1
      clear e2 e3
      obtain ⟨⟨vi, c0, ti⟩, c1⟩ := lies_get hl i hit
      obtain ⟨ka, kc, rfl, _⟩ := id ti
      have d0 := hC.out.cell (fun h => h) c0
      have d1 := hC.out.cell (fun h => h) c1
      have i1 : (0 : Int) ≤ (i : Int) := by omega
      have i2 : (i : Int) < (F.len : Int) := by omega
      have FE := hide (Few_any 60 60 (by decide) (by decide) (by decide) (F.toL[i]).1 (.slice ka (F.toL[i]).1.len kc) (F.toL[i]).2 _ wr (fun x h => h) (ti.all hC.out))
      rw [show ((60 : Nat) : Int) = 60 from rfl] at FE
      obtain ⟨L, hL⟩ : ∃ L, decide (fewT 60 60 (F.toL[i]).1 ≤ 60) = L := ⟨_, rfl⟩
      rw [hL] at FE
      have HT := hide (fun (h : L = true) => show (∀ j (hj : j < F.toL.length), j < i + 1 → 1 + (F.toL[j]).1.size ≤ 60) from fun j hj h3 => by
        by_cases e : j < i
        · exact hM.out j hj e
        · have : j = i := by omega
          subst this
          rw [h] at hL
          exact ((fewT_iff 60 59 _).1 (of_decide_eq_true hL)).1)
      clear hl c0 c1 ti hM hL
      generalize F.toL[i] = q at *
      obtain ⟨q0, q1⟩ := q
      dsimp only at *
      go_wp2_with fail
      refine FE.out.mono ?_
      rintro e w6 ⟨rfl, g6⟩
      have C6 := hide (hC.out.trans g6)
      clear g6 FE d0 d1
      cases L
      · have GF := hide (G3.out.trans C6.out)
        clear HT
        go_wp2_with fail
        go_ret
        exact ⟨⟨_, rfl, fun h => by cases h⟩, GF.out⟩
      · have F9 : Hid (SmInv w3 w6 F (i + 1)) := hide ⟨C6, hide (HT.out rfl)⟩
        clear HT
        go_wp2_with fail
        go_roundw
        case rel => exact ⟨i + 1, by omega, by go_num, F9⟩
        case measure => simp [intOf]; omega
    · have hif : i = F.len := by omega
      have GF := hide (G3.out.trans hC.out)
      have FF := hide (FIN.out (fun j hj => hM.out j hj (by omega)))
      have i2 : ¬ (i : Int) < (F.len : Int) := by omega
      clear hM hC hlt FIN
      go_wp2_with fail
      go_ret
      exact ⟨⟨_, rfl, fun _ => FF.out⟩, GF.out⟩
end Go.Proofs.YtnpcapdlgcaniaaDoor
