/- The document's fault. -/
import Derived.Test.YtboeeaekhijboaaPtoks
import Derived.Test.YtboeeaekhijboaaPrtyp
import Derived.Test.YtboeeaekhijboaaRsplit
import Derived.Deep.CutBlock
namespace Go.Proofs.Ytboeeaekhijboaa
open Go.RowKit
set_option linter.unusedVariables false
set_option linter.unusedSimpArgs false

set_option maxRecDepth 100000 in
set_option maxHeartbeats 16000000 in
theorem rfault_any {tb : Nat} {v : Value} {ts : List Tok} {s : ByteArray} {x : Pf} (hat : ∀ t ∈ ts, t.2.2 ≤ s.size) (htx : ∀ t ∈ ts, t.2.1.size ≤ 1000000) {w : World} (h : RS w tb v ts s (.error x)) :
    Calls Try.prog 38 #[.pointer (some ⟨tb, 0, none⟩)] w fun e w' => e = .returned (.agg #[.int .i64 (fl4 ts s (some x)).1, .int .i64 (fl4 ts s (some x)).2.1, .int .i64 (fl4 ts s (some x)).2.2.1, .string (fl4 ts s (some x)).2.2.2]) ∧ RS w' tb v ts s (.error x) ∧ Chg (fun y => y = tb) w w' := by
  have TB : Hid ((tokAt ts s x.2 0).2.2 ≤ s.size ∧ (tokAt ts s x.2 0).2.1.size ≤ 1000000 ∧ s.size ≤ 20000) := hide (by
    have hn1 := h.env.len
    have hn2 := h.env.size
    by_cases hlt : x.2 < ts.length
    · rw [tokAt_in (by omega) (by omega) (show x.2 + (0 : Int).toNat < ts.length from hlt)]
      exact ⟨hat _ (List.getElem_mem _), htx _ (List.getElem_mem _), hn2⟩
    · rw [tokAt_end (Or.inr (by omega))]
      exact ⟨Nat.le_refl _, Nat.zero_le 1000000, hn2⟩)
  have G0 := al w (.cells #[.int .i64 0, .int .i64 0, .int .i64 0, .string ⟨#[]⟩] 33)
  have B0 := hide (blk_new w (.cells #[.int .i64 0, .int .i64 0, .int .i64 0, .string ⟨#[]⟩] 33))
  have H0 := h.chg G0 (fun _ _ h => h)
  have hl := h.lt
  obtain ⟨A, hA⟩ : ∃ A, w.heap.size = A := ⟨_, rfl⟩
  have HL : Hid (tb < A ∧ w.heap.size = A) := hide ⟨by omega, hA⟩
  rw [hA] at B0
  have GS := Chg.set (w.alloc (.cells #[.int .i64 0, .int .i64 0, .int .i64 0, .string ⟨#[]⟩] 33)) tb 2 (.int .i64 (x.2 : Int))
  have H1 : RS ((w.alloc (.cells #[.int .i64 0, .int .i64 0, .int .i64 0, .string ⟨#[]⟩] 33)).setCell ⟨tb, 2, none⟩ (.int .i64 (x.2 : Int))) tb v ts s (.error x) := ⟨by
    have := blk_set H0.blk 2 (.int .i64 (x.2 : Int))
    exact this, H0.tks.chg GS (fun k hk => by omega), H0.le, H0.env, H0.code⟩
  have H1 := hide H1
  have B1 := hide (GS.blkS (by have := HL.out; omega) B0.out)
  have G1 := hide (G0.none.trans GS)
  obtain ⟨_, _, c2', _, c4'⟩ := H0.cells
  have x2 := blk_free H0.blk 2
  have c2 : (w.alloc (.cells #[.int .i64 0, .int .i64 0, .int .i64 0, .string ⟨#[]⟩] 33)).cell? ⟨tb, 2, none⟩ = some (.int .i64 (x.2 : Int)) := c2'
  have c4 : (w.alloc (.cells #[.int .i64 0, .int .i64 0, .int .i64 0, .string ⟨#[]⟩] 33)).cell? ⟨tb, 4, none⟩ = some (.int .i64 (x.2 : Int)) := c4'
  obtain ⟨t, ht⟩ : ∃ t, tokAt ts s x.2 0 = t := ⟨_, rfl⟩
  have HF : Hid (fl4 ts s (some x) = (x.1, (markOf (s.data.toList.take t.2.2)).1, (markOf (s.data.toList.take t.2.2)).2, headOf t.2.1)) := hide (by rw [← ht]; rfl)
  obtain ⟨FF, hFF⟩ : ∃ FF, fl4 ts s (some x) = FF := ⟨_, rfl⟩
  rw [hFF] at HF ⊢
  clear hl hA h hat htx H0 GS G0 B0 c2' c4' hFF
  go_enter Try.func38, Try.ntmps38
  go_wp2_with fail
  try rw [HL.out.2]
  generalize (w.alloc (.cells #[.int .i64 0, .int .i64 0, .int .i64 0, .string ⟨#[]⟩] 33)).setCell ⟨tb, 2, none⟩ (.int .i64 (x.2 : Int)) = w1 at *
  clear c2 c4 x2
  have AT := hide (fun w h => rat_any (tb := tb) (v := v) (ts := ts) (s := s) (st := .error x) (w := w) h)
  have AT : Hid (∀ w, RS w tb v ts s (.error x) → Calls Try.prog 67 #[.pointer (some ⟨tb, 0, none⟩)] w fun e w' => e = .returned (.int .i64 ((tokAt ts s x.2 0).2.2 : Int)) ∧ Chg (fun _ => False) w w') := AT
  have WD := hide (fun w h => rword_any (tb := tb) (v := v) (ts := ts) (s := s) (st := .error x) (w := w) h)
  have WD : Hid (∀ w, RS w tb v ts s (.error x) → Calls Try.prog 70 #[.pointer (some ⟨tb, 0, none⟩)] w fun e w' => e = .returned (.string (tokAt ts s x.2 0).2.1) ∧ Chg (fun _ => False) w w') := WD
  rw [ht] at AT WD TB
  clear ht
  obtain ⟨t0, t1, t2⟩ := t
  dsimp only at AT WD TB HF
  have RO := hide (fun w => refOf s (by have := TB.out.2.2; omega) t2 TB.out.1 w)
  have RH := hide (fun w => refHead t1 (by have := TB.out.2.1; omega) w)
  generalize (markOf (s.data.toList.take t2)).1 = ml at *
  generalize (markOf (s.data.toList.take t2)).2 = mc at *
  generalize headOf t1 = hd at *
  have c1 : w1.cell? ⟨tb, 1, none⟩ = some (.string s) := H1.out.cells.2.1
  have c3 : w1.cell? ⟨tb, 3, none⟩ = some (.int .i64 x.1) := H1.out.cells.2.2.2.1
  refine wp_region_held_drew (S := (fun w' => w'.cell? ⟨tb, 1, none⟩ = some (.string s) ∧ w'.cell? ⟨tb, 3, none⟩ = some (.int .i64 x.1))) (by kernel_rfl) (by go_keep) (fun hHeld => ?_)
  have D1 := (Chg.refl (fun _ => False) w1).drew
  have HD := hide (H1.out.chg D1 (fun _ _ h => h))
  have BD := hide (D1.blk B1.out)
  have GD := hide (G1.out.trans D1.none)
  clear D1
  first
    | (refine wpAnyH_take (i := 0) (v := undef) rfl (by kernel_rfl) (by kernel_rfl) (by kernel_rfl) (fun _ _ _ h => h) (Or.inr ⟨by rfl, rfl⟩) (by assumption) ?_)
    | (refine wpAnyH_take (i := 0) (v := ?_) rfl (by kernel_rfl) (by kernel_rfl) (by kernel_rfl) (fun _ _ _ h => h) (Or.inl ⟨by rfl, ?_⟩) (by assumption) ?_
       rotate_left
       (intro w hSw
        (try dsimp only at hSw)
        (go_simp <;> with_reducible rfl)))
  try simp only [Act.put, List.getElem_toArray, List.getElem_cons_zero, List.getElem_cons_succ, List.setIfInBounds_toArray, List.set_cons_zero, List.set_cons_succ]
  first
    | (refine wpAnyH_take (i := 1) (v := undef) rfl (by kernel_rfl) (by kernel_rfl) (by kernel_rfl) (fun _ _ _ h => h) (Or.inr ⟨by rfl, rfl⟩) (by assumption) ?_)
    | (refine wpAnyH_take (i := 1) (v := ?_) rfl (by kernel_rfl) (by kernel_rfl) (by kernel_rfl) (fun _ _ _ h => h) (Or.inl ⟨by rfl, ?_⟩) (by assumption) ?_
       rotate_left
       (intro w hSw
        (try dsimp only at hSw)
        (go_simp <;> with_reducible rfl)))
  try simp only [Act.put, List.getElem_toArray, List.getElem_cons_zero, List.getElem_cons_succ, List.setIfInBounds_toArray, List.set_cons_zero, List.set_cons_succ]
  first
    | (refine wpAnyH_take (i := 2) (v := undef) rfl (by kernel_rfl) (by kernel_rfl) (by kernel_rfl) (fun _ _ _ h => h) (Or.inr ⟨by rfl, rfl⟩) (by assumption) ?_)
    | (refine wpAnyH_take (i := 2) (v := ?_) rfl (by kernel_rfl) (by kernel_rfl) (by kernel_rfl) (fun _ _ _ h => h) (Or.inl ⟨by rfl, ?_⟩) (by assumption) ?_
       rotate_left
       (intro w hSw
        (try dsimp only at hSw)
        (go_simp <;> with_reducible rfl)))
  try simp only [Act.put, List.getElem_toArray, List.getElem_cons_zero, List.getElem_cons_succ, List.setIfInBounds_toArray, List.set_cons_zero, List.set_cons_succ]
  first
    | (refine wpAnyH_take (i := 3) (v := undef) rfl (by kernel_rfl) (by kernel_rfl) (by kernel_rfl) (fun _ _ _ h => h) (Or.inr ⟨by rfl, rfl⟩) (by assumption) ?_)
    | (refine wpAnyH_take (i := 3) (v := ?_) rfl (by kernel_rfl) (by kernel_rfl) (by kernel_rfl) (fun _ _ _ h => h) (Or.inl ⟨by rfl, ?_⟩) (by assumption) ?_
       rotate_left
       (intro w hSw
        (try dsimp only at hSw)
        (go_simp <;> with_reducible rfl)))
  try simp only [Act.put, List.getElem_toArray, List.getElem_cons_zero, List.getElem_cons_succ, List.setIfInBounds_toArray, List.set_cons_zero, List.set_cons_succ]
  first
    | (refine wpAnyH_take (i := 4) (v := undef) rfl (by kernel_rfl) (by kernel_rfl) (by kernel_rfl) (fun _ _ _ h => h) (Or.inr ⟨by rfl, rfl⟩) (by assumption) ?_)
    | (refine wpAnyH_take (i := 4) (v := ?_) rfl (by kernel_rfl) (by kernel_rfl) (by kernel_rfl) (fun _ _ _ h => h) (Or.inl ⟨by rfl, ?_⟩) (by assumption) ?_
       rotate_left
       (intro w hSw
        (try dsimp only at hSw)
        (go_simp <;> with_reducible rfl)))
  try simp only [Act.put, List.getElem_toArray, List.getElem_cons_zero, List.getElem_cons_succ, List.setIfInBounds_toArray, List.set_cons_zero, List.set_cons_succ]
  first
    | (refine wpAnyH_take (i := 5) (v := undef) rfl (by kernel_rfl) (by kernel_rfl) (by kernel_rfl) (fun _ _ _ h => h) (Or.inr ⟨by rfl, rfl⟩) (by assumption) ?_)
    | (refine wpAnyH_take (i := 5) (v := ?_) rfl (by kernel_rfl) (by kernel_rfl) (by kernel_rfl) (fun _ _ _ h => h) (Or.inl ⟨by rfl, ?_⟩) (by assumption) ?_
       rotate_left
       (intro w hSw
        (try dsimp only at hSw)
        (go_simp <;> with_reducible rfl)))
  try simp only [Act.put, List.getElem_toArray, List.getElem_cons_zero, List.getElem_cons_succ, List.setIfInBounds_toArray, List.set_cons_zero, List.set_cons_succ]
  first
    | (refine wpAnyH_take (i := 6) (v := undef) rfl (by kernel_rfl) (by kernel_rfl) (by kernel_rfl) (fun _ _ _ h => h) (Or.inr ⟨by rfl, rfl⟩) (by assumption) ?_)
    | (refine wpAnyH_take (i := 6) (v := ?_) rfl (by kernel_rfl) (by kernel_rfl) (by kernel_rfl) (fun _ _ _ h => h) (Or.inl ⟨by rfl, ?_⟩) (by assumption) ?_
       rotate_left
       (intro w hSw
        (try dsimp only at hSw)
        (go_simp <;> with_reducible rfl)))
  try simp only [Act.put, List.getElem_toArray, List.getElem_cons_zero, List.getElem_cons_succ, List.setIfInBounds_toArray, List.set_cons_zero, List.set_cons_succ]
  first
    | (refine wpAnyH_take (i := 7) (v := undef) rfl (by kernel_rfl) (by kernel_rfl) (by kernel_rfl) (fun _ _ _ h => h) (Or.inr ⟨by rfl, rfl⟩) (by assumption) ?_)
    | (refine wpAnyH_take (i := 7) (v := ?_) rfl (by kernel_rfl) (by kernel_rfl) (by kernel_rfl) (fun _ _ _ h => h) (Or.inl ⟨by rfl, ?_⟩) (by assumption) ?_
       rotate_left
       (intro w hSw
        (try dsimp only at hSw)
        (go_simp <;> with_reducible rfl)))
  try simp only [Act.put, List.getElem_toArray, List.getElem_cons_zero, List.getElem_cons_succ, List.setIfInBounds_toArray, List.set_cons_zero, List.set_cons_succ]
  first
    | (refine wpAnyH_take (i := 8) (v := undef) rfl (by kernel_rfl) (by kernel_rfl) (by kernel_rfl) (fun _ _ _ h => h) (Or.inr ⟨by rfl, rfl⟩) (by assumption) ?_)
    | (refine wpAnyH_take (i := 8) (v := ?_) rfl (by kernel_rfl) (by kernel_rfl) (by kernel_rfl) (fun _ _ _ h => h) (Or.inl ⟨by rfl, ?_⟩) (by assumption) ?_
       rotate_left
       (intro w hSw
        (try dsimp only at hSw)
        (go_simp <;> with_reducible rfl)))
  try simp only [Act.put, List.getElem_toArray, List.getElem_cons_zero, List.getElem_cons_succ, List.setIfInBounds_toArray, List.set_cons_zero, List.set_cons_succ]
  first
    | (refine wpAnyH_take (i := 11) (v := undef) rfl (by kernel_rfl) (by kernel_rfl) (by kernel_rfl) (fun _ _ _ h => h) (Or.inr ⟨by rfl, rfl⟩) (by assumption) ?_)
    | (refine wpAnyH_take (i := 11) (v := ?_) rfl (by kernel_rfl) (by kernel_rfl) (by kernel_rfl) (fun _ _ _ h => h) (Or.inl ⟨by rfl, ?_⟩) (by assumption) ?_
       rotate_left
       (intro w hSw
        (try dsimp only at hSw)
        (go_simp <;> with_reducible rfl)))
  try simp only [Act.put, List.getElem_toArray, List.getElem_cons_zero, List.getElem_cons_succ, List.setIfInBounds_toArray, List.set_cons_zero, List.set_cons_succ]
  refine wpAnyH_ready (rs := [9]) (by kernel_rfl) (by simp) ?_
  refine AllReadyH.cons (i := 9) (o := _) rfl (fun K hK => ?_) ?_
  rotate_left
  · exact AllReadyH.nil
  go_simp
  refine (AT.out _ HD.out).mono ?_
  rintro e w2 ⟨rfl, g2⟩
  have q2 := g2
  have H2 := hide (HD.out.chg q2 (fun _ _ h => h))
  have B2 := hide (q2.blk BD.out)
  have G2 := hide (GD.out.trans q2.none)
  clear g2 q2
  try go_simp
  refine hK.out _ _ ⟨H2.out.cells.2.1, H2.out.cells.2.2.2.1⟩ (fun hHeld => ?_)
  clear hK K
  try simp only [Act.put, List.getElem_toArray, List.getElem_cons_zero, List.getElem_cons_succ, List.setIfInBounds_toArray, List.set_cons_zero, List.set_cons_succ]
  refine wpAnyH_ready (rs := [10]) (by kernel_rfl) (by simp) ?_
  refine AllReadyH.cons (i := 10) (o := _) rfl (fun K hK => ?_) ?_
  rotate_left
  · exact AllReadyH.nil
  go_simp
  refine (RO.out _).mono ?_
  rintro e w3 ⟨rfl, g3⟩
  have q3 := Chg.ofB g3
  have H3 := hide (H2.out.chg q3 (fun _ _ h => h))
  have B3 := hide (q3.blk B2.out)
  have G3 := hide (G2.out.trans q3.none)
  clear g3 q3
  try go_simp
  refine hK.out _ _ ⟨H3.out.cells.2.1, H3.out.cells.2.2.2.1⟩ (fun hHeld => ?_)
  clear hK K
  try simp only [Act.put, List.getElem_toArray, List.getElem_cons_zero, List.getElem_cons_succ, List.setIfInBounds_toArray, List.set_cons_zero, List.set_cons_succ]
  refine wpAnyH_ready (rs := [12]) (by kernel_rfl) (by simp) ?_
  refine AllReadyH.cons (i := 12) (o := _) rfl (fun K hK => ?_) ?_
  rotate_left
  · exact AllReadyH.nil
  go_simp
  refine (WD.out _ H3.out).mono ?_
  rintro e w4 ⟨rfl, g4⟩
  have q4 := g4
  have H4 := hide (H3.out.chg q4 (fun _ _ h => h))
  have B4 := hide (q4.blk B3.out)
  have G4 := hide (G3.out.trans q4.none)
  clear g4 q4
  try go_simp
  refine hK.out _ _ ⟨H4.out.cells.2.1, H4.out.cells.2.2.2.1⟩ (fun hHeld => ?_)
  clear hK K
  try simp only [Act.put, List.getElem_toArray, List.getElem_cons_zero, List.getElem_cons_succ, List.setIfInBounds_toArray, List.set_cons_zero, List.set_cons_succ]
  refine wpAnyH_ready (rs := [13]) (by kernel_rfl) (by simp) ?_
  refine AllReadyH.cons (i := 13) (o := _) rfl (fun K hK => ?_) ?_
  rotate_left
  · exact AllReadyH.nil
  go_simp
  refine (RH.out _).mono ?_
  rintro e w5 ⟨rfl, rfl⟩
  refine hK.out _ _ ⟨H4.out.cells.2.1, H4.out.cells.2.2.2.1⟩ (fun hHeld => ?_)
  clear hK K
  try simp only [Act.put, List.getElem_toArray, List.getElem_cons_zero, List.getElem_cons_succ, List.setIfInBounds_toArray, List.set_cons_zero, List.set_cons_succ]
  first
    | (refine wpAnyH_take (i := 14) (v := undef) rfl (by kernel_rfl) (by kernel_rfl) (by kernel_rfl) (fun _ _ _ h => h) (Or.inr ⟨by rfl, rfl⟩) (by assumption) ?_)
    | (refine wpAnyH_take (i := 14) (v := ?_) rfl (by kernel_rfl) (by kernel_rfl) (by kernel_rfl) (fun _ _ _ h => h) (Or.inl ⟨by rfl, ?_⟩) (by assumption) ?_
       rotate_left
       (intro w hSw
        (try dsimp only at hSw)
        (go_simp <;> with_reducible rfl)))
  try simp only [Act.put, List.getElem_toArray, List.getElem_cons_zero, List.getElem_cons_succ, List.setIfInBounds_toArray, List.set_cons_zero, List.set_cons_succ]
  refine wpAnyH_ready (rs := [15]) (by kernel_rfl) (by simp) ?_
  refine AllReadyH.cons (i := 15) (o := _) rfl (fun K hK => ?_) ?_
  rotate_left
  · exact AllReadyH.nil
  have b0 := blk_cell B4.out 0
  have ff0 := blk_free B4.out 0
  have b1 := blk_cell B4.out 1
  have ff1 := blk_free B4.out 1
  have b2 := blk_cell B4.out 2
  have ff2 := blk_free B4.out 2
  have b3 := blk_cell B4.out 3
  have ff3 := blk_free B4.out 3
  have NS : Hid (((((w4.setCell ⟨A, 0, none⟩ (.int .i64 x.1)).setCell ⟨A, 1, none⟩ (.int .i64 ml)).setCell ⟨A, 2, none⟩ (.int .i64 mc)).setCell ⟨A, 3, none⟩ (.string hd)).heap[A]? = some (.cells #[.int .i64 x.1, .int .i64 ml, .int .i64 mc, .string hd] 33) ∧ Chg (fun x => x = A) w4 ((((w4.setCell ⟨A, 0, none⟩ (.int .i64 x.1)).setCell ⟨A, 1, none⟩ (.int .i64 ml)).setCell ⟨A, 2, none⟩ (.int .i64 mc)).setCell ⟨A, 3, none⟩ (.string hd))) := hide ⟨(blk_set (blk_set (blk_set (blk_set B4.out 0 (.int .i64 x.1)) 1 (.int .i64 ml)) 2 (.int .i64 mc)) 3 (.string hd)), ((((Chg.set w4 A 0 (.int .i64 x.1)).trans (Chg.set (w4.setCell ⟨A, 0, none⟩ (.int .i64 x.1)) A 1 (.int .i64 ml))).trans (Chg.set ((w4.setCell ⟨A, 0, none⟩ (.int .i64 x.1)).setCell ⟨A, 1, none⟩ (.int .i64 ml)) A 2 (.int .i64 mc))).trans (Chg.set (((w4.setCell ⟨A, 0, none⟩ (.int .i64 x.1)).setCell ⟨A, 1, none⟩ (.int .i64 ml)).setCell ⟨A, 2, none⟩ (.int .i64 mc)) A 3 (.string hd)))⟩
  have H6 := hide (H4.out.chg NS.out.2 (fun y hy e => by have := HL.out; omega))
  go_simp
  refine hK.out _ _ ⟨H6.out.cells.2.1, H6.out.cells.2.2.2.1⟩ (fun hHeld => ?_)
  clear hK K
  try simp only [Act.put, List.getElem_toArray, List.getElem_cons_zero, List.getElem_cons_succ, List.setIfInBounds_toArray, List.set_cons_zero, List.set_cons_succ]
  refine wpAnyH_done (by kernel_rfl) ?_ _
  go_wp2_with fail
  have GF := hide (rchg_fresh G4.out NS.out.2 (by have := HL.out; omega))
  generalize ((((w4.setCell ⟨A, 0, none⟩ (.int .i64 x.1)).setCell ⟨A, 1, none⟩ (.int .i64 ml)).setCell ⟨A, 2, none⟩ (.int .i64 mc)).setCell ⟨A, 3, none⟩ (.string hd)) = wF at *
  have r0 := blk_cell NS.out.1 0
  have r1 := blk_cell NS.out.1 1
  have r2 := blk_cell NS.out.1 2
  have r3 := blk_cell NS.out.1 3
  refine bodyPost_ret (v := .agg #[.int .i64 x.1, .int .i64 ml, .int .i64 mc, .string hd]) (by simp [results, Try.results38, go_sem, r0, r1, r2, r3]) rfl ?_
  exact ⟨by rw [HF.out], H6.out.chg (Chg.refl (fun _ => False) wF) (fun _ _ h => h), GF.out⟩
end Go.Proofs.Ytboeeaekhijboaa
