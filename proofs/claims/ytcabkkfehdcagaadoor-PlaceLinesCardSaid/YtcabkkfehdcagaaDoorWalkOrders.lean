/- The walk of PlaceOrders. -/
import Derived.Test.YtcabkkfehdcagaaDoorWalkTexts
import Derived.Test.YtcabkkfehdcagaaDoorCompare
namespace Go.Proofs.YtcabkkfehdcagaaDoor
open Go.RowKit
set_option linter.unusedVariables false
set_option linter.unusedSimpArgs false

set_option maxRecDepth 100000 in
theorem few_any (s : ByteArray) (hl : s.size ≤ 9223372036854775807) (w : World) : Calls Tryd.prog 14 #[.string s] w fun e w' => e = .returned (.string (s.extract 0 (min (s.size : Int) 1000).toNat)) ∧ w = w' := by
  go_enter Tryd.func14, Tryd.ntmps14
  go_wp2_with fail
  all_goals
    go_ret
    exact ⟨rfl, rfl⟩
set_option maxRecDepth 100000 in
theorem tof_any (a b : Int) (w : World) : Calls Tryd.prog 21 #[.agg #[.int .i64 a, .int .i64 b]] w fun e w' => e = .returned (.agg #[.int .i64 a, .int .i64 b]) ∧ Below w.heap.size w w' := by
  go_enter Tryd.func21, Tryd.ntmps21
  go_wp2_with fail
  refine bodyPost_ret (v := .agg #[.int .i64 a, .int .i64 b]) (by simp [results, Tryd.results21, go_sem]) rfl ⟨rfl, ?_⟩
  go_grown

/-- ahead, of two places -/
def lt2 (p q : Int × Int) : Prop := p.1 < q.1 ∨ (p.1 = q.1 ∧ p.2 < q.2)
theorem mark_lt (l : List UInt8) (i d : Nat) (h : i + d + 1 ≤ l.length) : lt2 (markOf (l.take i)) (markOf (l.take (i + d + 1))) := by
  induction d with
  | zero =>
    rw [Nat.add_zero, markOf_succ l i (by omega)]
    unfold lt2 stepMark
    split
    · left; show (markOf (l.take i)).1 < (markOf (l.take i)).1 + 1; omega
    · right; exact ⟨rfl, by show (markOf (l.take i)).2 < (markOf (l.take i)).2 + 1; omega⟩
  | succ d ih =>
    have h1 := ih (by omega)
    rw [show i + (d + 1) + 1 = (i + d + 1) + 1 by omega, markOf_succ l (i + d + 1) (by omega)]
    unfold lt2 at h1 ⊢
    unfold stepMark
    split
    · left
      show (markOf (l.take i)).1 < (markOf (l.take (i + d + 1))).1 + 1
      omega
    · show (markOf (l.take i)).1 < (markOf (l.take (i + d + 1))).1 ∨ (markOf (l.take i)).1 = (markOf (l.take (i + d + 1))).1 ∧ (markOf (l.take i)).2 < (markOf (l.take (i + d + 1))).2 + 1
      omega
theorem cmp_lt (p q : Int × Int) (h : lt2 p q) : cmp2 p.1 p.2 q.1 q.2 = -1 := by
  unfold cmp2 lt2 at *
  rw [if_pos h]
theorem cmp_gt (p q : Int × Int) (h : lt2 q p) : cmp2 p.1 p.2 q.1 q.2 = 1 := by
  unfold cmp2 lt2 at *
  rw [if_neg (by omega), if_neg (by omega)]
theorem cmp_eq (p : Int × Int) : cmp2 p.1 p.2 p.1 p.2 = 0 := by
  unfold cmp2
  rw [if_neg (by omega), if_pos ⟨rfl, rfl⟩]

theorem pick_ofs (a : Int) (n : Nat) (hn : n ≤ 1000) : ∃ i : Nat, IntKind.i64.wrap ((IntKind.u64.wrap a).tmod ((n : Int) + 1)) = (i : Int) ∧ i ≤ n := by
  have h1 : 0 ≤ IntKind.u64.wrap a := by rw [IntKind.wrap_u64]; omega
  have h2 := Int.tmod_nonneg ((n : Int) + 1) h1
  have h3 := Int.tmod_lt_of_pos (IntKind.u64.wrap a) (b := (n : Int) + 1) (by omega)
  refine ⟨((IntKind.u64.wrap a).tmod ((n : Int) + 1)).toNat, ?_, by omega⟩
  rw [IntWalk.i64_in _ (by omega)]
  omega

set_option maxRecDepth 100000 in
set_option maxHeartbeats 8000000 in
theorem orders_walk (s : ByteArray) (a b x0 x1 y0 y1 : Int) (hl : s.size ≤ 9223372036854775807) (w : World) (hT : Tabs w) :
    Calls Tryd.prog 6 #[.string s, .int .i64 a, .int .i64 b, .agg #[.int .i64 x0, .int .i64 x1], .agg #[.int .i64 y0, .int .i64 y1]] w fun e w' => e = .returned (.bool true) ∧ Below w.heap.size w w' := by
  have fw := hide (fun w => few_any s hl w)
  have hx : (s.extract 0 (min (s.size : Int) 1000).toNat).size ≤ 1000 := by simp; omega
  generalize s.extract 0 (min (s.size : Int) 1000).toNat = S at *
  go_enter Tryd.func6, Tryd.ntmps6
  go_wp2_with fail
  refine (fw.out _).mono ?_
  rintro e w1 ⟨rfl, rfl⟩
  have e1 : IntKind.i64.wrap ((S.size : Int) + 1) = (S.size : Int) + 1 := IntWalk.i64_in _ (by omega)
  have e2 : IntKind.u64.wrap ((S.size : Int) + 1) = (S.size : Int) + 1 := by rw [IntKind.wrap_u64]; omega
  have e3 : ((S.size : Int) + 1 == 0) = false := by simp; omega
  have e4 : ¬ (S.size : Int) + 1 = 0 := by omega
  go_wp2_with fail
  go_region_held3 (fun _ => True) (trivial) (first | fail)
  clear e1 e2 e3 e4 fw
  obtain ⟨i, hi, hi2⟩ := pick_ofs a S.size hx
  obtain ⟨j, hj, hj2⟩ := pick_ofs b S.size hx
  simp only [hi, hj]
  clear hi hj
  have oi := hide (fun w => of_any S (by omega) i hi2 w)
  have oj := hide (fun w => of_any S (by omega) j hj2 w)
  have hlen : S.data.toList.length = S.size := by simp
  obtain ⟨p, hp⟩ : ∃ p, markOf (S.data.toList.take i) = p := ⟨_, rfl⟩
  obtain ⟨q, hq⟩ : ∃ q, markOf (S.data.toList.take j) = q := ⟨_, rfl⟩
  have h3 : Hid ((i < j ∧ lt2 p q) ∨ (i = j ∧ p = q) ∨ (j < i ∧ lt2 q p)) := by
    subst hp; subst hq
    rcases Nat.lt_trichotomy i j with h | h | h
    · obtain ⟨d, rfl⟩ : ∃ d, j = i + d + 1 := ⟨j - i - 1, by omega⟩
      exact .inl ⟨h, mark_lt _ i d (by omega)⟩
    · subst h; exact .inr (.inl ⟨rfl, rfl⟩)
    · obtain ⟨d, rfl⟩ : ∃ d, i = j + d + 1 := ⟨i - j - 1, by omega⟩
      exact .inr (.inr ⟨h, mark_lt _ j d (by omega)⟩)
  rw [hp] at oi
  rw [hq] at oj
  clear hp hq hlen
  obtain ⟨p0, p1⟩ := p
  obtain ⟨q0, q1⟩ := q
  obtain ⟨W1, hW1⟩ : ∃ W1, W1 = ((w.alloc (Obj.cells #[Value.int IntKind.i64 x0, Value.int IntKind.i64 x1] 23)).alloc (Obj.cells #[Value.int IntKind.i64 y0, Value.int IntKind.i64 y1] 23)).drew := ⟨_, rfl⟩
  have k0 : W1.heap[w.heap.size]? = some (Obj.cells #[Value.int IntKind.i64 x0, Value.int IntKind.i64 x1] 23) := by rw [hW1]; exact blk_alloc (blk_new w _)
  have k1 : W1.heap[w.heap.size + 1]? = some (Obj.cells #[Value.int IntKind.i64 y0, Value.int IntKind.i64 y1] 23) := by
    rw [hW1]
    have := blk_new (w.alloc (Obj.cells #[Value.int IntKind.i64 x0, Value.int IntKind.i64 x1] 23)) (Obj.cells #[Value.int IntKind.i64 y0, Value.int IntKind.i64 y1] 23)
    simp only [World.size_alloc] at this
    exact this
  have qB : Below w.heap.size w W1 := by rw [hW1]; exact (((Below.refl _ w).alloc (Nat.le_refl _) _).alloc (by simp) _).drew
  rw [← hW1]
  clear hW1
  obtain ⟨A, hA⟩ : ∃ A, w.heap.size = A := ⟨_, rfl⟩
  rw [hA] at k0 k1 ⊢
  obtain ⟨B, hBB⟩ : ∃ B, A + 1 = B := ⟨_, rfl⟩
  rw [hBB] at k1 ⊢
  clear hA hBB
  go_wp2_with fail
  refine (oi.out _).mono ?_
  rintro e w2 ⟨rfl, h2⟩
  have k0 := (h2.block A (blk_lt k0)).trans k0
  have k1 := (h2.block B (blk_lt k1)).trans k1
  have qB := qB.trans (h2.mono qB.size)
  have m0 := blk_new w2 (Obj.cells #[Value.int IntKind.i64 p0, Value.int IntKind.i64 p1] 30)
  have hs2 : (w2.alloc (Obj.cells #[Value.int IntKind.i64 p0, Value.int IntKind.i64 p1] 30)).heap.size = w2.heap.size + 1 := by simp
  clear h2
  go_wp2_with fail
  refine (oj.out _).mono ?_
  rintro e w4 ⟨rfl, h4⟩
  have k0 := (h4.block A (by have := blk_lt k0; omega)).trans (blk_alloc k0)
  have k1 := (h4.block B (by have := blk_lt k1; omega)).trans (blk_alloc k1)
  have m0 := (h4.block w2.heap.size (by omega)).trans m0
  have qB := (qB.alloc qB.size (Obj.cells #[Value.int IntKind.i64 p0, Value.int IntKind.i64 p1] 30)).trans (h4.mono (by have := qB.size; omega))
  clear h4 hs2
  obtain ⟨M, hM⟩ : ∃ M, w2.heap.size = M := ⟨_, rfl⟩
  rw [hM] at m0 ⊢
  clear hM
  obtain ⟨W0, hW0⟩ : ∃ W0, W0 = w4.alloc (Obj.cells #[Value.int IntKind.i64 q0, Value.int IntKind.i64 q1] 30) := ⟨_, rfl⟩
  have n0 := blk_new w4 (Obj.cells #[Value.int IntKind.i64 q0, Value.int IntKind.i64 q1] 30)
  have k0 := blk_alloc (o' := Obj.cells #[Value.int IntKind.i64 q0, Value.int IntKind.i64 q1] 30) k0
  have k1 := blk_alloc (o' := Obj.cells #[Value.int IntKind.i64 q0, Value.int IntKind.i64 q1] 30) k1
  have m0 := blk_alloc (o' := Obj.cells #[Value.int IntKind.i64 q0, Value.int IntKind.i64 q1] 30) m0
  have qB := qB.alloc qB.size (Obj.cells #[Value.int IntKind.i64 q0, Value.int IntKind.i64 q1] 30)
  go_wp2_with fail
  rw [← hW0] at k0 k1 m0 n0 qB ⊢
  clear hW0
  obtain ⟨N, hN⟩ : ∃ N, w4.heap.size = N := ⟨_, rfl⟩
  rw [hN] at n0 ⊢
  clear hN
  have HT : Hid (Tabs W0) := hT.below qB
  have HB := hide qB
  have A0 := blk_cell k0 0
  have A1 := blk_cell k0 1
  have B0 := blk_cell k1 0
  have B1 := blk_cell k1 1
  have M0 := blk_cell m0 0
  have M1 := blk_cell m0 1
  have N0 := blk_cell n0 0
  have N1 := blk_cell n0 1
  have lA := blk_lt k0
  have lB := blk_lt k1
  have lM := blk_lt m0
  have lN := blk_lt n0
  have Hc : Hid (Below W0.heap.size W0 W0) := hide (Below.refl _ W0)
  clear k0 k1 m0 n0 qB hT oi oj
  rcases h3.out with ⟨hij, hcmp0⟩ | ⟨hij, hcmp0⟩ | ⟨hij, hcmp0⟩
  · have hcmp := cmp_lt _ _ hcmp0
    dsimp only at hcmp
    clear hcmp0 h3
    have hijI : (i : Int) < (j : Int) := by omega
    have hijE : ((i : Int) == (j : Int)) = false := by simp; omega
    clear hij
    go_region_held3 (fun w' => w'.cell? ⟨A, 0, none⟩ = some (.int .i64 x0) ∧ w'.cell? ⟨A, 1, none⟩ = some (.int .i64 x1) ∧ w'.cell? ⟨B, 0, none⟩ = some (.int .i64 y0) ∧ w'.cell? ⟨B, 1, none⟩ = some (.int .i64 y1) ∧ w'.cell? ⟨M, 0, none⟩ = some (.int .i64 p0) ∧ w'.cell? ⟨M, 1, none⟩ = some (.int .i64 p1) ∧ w'.cell? ⟨N, 0, none⟩ = some (.int .i64 q0) ∧ w'.cell? ⟨N, 1, none⟩ = some (.int .i64 q1))
      (go_keep)
      (first
        | (go_at_call 10; refine (known_any _ (HT.out.below (by first | exact Hc.out | exact Hc.out.drew))).mono ?_; rintro e w3 ⟨rfl, h3⟩; have Hd : Below W0.heap.size W0 w3 := (by first | exact step_on Hc.out h3 | exact step_in Hc.out h3); have DA0 := (Hd.cell (p := ⟨A, 0, none⟩) lA).trans A0; have DA1 := (Hd.cell (p := ⟨A, 1, none⟩) lA).trans A1; have DB0 := (Hd.cell (p := ⟨B, 0, none⟩) lB).trans B0; have DB1 := (Hd.cell (p := ⟨B, 1, none⟩) lB).trans B1; have DM0 := (Hd.cell (p := ⟨M, 0, none⟩) lM).trans M0; have DM1 := (Hd.cell (p := ⟨M, 1, none⟩) lM).trans M1; have DN0 := (Hd.cell (p := ⟨N, 0, none⟩) lN).trans N0; have DN1 := (Hd.cell (p := ⟨N, 1, none⟩) lN).trans N1; have hws := Hd.size; clear Hc; have Hc := hide Hd; clear Hd h3)
        | (go_at_call 12; refine (to_any _ _ _).mono ?_; rintro e w3 ⟨rfl, h3⟩; have Hd : Below W0.heap.size W0 w3 := (by first | exact step_on Hc.out h3 | exact step_in Hc.out h3); have DA0 := (Hd.cell (p := ⟨A, 0, none⟩) lA).trans A0; have DA1 := (Hd.cell (p := ⟨A, 1, none⟩) lA).trans A1; have DB0 := (Hd.cell (p := ⟨B, 0, none⟩) lB).trans B0; have DB1 := (Hd.cell (p := ⟨B, 1, none⟩) lB).trans B1; have DM0 := (Hd.cell (p := ⟨M, 0, none⟩) lM).trans M0; have DM1 := (Hd.cell (p := ⟨M, 1, none⟩) lM).trans M1; have DN0 := (Hd.cell (p := ⟨N, 0, none⟩) lN).trans N0; have DN1 := (Hd.cell (p := ⟨N, 1, none⟩) lN).trans N1; have hws := Hd.size; clear Hc; have Hc := hide Hd; clear Hd h3)
        | (go_at_call 23; refine (comp_any _ _ _ _ _).mono ?_; rintro e w3 ⟨rfl, h3⟩; have Hd : Below W0.heap.size W0 w3 := (by first | exact step_on Hc.out h3 | exact step_in Hc.out h3); have DA0 := (Hd.cell (p := ⟨A, 0, none⟩) lA).trans A0; have DA1 := (Hd.cell (p := ⟨A, 1, none⟩) lA).trans A1; have DB0 := (Hd.cell (p := ⟨B, 0, none⟩) lB).trans B0; have DB1 := (Hd.cell (p := ⟨B, 1, none⟩) lB).trans B1; have DM0 := (Hd.cell (p := ⟨M, 0, none⟩) lM).trans M0; have DM1 := (Hd.cell (p := ⟨M, 1, none⟩) lM).trans M1; have DN0 := (Hd.cell (p := ⟨N, 0, none⟩) lN).trans N0; have DN1 := (Hd.cell (p := ⟨N, 1, none⟩) lN).trans N1; have hws := Hd.size; clear Hc; have Hc := hide Hd; clear Hd h3)
        | (go_at_call 24; refine (refComp_any _ _ _ _ _).mono ?_; rintro e w3 ⟨rfl, h3⟩; have Hd : Below W0.heap.size W0 w3 := (by first | exact step_on Hc.out h3 | exact step_in Hc.out h3); have DA0 := (Hd.cell (p := ⟨A, 0, none⟩) lA).trans A0; have DA1 := (Hd.cell (p := ⟨A, 1, none⟩) lA).trans A1; have DB0 := (Hd.cell (p := ⟨B, 0, none⟩) lB).trans B0; have DB1 := (Hd.cell (p := ⟨B, 1, none⟩) lB).trans B1; have DM0 := (Hd.cell (p := ⟨M, 0, none⟩) lM).trans M0; have DM1 := (Hd.cell (p := ⟨M, 1, none⟩) lM).trans M1; have DN0 := (Hd.cell (p := ⟨N, 0, none⟩) lN).trans N0; have DN1 := (Hd.cell (p := ⟨N, 1, none⟩) lN).trans N1; have hws := Hd.size; clear Hc; have Hc := hide Hd; clear Hd h3))
    go_wp2_with fail
    go_ret
    exact ⟨rfl, HB.out.trans (Hc.out.mono HB.out.size)⟩
  · have hcmp := cmp_eq (p0, p1)
    rw [Prod.mk.injEq] at hcmp0
    obtain ⟨rfl, rfl⟩ := hcmp0
    dsimp only at hcmp
    clear h3
    subst hij
    go_region_held3 (fun w' => w'.cell? ⟨A, 0, none⟩ = some (.int .i64 x0) ∧ w'.cell? ⟨A, 1, none⟩ = some (.int .i64 x1) ∧ w'.cell? ⟨B, 0, none⟩ = some (.int .i64 y0) ∧ w'.cell? ⟨B, 1, none⟩ = some (.int .i64 y1) ∧ w'.cell? ⟨M, 0, none⟩ = some (.int .i64 p0) ∧ w'.cell? ⟨M, 1, none⟩ = some (.int .i64 p1) ∧ w'.cell? ⟨N, 0, none⟩ = some (.int .i64 p0) ∧ w'.cell? ⟨N, 1, none⟩ = some (.int .i64 p1))
      (go_keep)
      (first
        | (go_at_call 10; refine (known_any _ (HT.out.below (by first | exact Hc.out | exact Hc.out.drew))).mono ?_; rintro e w3 ⟨rfl, h3⟩; have Hd : Below W0.heap.size W0 w3 := (by first | exact step_on Hc.out h3 | exact step_in Hc.out h3); have DA0 := (Hd.cell (p := ⟨A, 0, none⟩) lA).trans A0; have DA1 := (Hd.cell (p := ⟨A, 1, none⟩) lA).trans A1; have DB0 := (Hd.cell (p := ⟨B, 0, none⟩) lB).trans B0; have DB1 := (Hd.cell (p := ⟨B, 1, none⟩) lB).trans B1; have DM0 := (Hd.cell (p := ⟨M, 0, none⟩) lM).trans M0; have DM1 := (Hd.cell (p := ⟨M, 1, none⟩) lM).trans M1; have DN0 := (Hd.cell (p := ⟨N, 0, none⟩) lN).trans N0; have DN1 := (Hd.cell (p := ⟨N, 1, none⟩) lN).trans N1; have hws := Hd.size; clear Hc; have Hc := hide Hd; clear Hd h3)
        | (go_at_call 12; refine (to_any _ _ _).mono ?_; rintro e w3 ⟨rfl, h3⟩; have Hd : Below W0.heap.size W0 w3 := (by first | exact step_on Hc.out h3 | exact step_in Hc.out h3); have DA0 := (Hd.cell (p := ⟨A, 0, none⟩) lA).trans A0; have DA1 := (Hd.cell (p := ⟨A, 1, none⟩) lA).trans A1; have DB0 := (Hd.cell (p := ⟨B, 0, none⟩) lB).trans B0; have DB1 := (Hd.cell (p := ⟨B, 1, none⟩) lB).trans B1; have DM0 := (Hd.cell (p := ⟨M, 0, none⟩) lM).trans M0; have DM1 := (Hd.cell (p := ⟨M, 1, none⟩) lM).trans M1; have DN0 := (Hd.cell (p := ⟨N, 0, none⟩) lN).trans N0; have DN1 := (Hd.cell (p := ⟨N, 1, none⟩) lN).trans N1; have hws := Hd.size; clear Hc; have Hc := hide Hd; clear Hd h3)
        | (go_at_call 23; refine (comp_any _ _ _ _ _).mono ?_; rintro e w3 ⟨rfl, h3⟩; have Hd : Below W0.heap.size W0 w3 := (by first | exact step_on Hc.out h3 | exact step_in Hc.out h3); have DA0 := (Hd.cell (p := ⟨A, 0, none⟩) lA).trans A0; have DA1 := (Hd.cell (p := ⟨A, 1, none⟩) lA).trans A1; have DB0 := (Hd.cell (p := ⟨B, 0, none⟩) lB).trans B0; have DB1 := (Hd.cell (p := ⟨B, 1, none⟩) lB).trans B1; have DM0 := (Hd.cell (p := ⟨M, 0, none⟩) lM).trans M0; have DM1 := (Hd.cell (p := ⟨M, 1, none⟩) lM).trans M1; have DN0 := (Hd.cell (p := ⟨N, 0, none⟩) lN).trans N0; have DN1 := (Hd.cell (p := ⟨N, 1, none⟩) lN).trans N1; have hws := Hd.size; clear Hc; have Hc := hide Hd; clear Hd h3)
        | (go_at_call 24; refine (refComp_any _ _ _ _ _).mono ?_; rintro e w3 ⟨rfl, h3⟩; have Hd : Below W0.heap.size W0 w3 := (by first | exact step_on Hc.out h3 | exact step_in Hc.out h3); have DA0 := (Hd.cell (p := ⟨A, 0, none⟩) lA).trans A0; have DA1 := (Hd.cell (p := ⟨A, 1, none⟩) lA).trans A1; have DB0 := (Hd.cell (p := ⟨B, 0, none⟩) lB).trans B0; have DB1 := (Hd.cell (p := ⟨B, 1, none⟩) lB).trans B1; have DM0 := (Hd.cell (p := ⟨M, 0, none⟩) lM).trans M0; have DM1 := (Hd.cell (p := ⟨M, 1, none⟩) lM).trans M1; have DN0 := (Hd.cell (p := ⟨N, 0, none⟩) lN).trans N0; have DN1 := (Hd.cell (p := ⟨N, 1, none⟩) lN).trans N1; have hws := Hd.size; clear Hc; have Hc := hide Hd; clear Hd h3))
    go_wp2_with fail
    go_ret
    exact ⟨rfl, HB.out.trans (Hc.out.mono HB.out.size)⟩
  · have hcmp := cmp_gt _ _ hcmp0
    dsimp only at hcmp
    clear hcmp0 h3
    have hijI : ¬ (i : Int) < (j : Int) := by omega
    have hijD : decide (i < j) = false := by simp; omega
    have hijN : (i == j) = false := by simp; omega
    have hijE : ((i : Int) == (j : Int)) = false := by simp; omega
    clear hij
    go_region_held3 (fun w' => w'.cell? ⟨A, 0, none⟩ = some (.int .i64 x0) ∧ w'.cell? ⟨A, 1, none⟩ = some (.int .i64 x1) ∧ w'.cell? ⟨B, 0, none⟩ = some (.int .i64 y0) ∧ w'.cell? ⟨B, 1, none⟩ = some (.int .i64 y1) ∧ w'.cell? ⟨M, 0, none⟩ = some (.int .i64 p0) ∧ w'.cell? ⟨M, 1, none⟩ = some (.int .i64 p1) ∧ w'.cell? ⟨N, 0, none⟩ = some (.int .i64 q0) ∧ w'.cell? ⟨N, 1, none⟩ = some (.int .i64 q1))
      (go_keep)
      (first
        | (go_at_call 10; refine (known_any _ (HT.out.below (by first | exact Hc.out | exact Hc.out.drew))).mono ?_; rintro e w3 ⟨rfl, h3⟩; have Hd : Below W0.heap.size W0 w3 := (by first | exact step_on Hc.out h3 | exact step_in Hc.out h3); have DA0 := (Hd.cell (p := ⟨A, 0, none⟩) lA).trans A0; have DA1 := (Hd.cell (p := ⟨A, 1, none⟩) lA).trans A1; have DB0 := (Hd.cell (p := ⟨B, 0, none⟩) lB).trans B0; have DB1 := (Hd.cell (p := ⟨B, 1, none⟩) lB).trans B1; have DM0 := (Hd.cell (p := ⟨M, 0, none⟩) lM).trans M0; have DM1 := (Hd.cell (p := ⟨M, 1, none⟩) lM).trans M1; have DN0 := (Hd.cell (p := ⟨N, 0, none⟩) lN).trans N0; have DN1 := (Hd.cell (p := ⟨N, 1, none⟩) lN).trans N1; have hws := Hd.size; clear Hc; have Hc := hide Hd; clear Hd h3)
        | (go_at_call 12; refine (to_any _ _ _).mono ?_; rintro e w3 ⟨rfl, h3⟩; have Hd : Below W0.heap.size W0 w3 := (by first | exact step_on Hc.out h3 | exact step_in Hc.out h3); have DA0 := (Hd.cell (p := ⟨A, 0, none⟩) lA).trans A0; have DA1 := (Hd.cell (p := ⟨A, 1, none⟩) lA).trans A1; have DB0 := (Hd.cell (p := ⟨B, 0, none⟩) lB).trans B0; have DB1 := (Hd.cell (p := ⟨B, 1, none⟩) lB).trans B1; have DM0 := (Hd.cell (p := ⟨M, 0, none⟩) lM).trans M0; have DM1 := (Hd.cell (p := ⟨M, 1, none⟩) lM).trans M1; have DN0 := (Hd.cell (p := ⟨N, 0, none⟩) lN).trans N0; have DN1 := (Hd.cell (p := ⟨N, 1, none⟩) lN).trans N1; have hws := Hd.size; clear Hc; have Hc := hide Hd; clear Hd h3)
        | (go_at_call 23; refine (comp_any _ _ _ _ _).mono ?_; rintro e w3 ⟨rfl, h3⟩; have Hd : Below W0.heap.size W0 w3 := (by first | exact step_on Hc.out h3 | exact step_in Hc.out h3); have DA0 := (Hd.cell (p := ⟨A, 0, none⟩) lA).trans A0; have DA1 := (Hd.cell (p := ⟨A, 1, none⟩) lA).trans A1; have DB0 := (Hd.cell (p := ⟨B, 0, none⟩) lB).trans B0; have DB1 := (Hd.cell (p := ⟨B, 1, none⟩) lB).trans B1; have DM0 := (Hd.cell (p := ⟨M, 0, none⟩) lM).trans M0; have DM1 := (Hd.cell (p := ⟨M, 1, none⟩) lM).trans M1; have DN0 := (Hd.cell (p := ⟨N, 0, none⟩) lN).trans N0; have DN1 := (Hd.cell (p := ⟨N, 1, none⟩) lN).trans N1; have hws := Hd.size; clear Hc; have Hc := hide Hd; clear Hd h3)
        | (go_at_call 24; refine (refComp_any _ _ _ _ _).mono ?_; rintro e w3 ⟨rfl, h3⟩; have Hd : Below W0.heap.size W0 w3 := (by first | exact step_on Hc.out h3 | exact step_in Hc.out h3); have DA0 := (Hd.cell (p := ⟨A, 0, none⟩) lA).trans A0; have DA1 := (Hd.cell (p := ⟨A, 1, none⟩) lA).trans A1; have DB0 := (Hd.cell (p := ⟨B, 0, none⟩) lB).trans B0; have DB1 := (Hd.cell (p := ⟨B, 1, none⟩) lB).trans B1; have DM0 := (Hd.cell (p := ⟨M, 0, none⟩) lM).trans M0; have DM1 := (Hd.cell (p := ⟨M, 1, none⟩) lM).trans M1; have DN0 := (Hd.cell (p := ⟨N, 0, none⟩) lN).trans N0; have DN1 := (Hd.cell (p := ⟨N, 1, none⟩) lN).trans N1; have hws := Hd.size; clear Hc; have Hc := hide Hd; clear Hd h3))
    go_wp2_with fail
    go_ret
    exact ⟨rfl, HB.out.trans (Hc.out.mono HB.out.size)⟩
end Go.Proofs.YtcabkkfehdcagaaDoor
