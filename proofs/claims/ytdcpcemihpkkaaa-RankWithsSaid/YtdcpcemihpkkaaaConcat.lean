/- slices.Grow of nil, slices.Concat of two rows of pairs. -/
import Derived.Test.YtdcpcemihpkkaaaKnown
import Derived.Lib.AppendZerosOnto
import Derived.Lib.SlFresh
namespace Go.Proofs.Ytdcpcemihpkkaaa
open Go.RowKit Go.Maps
set_option linter.unusedVariables false
set_option linter.unusedSimpArgs false

theorem append_irow {w : World} {base n : Nat} {v : Value} {xs : List Value} (hO : w.ownsRow base 43 2 v n xs) {B : Nat} {u : Value} {l : List (Int × Int)} (hU : IRow w B u l) (hn : n + l.length ≤ 100000) (hb : base ≤ w.heap.size) (ty : TypeId) :
    ∃ v' w', (Builtin.append_ #[22, 22] ty #[v, u]).run Try.prog w = .ok v' w' ∧ w'.ownsRow base 43 2 v' (n + l.length) (xs ++ cells2 l) ∧ w.grownBy w' v.ownBlock := by
  obtain ⟨i0, hi0, hz0, hz1, hz2⟩ := info_parts info43
  have hU' := hU
  obtain ⟨a, cap, rfl, h⟩ := hU
  cases a with
  | none =>
    have h0 : l = [] := by
      rcases h with h | ⟨g, off, hg, _⟩
      · exact h
      · cases hg
    subst h0
    refine ⟨v, w, ?_, by simpa [cells2] using hO, ⟨rfl, rfl, rfl, Nat.le_refl _, fun _ _ _ => rfl⟩⟩
    rcases hO.2 with ⟨rfl, rfl⟩ | ⟨g, cap, cur, rfl, hbg, hg, hnc, hcm, hcs, htake⟩
    · simp [Builtin.append_, run_underlying Try.underlying22, sizeOf, typeInfo, hi0, Builtin.lenOf, Builtin.firstCells, loadCells, loadCellsFrom]
    · simp [Builtin.append_, run_underlying Try.underlying22, sizeOf, typeInfo, hi0, Builtin.lenOf, Builtin.firstCells, loadCells, loadCellsFrom, hnc, storeCells]
  | some ad =>
    obtain ⟨v', w', h1, h2, h3, _⟩ := run_append_own (P := Try.prog) w base 22 ty 43 i0 (.agg #[.int .i64 0, .int .i64 0]) 2 16 Try.underlying22 hi0 hz0 hz1 hz2 rfl (by decide) v n xs hO ad l.length cap (cells2 l) (cells2_len l) (irow_news (a := none) hU') (cells2_one l) (by unfold maxLen; omega) (by omega) hb
    exact ⟨v', w', h1, h2, h3⟩

set_option maxRecDepth 100000 in
set_option maxHeartbeats 4000000 in
theorem grow_zero (w : World) : Calls Try.prog 44 #[.slice none 0 0, .int .i64 0] w fun e w' => e = .returned (.slice none 0 0) ∧ w = w' := by
  go_enter Try.func44, Try.ntmps44
  go_wp2_with fail
  go_ret
  exact ⟨rfl, rfl⟩

set_option maxRecDepth 100000 in
set_option maxHeartbeats 4000000 in
theorem grow_some (n : Nat) (hn0 : 0 < n) (hn : n ≤ 100000) (w : World) : Calls Try.prog 44 #[.slice none 0 0, .int .i64 (n : Int)] w fun e w' => (∃ v, e = .returned v ∧ w'.ownsRow w.heap.size 43 2 v 0 []) ∧ Chg (fun _ => False) w w' := by
  obtain ⟨i0, hi0, hz0, hz1, hz2⟩ := info_parts info43
  have hr := fun ty => Lib.run_append_grow_zeros (P := Try.prog) w 22 3 ty 43 i0 (.agg #[.int .i64 0, .int .i64 0]) .i64 .i64 Try.underlying22 Try.underlying3 hi0 hz0 none 0 0 [] (run_firstCells_none w.drew i0.size 0 0 0) n hn0 (by rw [hz1]; decide) (by omega) (by omega) (by rw [hz2]; omega)
    (by rw [hz2]; unfold Builtin.nextslicecap; rw [if_pos (by omega)]; omega)
  have hge := grownCap_ge w (0 + n) 0 43
  have hle := grownCap_le_maxLen w (0 + n) 0 43 (by unfold maxLen; omega)
  simp only [Nat.zero_add] at hr hge hle
  obtain ⟨G, hG⟩ : ∃ G, G = grownCap w n 0 43 := ⟨_, rfl⟩
  rw [← hG] at hr hge hle
  have h1 : ¬ ((n : Int) < 0) := by omega
  have h3 : wrap64 ((n : Int) - 0) = (n : Int) := by unfold wrap64; omega
  have h4 : ((n : Int) > 0) := by omega
  unfold maxLen at hle
  have OW : Hid ((w.drew.alloc (.cells ([].toArray ++ Builtin.zeroCells (Value.agg #[.int .i64 0, .int .i64 0]).cells n ++ Builtin.zeroCells (Value.agg #[.int .i64 0, .int .i64 0]).cells (G - n)) 43)).ownsRow w.heap.size 43 2 (.slice (some ⟨w.heap.size, 0, none⟩) 0 G) 0 [] ∧ Chg (fun _ => False) w (w.drew.alloc (.cells ([].toArray ++ Builtin.zeroCells (Value.agg #[.int .i64 0, .int .i64 0]).cells n ++ Builtin.zeroCells (Value.agg #[.int .i64 0, .int .i64 0]).cells (G - n)) 43))) := hide (by
    refine ⟨⟨rfl, Or.inr ⟨w.heap.size, G, _, rfl, Nat.le_refl _, blk_new w.drew _, Nat.zero_le _, by unfold maxLen; omega, ?_, by simp⟩⟩, (Chg.refl _ _).drew.alloc _⟩
    simp [Builtin.zeroCells, Value.cells]
    omega)
  generalize (w.drew.alloc (.cells ([].toArray ++ Builtin.zeroCells (Value.agg #[.int .i64 0, .int .i64 0]).cells n ++ Builtin.zeroCells (Value.agg #[.int .i64 0, .int .i64 0]).cells (G - n)) 43)) = w2 at *
  clear hG
  go_enter Try.func44, Try.ntmps44
  go_wp2_with (at_builtin; refine Lib.wpList_append_run _ rfl _ _ _ _ rfl _ _ rfl rfl _ _ (hr _) ?_)
  all_goals (go_ret; exact ⟨⟨_, rfl, OW.out.1⟩, OW.out.2⟩)

theorem grow_any (n : Nat) (hn : n ≤ 100000) (w : World) : Calls Try.prog 44 #[.slice none 0 0, .int .i64 (n : Int)] w fun e w' => (∃ v, e = .returned v ∧ w'.ownsRow w.heap.size 43 2 v 0 []) ∧ Chg (fun _ => False) w w' := by
  by_cases h : n = 0
  · subst h
    exact (grow_zero w).mono fun e w' ⟨h1, h2⟩ => by subst h2; exact ⟨⟨_, h1, rfl, Or.inl ⟨rfl, rfl⟩⟩, Chg.refl _ _⟩
  · exact grow_some n (by omega) hn w

theorem own_shrink {w : World} {base n : Nat} {v : Value} {xs : List Value} (h : w.ownsRow base 43 2 v n xs) {B : Nat} (hb : B ≤ base) : w.ownsRow B 43 2 v n xs := by
  obtain ⟨h1, h2⟩ := h
  refine ⟨h1, ?_⟩
  rcases h2 with h2 | ⟨g, cap, cur, e, h3, h4⟩
  · exact Or.inl h2
  · exact Or.inr ⟨g, cap, cur, e, by omega, h4⟩

set_option maxRecDepth 100000 in
set_option maxHeartbeats 8000000 in
theorem concat_any (C B : Nat) (pa qa : Option Addr) (pc qc : Nat) (lp lq : List (Int × Int)) (hlp : lp.length ≤ 1000) (hlq : lq.length ≤ 1000) (w : World) (c0 : w.cell? ⟨C, 0, none⟩ = some (.slice pa lp.length pc)) (c1 : w.cell? ⟨C, 1, none⟩ = some (.slice qa lq.length qc))
    (hp : IRow w B (.slice pa lp.length pc) lp) (hq : IRow w B (.slice qa lq.length qc) lq) :
    Calls Try.prog 30 #[.slice (some ⟨C, 0, none⟩) 2 2] w fun e w' => (∃ v, e = .returned v ∧ w'.ownsRow w.heap.size 43 2 v (lp ++ lq).length (cells2 (lp ++ lq))) ∧ Chg (fun _ => False) w w' := by
  have HP := hide hp
  have HQ := hide hq
  have gr := hide (grow_any (lp.length + lq.length) (by omega))
  obtain ⟨n1, hn1⟩ : ∃ n1, lp.length = n1 := ⟨_, rfl⟩
  obtain ⟨n2, hn2⟩ : ∃ n2, lq.length = n2 := ⟨_, rfl⟩
  rw [hn1] at c0 HP hlp gr
  rw [hn2] at c1 HQ hlq gr
  have HN1 := hide hn1
  have HN2 := hide hn2
  clear hp hq hn1 hn2
  go_enter Try.func30, Try.ntmps30
  go_wp2_with fail
  go_loop [11, 3] (fun iv sv => (iv = .int .i64 0 ∧ sv = .int .i64 0) ∨ (iv = .int .i64 1 ∧ sv = .int .i64 (n1 : Int)) ∨ (iv = .int .i64 2 ∧ sv = .int .i64 ((n1 : Int) + (n2 : Int)))) (fun iv _ => 2 - (intOf iv).toNat)
  case atStart => exact Or.inl ⟨rfl, rfl⟩
  case round =>
    rcases hrel with ⟨rfl, rfl⟩ | ⟨rfl, rfl⟩ | ⟨rfl, rfl⟩
    · go_wp2_with fail
      go_round
      case rel => exact Or.inr (Or.inl ⟨by go_num, by go_num⟩)
      case measure => simp [intOf]
    · go_wp2_with fail
      go_round
      case rel => exact Or.inr (Or.inr ⟨by go_num, by go_num⟩)
      case measure => simp [intOf]
    · have gr2 := hide (gr.out w)
      rw [Int.natCast_add] at gr2
      go_wp2_with fail
      refine gr2.out.mono ?_
      rintro e w1 ⟨⟨v, rfl, o1⟩, g1⟩
      have O1 := hide o1
      have C1 := hide g1
      clear o1 g1 gr gr2
      have HPn := HN1
      have HQn := HN2
      go_wp2_with fail
      go_loopw [27, 6] (fun iv ov wr => Hid (Chg (fun _ => False) w wr) ∧ ((iv = .int .i64 0 ∧ Hid (wr.ownsRow w.heap.size 43 2 ov 0 [])) ∨ (iv = .int .i64 1 ∧ Hid (wr.ownsRow w.heap.size 43 2 ov (0 + n1) ([] ++ cells2 lp))) ∨ (iv = .int .i64 2 ∧ Hid (wr.ownsRow w.heap.size 43 2 ov (0 + n1 + n2) ([] ++ cells2 lp ++ cells2 lq))))) (fun iv _ _ => 2 - (intOf iv).toNat)
      case atStart => exact ⟨C1, Or.inl ⟨rfl, O1⟩⟩
      case round =>
        clear O1 C1
        obtain ⟨hC, hrel⟩ := hrel
        rcases hrel with ⟨rfl, hO⟩ | ⟨rfl, hO⟩ | ⟨rfl, hO⟩
        · have hb : w.heap.size ≤ wr.heap.size := hC.out.size
          have d0 := hC.out.cell (fun h => h) c0
          have IP := HP.out.chg hC.out (fun _ _ h => h)
          obtain ⟨v', w', hr, hown, hgr⟩ := append_irow hO.out IP (by rw [HPn.out]; omega) hb 22
          rw [HPn.out] at hown
          have O2 := hide hown
          have C2 : Hid (Chg (fun _ => False) w w') := hide (by
            have h1 : Chg (fun x => w.heap.size ≤ x) w w' := hC.out.none.trans (own_chgNo hO.out hgr (fun x h => h))
            exact h1.mono (fun x hx h => by omega))
          clear hown hgr IP hO hC
          go_wp2_with (at_builtin; refine Lib.wpList_append_run_sl _ rfl _ _ _ rfl _ _ rfl rfl hr ?_)
          go_wp2_with fail
          go_roundw
          case rel => exact ⟨C2, Or.inr (Or.inl ⟨by go_num, O2⟩)⟩
          case measure => simp [intOf]
        · have hb : w.heap.size ≤ wr.heap.size := hC.out.size
          have d0 := hC.out.cell (fun h => h) c1
          have IP := HQ.out.chg hC.out (fun _ _ h => h)
          obtain ⟨v', w', hr, hown, hgr⟩ := append_irow hO.out IP (by rw [HQn.out]; omega) hb 22
          rw [HQn.out] at hown
          have O2 := hide hown
          have C2 : Hid (Chg (fun _ => False) w w') := hide (by
            have h1 : Chg (fun x => w.heap.size ≤ x) w w' := hC.out.none.trans (own_chgNo hO.out hgr (fun x h => h))
            exact h1.mono (fun x hx h => by omega))
          clear hown hgr IP hO hC
          go_wp2_with (at_builtin; refine Lib.wpList_append_run_sl _ rfl _ _ _ rfl _ _ rfl rfl hr ?_)
          go_wp2_with fail
          go_roundw
          case rel => exact ⟨C2, Or.inr (Or.inr ⟨by go_num, O2⟩)⟩
          case measure => simp [intOf]
        · have F : Hid (wr.ownsRow w.heap.size 43 2 u6 (lp ++ lq).length (cells2 (lp ++ lq))) := hide (by
            rw [List.length_append, cells2_app, HN1.out, HN2.out]
            have h := hO.out
            rw [Nat.zero_add, List.nil_append] at h
            exact h)
          clear hO
          go_wp2_with fail
          go_ret
          exact ⟨⟨_, rfl, F.out⟩, hC.out⟩
end Go.Proofs.Ytdcpcemihpkkaaa
