/- slices.Grow of nil, slices.Concat of two rows of types; kind.Of, kind.Arrow. -/
import Derived.Test.YtnpcapdlgcaniaaDoorCopied
import Derived.Lib.AppendZerosOnto
import Derived.Lib.SlFresh
import Derived.OwnWalk
namespace Go.Proofs.YtnpcapdlgcaniaaDoor
open Go.RowKit
set_option linter.unusedVariables false
set_option linter.unusedSimpArgs false

/-- A row of types, as cells. -/
def VRow (w : World) (X : Nat → Prop) (v : Value) (us : List (Value × Int)) : Prop :=
  (∀ p ∈ us, p.1.oneCell' = true) ∧ ∃ a cap, v = .slice a us.length cap ∧ (us = [] ∨ ∃ g off, a = some ⟨g, off, none⟩ ∧ X g ∧ ∀ j u, (cellsV us)[j]? = some u → w.cell? ⟨g, off + j, none⟩ = some u)
theorem VRow.chg {w w' : World} {X : Nat → Prop} {v : Value} {us : List (Value × Int)} (h : VRow w X v us) {S : Nat → Prop} (g : Chg S w w') (hn : ∀ x, X x → ¬ S x) : VRow w' X v us := by
  obtain ⟨h0, a, cap, e, h1⟩ := h
  refine ⟨h0, a, cap, e, ?_⟩
  rcases h1 with h1 | ⟨g1, off, e1, h2, h3⟩
  · exact Or.inl h1
  · exact Or.inr ⟨g1, off, e1, h2, fun j u hu => g.cell (hn g1 h2) (h3 j u hu)⟩

theorem cellsV_one {us : List (Value × Int)} (h : ∀ p ∈ us, p.1.oneCell' = true) : ∀ u ∈ cellsV us, u.oneCell' = true := by
  intro u hu
  unfold cellsV at hu
  obtain ⟨p, hp, hu⟩ := List.mem_flatMap.1 hu
  simp only [List.mem_cons, List.not_mem_nil, or_false] at hu
  rcases hu with rfl | rfl
  · exact h p hp
  · rfl

/-- A row of types lies as cells. -/
theorem lies_cells {w : World} {X : Nat → Prop} : ∀ {f : Fs} {g off : Nat}, Lies w X f g off →
    ∃ us : List (Value × Int), us.length = f.len ∧ (∀ p ∈ us, p.1.oneCell' = true) ∧ (∀ j u, (cellsV us)[j]? = some u → w.cell? ⟨g, off + j, none⟩ = some u) ∧ ∀ i (h1 : i < f.toL.length) (h2 : i < us.length), (f.toL[i]).2 = (us[i]).2 ∧ Ts w X (us[i]).1 (f.toL[i]).1
  | .nil, g, off, _ => ⟨[], rfl, fun p h => (by cases h), fun j u h => (by simp [cellsV] at h), fun i h1 h2 => absurd h1 (Nat.not_lt_zero _)⟩
  | .cons k b r, g, off, h => by
    obtain ⟨⟨v, c0, tv⟩, c1, hr⟩ := lies_cons.1 h
    obtain ⟨us, e1, e2, e3, e4⟩ := lies_cells hr
    refine ⟨(v, b) :: us, by simp [e1, Fs.len], fun p hp => ?_, fun j u hu => ?_, fun i h1 h2 => ?_⟩
    · rcases List.mem_cons.1 hp with rfl | hp
      · obtain ⟨a, cap, rfl, _⟩ := tv; rfl
      · exact e2 p hp
    · rw [cellsV_cons] at hu
      match j, hu with
      | 0, hu => simp at hu; subst hu; exact c0
      | 1, hu => simp at hu; subst hu; exact c1
      | j + 2, hu =>
        have : (cellsV us)[j]? = some u := by simpa using hu
        have := e3 j u this
        rw [show off + (j + 2) = off + 2 + j by omega]
        exact this
    · cases i with
      | zero => exact ⟨rfl, tv⟩
      | succ i =>
        simp only [Fs.toL, List.getElem_cons_succ]
        exact e4 i (by simpa [Fs.toL] using h1) (by simpa using h2)

theorem ts_vrow {w : World} {X : Nat → Prop} {v : Value} {f : Fs} (h : Ts w X v f) : ∃ us : List (Value × Int), us.length = f.len ∧ VRow w X v us ∧ ∀ i (h1 : i < f.toL.length) (h2 : i < us.length), (f.toL[i]).2 = (us[i]).2 ∧ Ts w X (us[i]).1 (f.toL[i]).1 := by
  obtain ⟨a, cap, rfl, h1⟩ := h
  rcases h1 with rfl | ⟨g, off, rfl, hg, hl⟩
  · exact ⟨[], rfl, ⟨fun p h => (by cases h), a, cap, rfl, Or.inl rfl⟩, fun i h1 h2 => absurd h1 (Nat.not_lt_zero _)⟩
  · obtain ⟨us, e1, e2, e3, e4⟩ := lies_cells hl
    exact ⟨us, e1, ⟨e2, _, cap, by rw [e1], Or.inr ⟨g, off, rfl, hg, e3⟩⟩, e4⟩

theorem append_vrow {w : World} {base n : Nat} {v : Value} {xs : List Value} (hO : w.ownsRow base 73 2 v n xs) {X : Nat → Prop} {u : Value} {l : List (Value × Int)} (hU : VRow w X u l) (hn : n + l.length ≤ 200000) (hb : base ≤ w.heap.size) (ty : TypeId) :
    ∃ v' w', (Builtin.append_ #[31, 31] ty #[v, u]).run Tryd.prog w = .ok v' w' ∧ w'.ownsRow base 73 2 v' (n + l.length) (xs ++ cellsV l) ∧ w.grownBy w' v.ownBlock := by
  obtain ⟨i0, hi0, hz0, hz1, hz2⟩ := info_parts info73
  obtain ⟨hone, a, cap, rfl, h⟩ := hU
  cases a with
  | none =>
    have h0 : l = [] := by
      rcases h with h | ⟨g, off, hg, _⟩
      · exact h
      · cases hg
    subst h0
    refine ⟨v, w, ?_, by simpa [cellsV] using hO, ⟨rfl, rfl, rfl, Nat.le_refl _, fun _ _ _ => rfl⟩⟩
    rcases hO.2 with ⟨rfl, rfl⟩ | ⟨g, cap, cur, rfl, hbg, hg, hnc, hcm, hcs, htake⟩
    · simp [Builtin.append_, run_underlying Tryd.underlying31, sizeOf, typeInfo, hi0, Builtin.lenOf, Builtin.firstCells, loadCells, loadCellsFrom]
    · simp [Builtin.append_, run_underlying Tryd.underlying31, sizeOf, typeInfo, hi0, Builtin.lenOf, Builtin.firstCells, loadCells, loadCellsFrom, hnc, storeCells]
  | some ad =>
    have hN : ∀ j u, (cellsV l)[j]? = some u → w.cell? (ad.add j) = some u := by
      intro j u hu
      rcases h with rfl | ⟨g, off, hg, _, h3⟩
      · simp [cellsV] at hu
      · cases hg
        rw [add_at]
        exact h3 j u hu
    obtain ⟨v', w', h1, h2, h3, _⟩ := run_append_own (P := Tryd.prog) w base 31 ty 73 i0 (.agg #[.slice none 0 0, .int .i64 0]) 2 32 Tryd.underlying31 hi0 hz0 hz1 hz2 rfl (by decide) v n xs hO ad l.length cap (cellsV l) (cellsV_len l) hN (cellsV_one hone) (by unfold maxLen; omega) (by omega) hb
    exact ⟨v', w', h1, h2, h3⟩

set_option maxRecDepth 100000 in
set_option maxHeartbeats 4000000 in
theorem grow_zero (w : World) : Calls Tryd.prog 76 #[.slice none 0 0, .int .i64 0] w fun e w' => e = .returned (.slice none 0 0) ∧ w = w' := by
  go_enter Tryd.func76, Tryd.ntmps76
  go_wp2_with fail
  go_ret
  exact ⟨rfl, rfl⟩

set_option maxRecDepth 100000 in
set_option maxHeartbeats 4000000 in
theorem grow_some (n : Nat) (hn0 : 0 < n) (hn : n ≤ 100000) (w : World) : Calls Tryd.prog 76 #[.slice none 0 0, .int .i64 (n : Int)] w fun e w' => (∃ v, e = .returned v ∧ w'.ownsRow w.heap.size 73 2 v 0 []) ∧ Chg (fun _ => False) w w' := by
  obtain ⟨i0, hi0, hz0, hz1, hz2⟩ := info_parts info73
  have hr := fun ty => Lib.run_append_grow_zeros (P := Tryd.prog) w 31 3 ty 73 i0 (.agg #[.slice none 0 0, .int .i64 0]) .i64 .i64 Tryd.underlying31 Tryd.underlying3 hi0 hz0 none 0 0 [] (run_firstCells_none w.drew i0.size 0 0 0) n hn0 (by rw [hz1]; decide) (by omega) (by omega) (by rw [hz2]; omega)
    (by rw [hz2]; unfold Builtin.nextslicecap; rw [if_pos (by omega)]; omega)
  have hge := grownCap_ge w (0 + n) 0 73
  have hle := grownCap_le_maxLen w (0 + n) 0 73 (by unfold maxLen; omega)
  simp only [Nat.zero_add] at hr hge hle
  obtain ⟨G, hG⟩ : ∃ G, G = grownCap w n 0 73 := ⟨_, rfl⟩
  rw [← hG] at hr hge hle
  have h1 : ¬ ((n : Int) < 0) := by omega
  have h3 : wrap64 ((n : Int) - 0) = (n : Int) := by unfold wrap64; omega
  have h4 : ((n : Int) > 0) := by omega
  unfold maxLen at hle
  have OW : Hid ((w.drew.alloc (.cells ([].toArray ++ Builtin.zeroCells (Value.agg #[.slice none 0 0, .int .i64 0]).cells n ++ Builtin.zeroCells (Value.agg #[.slice none 0 0, .int .i64 0]).cells (G - n)) 73)).ownsRow w.heap.size 73 2 (.slice (some ⟨w.heap.size, 0, none⟩) 0 G) 0 [] ∧ Chg (fun _ => False) w (w.drew.alloc (.cells ([].toArray ++ Builtin.zeroCells (Value.agg #[.slice none 0 0, .int .i64 0]).cells n ++ Builtin.zeroCells (Value.agg #[.slice none 0 0, .int .i64 0]).cells (G - n)) 73))) := hide (by
    refine ⟨⟨rfl, Or.inr ⟨w.heap.size, G, _, rfl, Nat.le_refl _, blk_new w.drew _, Nat.zero_le _, by unfold maxLen; omega, ?_, by simp⟩⟩, (Chg.refl _ _).drew.alloc _⟩
    simp [Builtin.zeroCells, Value.cells]
    omega)
  generalize (w.drew.alloc (.cells ([].toArray ++ Builtin.zeroCells (Value.agg #[.slice none 0 0, .int .i64 0]).cells n ++ Builtin.zeroCells (Value.agg #[.slice none 0 0, .int .i64 0]).cells (G - n)) 73)) = w2 at *
  clear hG
  go_enter Tryd.func76, Tryd.ntmps76
  go_wp2_with (at_builtin; refine Lib.wpList_append_run _ rfl _ _ _ _ rfl _ _ rfl rfl _ _ (hr _) ?_)
  all_goals (go_ret; exact ⟨⟨_, rfl, OW.out.1⟩, OW.out.2⟩)

theorem grow_any (n : Nat) (hn : n ≤ 100000) (w : World) : Calls Tryd.prog 76 #[.slice none 0 0, .int .i64 (n : Int)] w fun e w' => (∃ v, e = .returned v ∧ w'.ownsRow w.heap.size 73 2 v 0 []) ∧ Chg (fun _ => False) w w' := by
  by_cases h : n = 0
  · subst h
    exact (grow_zero w).mono fun e w' ⟨h1, h2⟩ => by subst h2; exact ⟨⟨_, h1, rfl, Or.inl ⟨rfl, rfl⟩⟩, Chg.refl _ _⟩
  · exact grow_some n (by omega) hn w

set_option maxRecDepth 100000 in
set_option maxHeartbeats 8000000 in
theorem concat_any (C : Nat) (X : Nat → Prop) (pa qa : Option Addr) (pc qc : Nat) (lp lq : List (Value × Int)) (hlp : lp.length ≤ 50000) (hlq : lq.length ≤ 50000) (w : World) (c0 : w.cell? ⟨C, 0, none⟩ = some (.slice pa lp.length pc)) (c1 : w.cell? ⟨C, 1, none⟩ = some (.slice qa lq.length qc))
    (hX : ∀ x, X x → x < w.heap.size) (hp : VRow w X (.slice pa lp.length pc) lp) (hq : VRow w X (.slice qa lq.length qc) lq) :
    Calls Tryd.prog 54 #[.slice (some ⟨C, 0, none⟩) 2 2] w fun e w' => (∃ v, e = .returned v ∧ w'.ownsRow w.heap.size 73 2 v (lp ++ lq).length (cellsV (lp ++ lq))) ∧ Chg (fun _ => False) w w' := by
  have HP := hide hp
  have HQ := hide hq
  have gr := hide (grow_any (lp.length + lq.length) (by omega))
  obtain ⟨n1, hn1⟩ : ∃ n1, lp.length = n1 := ⟨_, rfl⟩
  obtain ⟨n2, hn2⟩ : ∃ n2, lq.length = n2 := ⟨_, rfl⟩
  rw [hn1] at c0 HP hlp gr
  rw [hn2] at c1 HQ hlq gr
  have HN1 := hide hn1
  have HN2 := hide hn2
  clear hp hq hn1 hn2
  go_enter Tryd.func54, Tryd.ntmps54
  go_wp2_with fail
  go_loop [11, 3] (fun iv sv => (iv = .int .i64 0 ∧ sv = .int .i64 0) ∨ (iv = .int .i64 1 ∧ sv = .int .i64 (n1 : Int)) ∨ (iv = .int .i64 2 ∧ sv = .int .i64 ((n1 : Int) + (n2 : Int)))) (fun iv _ => 2 - (intOf iv).toNat)
  case atStart => exact Or.inl ⟨rfl, rfl⟩
  case round =>
    rcases hrel with ⟨rfl, rfl⟩ | ⟨rfl, rfl⟩ | ⟨rfl, rfl⟩
    · go_wp2_with fail
      go_round
      case rel => exact Or.inr (Or.inl ⟨by go_num, by go_num⟩)
      case measure => simp [intOf]
    · go_wp2_with fail
      go_round
      case rel => exact Or.inr (Or.inr ⟨by go_num, by go_num⟩)
      case measure => simp [intOf]
    · have gr2 := hide (gr.out w)
      rw [Int.natCast_add] at gr2
      go_wp2_with fail
      refine gr2.out.mono ?_
      rintro e w1 ⟨⟨v, rfl, o1⟩, g1⟩
      have O1 := hide o1
      have C1 := hide g1
      clear o1 g1 gr gr2
      have HPn := HN1
      have HQn := HN2
      go_wp2_with fail
      go_loopw [27, 6] (fun iv ov wr => Hid (Chg (fun _ => False) w wr) ∧ ((iv = .int .i64 0 ∧ Hid (wr.ownsRow w.heap.size 73 2 ov 0 [])) ∨ (iv = .int .i64 1 ∧ Hid (wr.ownsRow w.heap.size 73 2 ov (0 + n1) ([] ++ cellsV lp))) ∨ (iv = .int .i64 2 ∧ Hid (wr.ownsRow w.heap.size 73 2 ov (0 + n1 + n2) ([] ++ cellsV lp ++ cellsV lq))))) (fun iv _ _ => 2 - (intOf iv).toNat)
      case atStart => exact ⟨C1, Or.inl ⟨rfl, O1⟩⟩
      case round =>
        clear O1 C1
        obtain ⟨hC, hrel⟩ := hrel
        rcases hrel with ⟨rfl, hO⟩ | ⟨rfl, hO⟩ | ⟨rfl, hO⟩
        · have hb : w.heap.size ≤ wr.heap.size := hC.out.size
          have d0 := hC.out.cell (fun h => h) c0
          have IP := HP.out.chg hC.out (fun _ _ h => h)
          obtain ⟨v', w', hr, hown, hgr⟩ := append_vrow hO.out IP (by rw [HPn.out]; omega) hb 31
          rw [HPn.out] at hown
          have O2 := hide hown
          have C2 : Hid (Chg (fun _ => False) w w') := hide (by
            have h1 : Chg (fun x => w.heap.size ≤ x) w w' := hC.out.none.trans (own_grown hO.out hgr)
            exact h1.mono (fun x hx h => by omega))
          clear hown hgr IP hO hC
          go_wp2_with (at_builtin; refine Lib.wpList_append_run_sl _ rfl _ _ _ rfl _ _ rfl rfl hr ?_)
          go_wp2_with fail
          go_roundw
          case rel => exact ⟨C2, Or.inr (Or.inl ⟨by go_num, O2⟩)⟩
          case measure => simp [intOf]
        · have hb : w.heap.size ≤ wr.heap.size := hC.out.size
          have d0 := hC.out.cell (fun h => h) c1
          have IP := HQ.out.chg hC.out (fun _ _ h => h)
          obtain ⟨v', w', hr, hown, hgr⟩ := append_vrow hO.out IP (by rw [HQn.out]; omega) hb 31
          rw [HQn.out] at hown
          have O2 := hide hown
          have C2 : Hid (Chg (fun _ => False) w w') := hide (by
            have h1 : Chg (fun x => w.heap.size ≤ x) w w' := hC.out.none.trans (own_grown hO.out hgr)
            exact h1.mono (fun x hx h => by omega))
          clear hown hgr IP hO hC
          go_wp2_with (at_builtin; refine Lib.wpList_append_run_sl _ rfl _ _ _ rfl _ _ rfl rfl hr ?_)
          go_wp2_with fail
          go_roundw
          case rel => exact ⟨C2, Or.inr (Or.inr ⟨by go_num, O2⟩)⟩
          case measure => simp [intOf]
        · have F : Hid (wr.ownsRow w.heap.size 73 2 u6 (lp ++ lq).length (cellsV (lp ++ lq))) := hide (by
            rw [List.length_append, cellsV_app, HN1.out, HN2.out]
            have h := hO.out
            rw [Nat.zero_add, List.nil_append] at h
            exact h)
          clear hO
          go_wp2_with fail
          go_ret
          exact ⟨⟨_, rfl, F.out⟩, hC.out⟩
end Go.Proofs.YtnpcapdlgcaniaaDoor
