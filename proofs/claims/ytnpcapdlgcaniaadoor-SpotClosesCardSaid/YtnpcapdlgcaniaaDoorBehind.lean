/- The document's Behind: one row of types behind another. -/
import Derived.Test.YtnpcapdlgcaniaaDoorAt
import Derived.Test.YtnpcapdlgcaniaaDoorTypes
namespace Go.Proofs.YtnpcapdlgcaniaaDoor
open Go.RowKit
set_option linter.unusedVariables false
set_option linter.unusedSimpArgs false

theorem append_vrow22 {w : World} {base n : Nat} {v : Value} {xs : List Value} (hO : w.ownsRow base 92 2 v n xs) {X : Nat → Prop} {u : Value} {l : List (Value × Int)} (hU : VRow w X u l) (hn : n + l.length ≤ 200000) (hb : base ≤ w.heap.size) (ty : TypeId) :
    ∃ v' w', (Builtin.append_ #[22, 22] ty #[v, u]).run Tryd.prog w = .ok v' w' ∧ w'.ownsRow base 92 2 v' (n + l.length) (xs ++ cellsV l) ∧ w.grownBy w' v.ownBlock := by
  obtain ⟨i0, hi0, hz0, hz1, hz2⟩ := info_parts info92
  obtain ⟨hone, a, cap, rfl, h⟩ := hU
  cases a with
  | none =>
    have h0 : l = [] := by
      rcases h with h | ⟨g, off, hg, _⟩
      · exact h
      · cases hg
    subst h0
    refine ⟨v, w, ?_, by simpa [cellsV] using hO, ⟨rfl, rfl, rfl, Nat.le_refl _, fun _ _ _ => rfl⟩⟩
    rcases hO.2 with ⟨rfl, rfl⟩ | ⟨g, cap, cur, rfl, hbg, hg, hnc, hcm, hcs, htake⟩
    · simp [Builtin.append_, run_underlying Tryd.underlying22, sizeOf, typeInfo, hi0, Builtin.lenOf, Builtin.firstCells, loadCells, loadCellsFrom]
    · simp [Builtin.append_, run_underlying Tryd.underlying22, sizeOf, typeInfo, hi0, Builtin.lenOf, Builtin.firstCells, loadCells, loadCellsFrom, hnc, storeCells]
  | some ad =>
    have hN : ∀ j u, (cellsV l)[j]? = some u → w.cell? (ad.add j) = some u := by
      intro j u hu
      rcases h with rfl | ⟨g, off, hg, _, h3⟩
      · simp [cellsV] at hu
      · cases hg
        rw [add_at]
        exact h3 j u hu
    obtain ⟨v', w', h1, h2, h3, _⟩ := run_append_own (P := Tryd.prog) w base 22 ty 92 i0 (.agg #[.slice none 0 0, .int .i64 0]) 2 32 Tryd.underlying22 hi0 hz0 hz1 hz2 rfl (by decide) v n xs hO ad l.length cap (cellsV l) (cellsV_len l) hN (cellsV_one hone) (by unfold maxLen; omega) (by omega) hb
    exact ⟨v', w', h1, h2, h3⟩

/-- a row of types of one's own, whose types' own rows lie in X -/
def OwnB (w : World) (base : Nat) (X : Nat → Prop) (v : Value) (f : Fs) : Prop :=
  ∃ us : List (Value × Int), w.ownsRow base 92 2 v us.length (cellsV us) ∧ us.length = f.toL.length ∧ ∀ i (h1 : i < f.toL.length) (h2 : i < us.length), (f.toL[i]).2 = (us[i]).2 ∧ Ts w X (us[i]).1 (f.toL[i]).1
theorem OwnB.chg {w w' : World} {base : Nat} {X : Nat → Prop} {v : Value} {f : Fs} (h : OwnB w base X v f) {S : Nat → Prop} (g : Chg S w w') (hb : ∀ x, base ≤ x → ¬ S x) (hn : ∀ x, X x → ¬ S x) : OwnB w' base X v f := by
  obtain ⟨us, h1, h2, h3⟩ := h
  exact ⟨us, own_chg h1 g hb, h2, fun i a b => ⟨(h3 i a b).1, (h3 i a b).2.chg g hn⟩⟩
theorem OwnB.ts {w : World} {base : Nat} {X : Nat → Prop} {v : Value} {f : Fs} (h : OwnB w base X v f) : Ts w (fun x => X x ∨ (base ≤ x ∧ x < w.heap.size)) v f := by
  obtain ⟨us, h1, h2, h3⟩ := h
  exact taccT_ts (t := 92) h1 (fun r e => Or.inr (World.ownsRow.lt h1 r e)) h2.symm (fun i a b => ⟨(h3 i a b).1, (h3 i a b).2.up (fun x hx => Or.inl hx)⟩)
theorem OwnB.append {w : World} {base : Nat} {X : Nat → Prop} {v u : Value} {f g : Fs} (h : OwnB w base X v f) (hu : Ts w X u g) (hl : f.len + g.len ≤ 200000) (hb : base ≤ w.heap.size) (hX : ∀ x, X x → x < base) (ty : TypeId) :
    ∃ v' w', (Builtin.append_ #[22, 22] ty #[v, u]).run Tryd.prog w = .ok v' w' ∧ OwnB w' base X v' (f.app g) ∧ Chg (fun x => base ≤ x) w w' := by
  obtain ⟨us, h1, h2, h3⟩ := h
  obtain ⟨vs, e2, r2, k2⟩ := ts_vrow hu
  have t1 := Fs.toL_len f
  have t2 := Fs.toL_len g
  obtain ⟨v', w', hr, ho, hg⟩ := append_vrow22 h1 r2 (by omega) hb ty
  have G := own_grown h1 hg
  refine ⟨v', w', hr, ⟨us ++ vs, ?_, by rw [List.length_append, Fs.app_toL, List.length_append]; omega, fun i i1 i2 => ?_⟩, G⟩
  · rw [List.length_append, cellsV_app]; exact ho
  · simp only [Fs.app_toL] at i1 ⊢
    by_cases h : i < us.length
    · rw [List.getElem_append_left h, List.getElem_append_left (by omega)]
      have := h3 i (by omega) h
      exact ⟨this.1, this.2.chg G (fun x hx e => by have := hX x hx; omega)⟩
    · rw [List.getElem_append_right (by omega), List.getElem_append_right (by omega)]
      rw [List.length_append] at i2
      simp only [show i - f.toL.length = i - us.length by omega]
      have := k2 (i - us.length) (by omega) (by omega)
      exact ⟨this.1, this.2.chg G (fun x hx e => by have := hX x hx; omega)⟩

theorem OwnB.nil (w : World) (base : Nat) (X : Nat → Prop) : OwnB w base X (.slice none 0 0) .nil := ⟨[], ⟨rfl, Or.inl ⟨rfl, rfl⟩⟩, rfl, fun i h => absurd h (Nat.not_lt_zero _)⟩
/-- what was allowed, and what is new -/
def New (X : Nat → Prop) (w w' : World) : Nat → Prop := fun x => X x ∨ (w.heap.size ≤ x ∧ x < w'.heap.size)
set_option maxRecDepth 100000 in
set_option maxHeartbeats 4000000 in
theorem behind_any (f g : Fs) (hl : f.len + g.len ≤ 200000) (v u : Value) (X : Nat → Prop) (w : World) (hX : ∀ x, X x → x < w.heap.size) (hv : Ts w X v f) (hu : Ts w X u g) :
    Calls Tryd.prog 31 #[v, u] w fun e w' => (∃ v', e = .returned v' ∧ Ts w' (New X w w') v' (f.app g)) ∧ Chg (fun _ => False) w w' := by
  obtain ⟨a1, w1, hr1, O1, g1⟩ := (OwnB.nil w w.heap.size X).append hv (by simp only [Fs.len]; omega) (Nat.le_refl _) hX 22
  rw [Fs.nil_app] at O1
  have U1 := hu.chg g1 (fun x hx e => by have := hX x hx; omega)
  obtain ⟨a2, w2, hr2, O2, g2⟩ := O1.append U1 hl g1.size hX 22
  have GF : Hid (Chg (fun _ => False) w w2) := hide ((g1.trans g2).mono (fun x hx e => by omega))
  have TF := hide (show Ts w2 (New X w w2) a2 (f.app g) from O2.ts)
  obtain ⟨va, vc, rfl, _⟩ := id hv
  obtain ⟨ua, uc, rfl, _⟩ := id hu
  clear hv hu O1 O2 U1 g1 g2
  go_enter Tryd.func31, Tryd.ntmps31
  go_wp2_with (at_builtin; first | (refine Lib.wpList_append_run _ rfl _ _ _ _ rfl _ _ rfl rfl _ _ hr1 ?_) | (refine Lib.wpList_append_run _ rfl _ _ _ _ rfl _ _ rfl rfl _ _ hr2 ?_))
  go_ret
  exact ⟨⟨_, rfl, TF.out⟩, GF.out⟩
/-! ### everything that is there -/
theorem Ts.all {w w' : World} {v : Value} {f : Fs} (h : Ts w (fun x => x < w.heap.size) v f) (g : Chg (fun _ => False) w w') : Ts w' (fun x => x < w'.heap.size) v f :=
  (h.chg g (fun _ _ h => h)).up (fun x hx => Nat.lt_of_lt_of_le hx g.size)
theorem Tr.all {w w' : World} {v : Value} {f : Tms} (h : Tr w (fun x => x < w.heap.size) v f) (g : Chg (fun _ => False) w w') : Tr w' (fun x => x < w'.heap.size) v f :=
  (h.chg g (fun _ _ h => h)).up (fun x hx => Nat.lt_of_lt_of_le hx g.size)
theorem TV.all {w w' : World} {v : Value} {t : Tm} (h : TV w (fun x => x < w.heap.size) v t) (g : Chg (fun _ => False) w w') : TV w' (fun x => x < w'.heap.size) v t :=
  (h.chg g (fun _ _ h => h)).up (fun x hx => Nat.lt_of_lt_of_le hx g.size)
theorem TV.of_new {w w' : World} {b : Nat} {v : Value} {t : Tm} (h : TV w' (fun x => b ≤ x ∧ x < w'.heap.size) v t) : TV w' (fun x => x < w'.heap.size) v t := h.up (fun x hx => hx.2)
theorem Ts.of_new {w' : World} {b : Nat} {v : Value} {t : Fs} (h : Ts w' (fun x => b ≤ x ∧ x < w'.heap.size) v t) : Ts w' (fun x => x < w'.heap.size) v t := h.up (fun x hx => hx.2)
/-- a path, with its capacity -/
def Ip (w : World) (v : Value) (p : List Int) : Prop :=
  ∃ a cap, v = .slice a p.length cap ∧ p.length ≤ cap ∧ cap ≤ maxLen ∧ (p = [] ∨ ∃ g off, a = some ⟨g, off, none⟩ ∧ g < w.heap.size ∧ ∀ i (h : i < p.length), w.cell? ⟨g, off + i, none⟩ = some (.int .i64 p[i]))
theorem Ip.all {w w' : World} {v : Value} {p : List Int} (h : Ip w v p) (gc : Chg (fun _ => False) w w') : Ip w' v p := by
  obtain ⟨a, cap, e, h1, h2, h3⟩ := h
  refine ⟨a, cap, e, h1, h2, ?_⟩
  rcases h3 with h3 | ⟨g, off, e1, h4, h5⟩
  · exact Or.inl h3
  · exact Or.inr ⟨g, off, e1, Nat.lt_of_lt_of_le h4 gc.size, fun i hi => gc.cell (fun h => h) (h5 i hi)⟩
theorem Ip.il {w : World} {v : Value} {p : List Int} (h : Ip w v p) : Il w (fun x => x < w.heap.size) v p := by
  obtain ⟨a, cap, e, h1, h2, h3⟩ := h
  exact ⟨a, cap, e, h3⟩
theorem add_atI (g off j : Nat) : (⟨g, off, none⟩ : Addr).add j = ⟨g, off + j, none⟩ := by unfold Addr.add; split <;> simp_all
/-- a path without its first number -/
theorem Ip.tail {w : World} {v : Value} {i : Int} {p : List Int} (h : Ip w v (i :: p)) : ∃ g off cap a', v = .slice (some ⟨g, off, none⟩) (p.length + 1) cap ∧ p.length + 1 ≤ cap ∧ cap ≤ maxLen ∧ w.cell? ⟨g, off, none⟩ = some (.int .i64 i) ∧
    (∀ w2, (Instr.slice 28 (.slice (some ⟨g, off, none⟩) (p.length + 1) cap) (some (.int .i64 1)) none none).run Tryd.prog w2 = .ok (.slice a' p.length (cap - 1)) w2) ∧ Ip w (.slice a' p.length (cap - 1)) p := by
  obtain ⟨a, cap, e, h1, h2, h3⟩ := h
  simp only [List.length_cons] at e h1
  rcases h3 with h3 | ⟨g, off, rfl, h4, h5⟩
  · cases h3
  · refine ⟨g, off, cap, if cap = 1 then some ⟨g, off, none⟩ else some ⟨g, off + 1, none⟩, e, h1, h2, by have := h5 0 (Nat.succ_pos _); rw [Nat.add_zero] at this; exact this, fun w2 => ?_, ?_⟩
    · obtain ⟨i0, hi0, hz0, hz1, hz2⟩ := info_parts infoI3
      have q : ((1 : Int) ≤ (p.length + 1 : Nat)) := by omega
      have q2 : ¬ ((p.length : Int) + 1 < 1) := by omega
      by_cases hc : cap = 1
      · simp [Instr.slice, Instr.sliceBounds, Instr.sliceBound, run_underlying Tryd.underlying28, asIntOf, sizeOf, typeInfo, hi0, hz1, add_atI, go_sem, hc, q2]
      · simp [Instr.slice, Instr.sliceBounds, Instr.sliceBound, run_underlying Tryd.underlying28, asIntOf, sizeOf, typeInfo, hi0, hz1, add_atI, go_sem, hc, q2]
    · refine ⟨_, _, rfl, by omega, by omega, ?_⟩
      cases p with
      | nil => exact Or.inl rfl
      | cons j p =>
        right
        rw [if_neg (by simp at h1; omega)]
        exact ⟨g, off + 1, rfl, h4, fun i hi => by
          have := h5 (i + 1) (by simp at hi ⊢; omega)
          simp only [List.getElem_cons_succ] at this
          rw [show off + 1 + i = off + (i + 1) by omega]
          exact this⟩
end Go.Proofs.YtnpcapdlgcaniaaDoor
