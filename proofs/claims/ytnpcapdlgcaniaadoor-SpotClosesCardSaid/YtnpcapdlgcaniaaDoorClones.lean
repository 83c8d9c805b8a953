/- slices.Clone and slices.Clip; a term's copy. -/
import Derived.Test.YtnpcapdlgcaniaaDoorTurned
import Derived.Test.YtnpcapdlgcaniaaDoorInts
import Derived.Lib.SliceRun
namespace Go.Proofs.YtnpcapdlgcaniaaDoor
open Go.RowKit
set_option linter.unusedVariables false
set_option linter.unusedSimpArgs false

/-- a row of types of one's own, whose types' own rows lie in X -/
def OwnF (w : World) (base : Nat) (X : Nat → Prop) (v : Value) (f : Fs) : Prop :=
  ∃ us : List (Value × Int), w.ownsRow base 73 2 v us.length (cellsV us) ∧ us.length = f.toL.length ∧ ∀ i (h1 : i < f.toL.length) (h2 : i < us.length), (f.toL[i]).2 = (us[i]).2 ∧ Ts w X (us[i]).1 (f.toL[i]).1
theorem OwnF.chg {w w' : World} {base : Nat} {X : Nat → Prop} {v : Value} {f : Fs} (h : OwnF w base X v f) {S : Nat → Prop} (g : Chg S w w') (hb : ∀ x, base ≤ x → ¬ S x) (hn : ∀ x, X x → ¬ S x) : OwnF w' base X v f := by
  obtain ⟨us, h1, h2, h3⟩ := h
  exact ⟨us, own_chg h1 g hb, h2, fun i a b => ⟨(h3 i a b).1, (h3 i a b).2.chg g hn⟩⟩
theorem OwnF.ts {w : World} {base : Nat} {X : Nat → Prop} {v : Value} {f : Fs} (h : OwnF w base X v f) : Ts w (fun x => X x ∨ (base ≤ x ∧ x < w.heap.size)) v f := by
  obtain ⟨us, h1, h2, h3⟩ := h
  exact tacc_ts h1 (fun r e => Or.inr (World.ownsRow.lt h1 r e)) h2.symm (fun i a b => ⟨(h3 i a b).1, (h3 i a b).2.up (fun x hx => Or.inl hx)⟩)
theorem OwnF.append {w : World} {base : Nat} {X : Nat → Prop} {v u : Value} {f g : Fs} (h : OwnF w base X v f) (hu : Ts w X u g) (hl : f.len + g.len ≤ 200000) (hb : base ≤ w.heap.size) (hX : ∀ x, X x → x < base) (ty : TypeId) :
    ∃ v' w', (Builtin.append_ #[31, 31] ty #[v, u]).run Tryd.prog w = .ok v' w' ∧ OwnF w' base X v' (f.app g) ∧ Chg (fun x => base ≤ x) w w' := by
  obtain ⟨us, h1, h2, h3⟩ := h
  obtain ⟨vs, e2, r2, k2⟩ := ts_vrow hu
  have t1 := Fs.toL_len f
  have t2 := Fs.toL_len g
  obtain ⟨v', w', hr, ho, hg⟩ := append_vrow h1 r2 (by omega) hb ty
  have G := own_grown h1 hg
  refine ⟨v', w', hr, ⟨us ++ vs, ?_, by rw [List.length_append, Fs.app_toL, List.length_append]; omega, fun i i1 i2 => ?_⟩, G⟩
  · rw [List.length_append, cellsV_app]; exact ho
  · simp only [Fs.app_toL] at i1 ⊢
    by_cases h : i < us.length
    · rw [List.getElem_append_left h, List.getElem_append_left (by omega)]
      have := h3 i (by omega) h
      exact ⟨this.1, this.2.chg G (fun x hx e => by have := hX x hx; omega)⟩
    · rw [List.getElem_append_right (by omega), List.getElem_append_right (by omega)]
      rw [List.length_append] at i2
      simp only [show i - f.toL.length = i - us.length by omega]
      have := k2 (i - us.length) (by omega) (by omega)
      exact ⟨this.1, this.2.chg G (fun x hx e => by have := hX x hx; omega)⟩
theorem own_empty (w : World) (T : TypeId) (n : Nat) : (w.alloc (.cells #[] T)).ownsRow w.heap.size T n (.slice (some ⟨w.heap.size, 0, none⟩) 0 0) 0 [] :=
  ⟨by simp, Or.inr ⟨w.heap.size, 0, #[], rfl, Nat.le_refl _, blk_new w _, Nat.le_refl _, Nat.zero_le _, by simp, by simp⟩⟩
theorem grown_no {w w' : World} {o : Obj} (h : (w.alloc o).grownBy w' (some w.heap.size)) : Chg (fun _ => False) w w' :=
  ((al w o).grown (S := fun _ => False) h (fun r e => Or.inr (by cases e; exact Nat.le_refl _)))
theorem tclone_none (cap : Nat) (w : World) : Calls Tryd.prog 42 #[.slice none 0 cap] w fun e w' => e = .returned (.slice none 0 0) ∧ Chg (fun _ => False) w w' := by
  have he : (binOp .eql 31 (.slice none 0 cap) (.slice none 0 0)).run Tryd.prog w = .ok (.bool true) w := by
    rw [Lib.run_eql_slice_nil w 31 73 _ _ _ _ _ Tryd.underlying31]; rfl
  go_enter Tryd.func42, Tryd.ntmps42
  go_wp2_with fail
  go_ret
  exact ⟨rfl, Chg.refl _ _⟩
set_option maxRecDepth 100000 in
set_option maxHeartbeats 4000000 in
theorem tclone_some (ad : Addr) (cap : Nat) (us : List (Value × Int)) (hl : us.length ≤ 100000) (hone : ∀ p ∈ us, p.1.oneCell' = true) (w : World) (hn : ∀ j u, (cellsV us)[j]? = some u → (w.alloc (.cells #[] 73)).cell? (ad.add j) = some u) :
    Calls Tryd.prog 42 #[.slice (some ad) us.length cap] w fun e w' => (∃ v, e = .returned v ∧ w'.ownsRow w.heap.size 73 2 v us.length (cellsV us)) ∧ Chg (fun _ => False) w w' := by
  have he : (binOp .eql 31 (.slice (some ad) us.length cap) (.slice none 0 0)).run Tryd.prog w = .ok (.bool false) w := by
    rw [Lib.run_eql_slice_nil w 31 73 _ _ _ _ _ Tryd.underlying31]; rfl
  obtain ⟨i0, hi0, hz0, hz1, hz2⟩ := info_parts info73
  have own := hide (own_empty w 73 2)
  have N := hide hn
  have HO := hide (cellsV_one hone)
  have Fin := hide (fun v' w1 (h1 : w1.ownsRow w.heap.size 73 2 v' (0 + us.length) ([] ++ cellsV us)) (h2 : (w.alloc (.cells #[] 73)).grownBy w1 (some w.heap.size)) => (show w1.ownsRow w.heap.size 73 2 v' us.length (cellsV us) ∧ Chg (fun _ => False) w w1 from by
    rw [Nat.zero_add, List.nil_append] at h1
    exact ⟨h1, grown_no h2⟩))
  clear hn hone
  go_enter Tryd.func42, Tryd.ntmps42
  go_wp2_with (at_builtin; refine wpList_append_own _ rfl _ _ 31 rfl w.heap.size 73 i0 (.agg #[.slice none 0 0, .int .i64 0]) 2 32 Tryd.underlying31 hi0 hz0 hz1 hz2 rfl (by decide) _ 0 [] rfl own.out ad us.length cap (cellsV us) rfl (cellsV_len us) N.out HO.out (by simp [maxLen]; omega) (by omega) (by simp) ?_; intro v' w1 hown1 hgrow _)
  have F := hide (Fin.out v' w1 hown1 hgrow)
  clear hown1 hgrow
  go_wp2_with fail
  go_ret
  exact ⟨⟨v', rfl, F.out.1⟩, F.out.2⟩
theorem tclone_any (f : Fs) (hf : f.len ≤ 100000) (v : Value) (X : Nat → Prop) (w : World) (hv : Ts w X v f) :
    Calls Tryd.prog 42 #[v] w fun e w' => (∃ v', e = .returned v' ∧ OwnF w' w.heap.size X v' f) ∧ Chg (fun _ => False) w w' := by
  obtain ⟨us, e1, ⟨hone, a, cap, rfl, h⟩, k1⟩ := ts_vrow hv
  have t1 := Fs.toL_len f
  cases a with
  | none =>
    have h0 : us = [] := by
      rcases h with h | ⟨g, off, hg, _⟩
      · exact h
      · cases hg
    subst h0
    have hf0 : f = .nil := Fs.len_nil e1.symm
    subst hf0
    exact (tclone_none cap w).mono fun e w' ⟨he, hc⟩ => ⟨⟨_, he, [], ⟨rfl, Or.inl ⟨rfl, rfl⟩⟩, rfl, fun i h1 => absurd h1 (Nat.not_lt_zero _)⟩, hc⟩
  | some ad =>
    refine (tclone_some ad cap us (by omega) hone w ?_).mono ?_
    · intro j u hu
      rcases h with h | ⟨g, off, hg, _, h3⟩
      · subst h; simp [cellsV] at hu
      cases hg
      rw [add_at]
      exact (al w _).cell (fun h => h) (h3 j u hu)
    · rintro e w' ⟨⟨v', rfl, h1⟩, g⟩
      exact ⟨⟨v', rfl, us, h1, by omega, fun i a b => ⟨(k1 i a b).1, (k1 i a b).2.chg g (fun _ _ h => h)⟩⟩, g⟩

/-! ### ints -/
theorem infoI3 : (Tryd.prog.info? 3).map (fun i => (i.zero, i.size, i.bytes)) = some (some (.int .i64 0), 1, 8) := by kernel_rfl
theorem iclone_none (cap : Nat) (w : World) : Calls Tryd.prog 73 #[.slice none 0 cap] w fun e w' => e = .returned (.slice none 0 0) ∧ Chg (fun _ => False) w w' := by
  have he : (binOp .eql 28 (.slice none 0 cap) (.slice none 0 0)).run Tryd.prog w = .ok (.bool true) w := by
    rw [Lib.run_eql_slice_nil w 28 3 _ _ _ _ _ Tryd.underlying28]; rfl
  go_enter Tryd.func73, Tryd.ntmps73
  go_wp2_with fail
  go_ret
  exact ⟨rfl, Chg.refl _ _⟩
set_option maxRecDepth 100000 in
set_option maxHeartbeats 4000000 in
theorem iclone_some (ad : Addr) (cap : Nat) (l : List Int) (hl : l.length ≤ 1000000) (w : World) (hn : ∀ j u, (l.map (Value.int .i64))[j]? = some u → (w.alloc (.cells #[] 3)).cell? (ad.add j) = some u) :
    Calls Tryd.prog 73 #[.slice (some ad) l.length cap] w fun e w' => (∃ v, e = .returned v ∧ Il w' (fun x => w.heap.size ≤ x ∧ x < w'.heap.size) v l) ∧ Chg (fun _ => False) w w' := by
  have he : (binOp .eql 28 (.slice (some ad) l.length cap) (.slice none 0 0)).run Tryd.prog w = .ok (.bool false) w := by
    rw [Lib.run_eql_slice_nil w 28 3 _ _ _ _ _ Tryd.underlying28]; rfl
  obtain ⟨i0, hi0, hz0, hz1, hz2⟩ := info_parts infoI3
  have own := hide (own_empty w 3 1)
  have hlen : (l.map (Value.int .i64)).length = l.length * 1 := by simp
  have hone : ∀ u ∈ l.map (Value.int .i64), u.oneCell' = true := fun u hu => by obtain ⟨s, _, rfl⟩ := List.mem_map.1 hu; rfl
  have N := hide hn
  have Fin := hide (fun v' w1 (h1 : w1.ownsRow w.heap.size 3 1 v' (0 + l.length) ([] ++ l.map (Value.int .i64))) (h2 : (w.alloc (.cells #[] 3)).grownBy w1 (some w.heap.size)) => (show Il w1 (fun x => w.heap.size ≤ x ∧ x < w1.heap.size) v' l ∧ Chg (fun _ => False) w w1 from by
    rw [Nat.zero_add, List.nil_append] at h1
    exact ⟨il_own h1 (fun r e => World.ownsRow.lt h1 r e), grown_no h2⟩))
  clear hn
  go_enter Tryd.func73, Tryd.ntmps73
  go_wp2_with (at_builtin; refine wpList_append_own _ rfl _ _ 28 rfl w.heap.size 3 i0 (.int .i64 0) 1 8 Tryd.underlying28 hi0 hz0 hz1 hz2 rfl (by decide) _ 0 [] rfl own.out ad l.length cap (l.map (Value.int .i64)) rfl hlen N.out hone (by simp [maxLen]; omega) (by omega) (by simp) ?_; intro v' w1 hown1 hgrow _)
  have F := hide (Fin.out v' w1 hown1 hgrow)
  clear hown1 hgrow
  go_wp2_with fail
  go_ret
  exact ⟨⟨v', rfl, F.out.1⟩, F.out.2⟩
theorem iclone_any (l : List Int) (hl : l.length ≤ 1000000) (v : Value) (X : Nat → Prop) (w : World) (hv : Il w X v l) :
    Calls Tryd.prog 73 #[v] w fun e w' => (∃ v', e = .returned v' ∧ Il w' (fun x => w.heap.size ≤ x ∧ x < w'.heap.size) v' l) ∧ Chg (fun _ => False) w w' := by
  obtain ⟨a, cap, rfl, h⟩ := hv
  cases a with
  | none =>
    have h0 : l = [] := by
      rcases h with h | ⟨g, off, hg, _⟩
      · exact h
      · cases hg
    subst h0
    exact (iclone_none cap w).mono fun e w' ⟨he, hc⟩ => ⟨⟨_, he, Il.nil _ _⟩, hc⟩
  | some ad =>
    refine iclone_some ad cap l hl w ?_
    intro j u hu
    rcases h with h | ⟨g, off, hg, _, h3⟩
    · subst h; cases hu
    cases hg
    rw [add_at]
    have hj : j < l.length := by
      have := (List.getElem?_eq_some_iff.1 hu).1
      simpa using this
    rw [List.getElem?_map, List.getElem?_eq_getElem hj] at hu
    cases hu
    exact (al w _).cell (fun h => h) (h3 j hj)
set_option maxRecDepth 100000 in
theorem clip_any (a : Option Addr) (n c : Nat) (hn : n ≤ 1000000) (hc : n ≤ c) (ha : a = none → n = 0 ∧ c = 0) (w : World) : Calls Tryd.prog 74 #[.slice a n c] w fun e w' => e = .returned (.slice a n n) ∧ w = w' := by
  have h1 : (0 : Int) ≤ (n : Int) := by omega
  have h2 : (n : Int) ≤ (c : Int) := by omega
  cases a with
  | none =>
    obtain ⟨rfl, rfl⟩ := ha rfl
    go_enter Tryd.func74, Tryd.ntmps74
    go_wp2_with fail
    go_ret
    exact ⟨rfl, rfl⟩
  | some ad =>
    go_enter Tryd.func74, Tryd.ntmps74
    go_wp2_with fail
    go_ret
    exact ⟨by simp, rfl⟩

/-- a term that a walk goes through -/
def TmOk (t : Tm) : Prop := t.bs.size ≤ 40000 ∧ In64' t.ix ∧ t.ag.len ≤ 1000000 ∧ TOk t.ag ∧ t.bs.size + t.ag.size ≤ 40000
set_option maxRecDepth 100000 in
set_option maxHeartbeats 4000000 in
theorem copy_any (t : Tm) (ok : TmOk t) (v : Value) (X : Nat → Prop) (w : World) (hX : ∀ x, X x → x < w.heap.size) (hv : TV w X v t) :
    Calls Tryd.prog 43 #[v] w fun e w' => (∃ v', e = .returned v' ∧ TV w' (fun x => w.heap.size ≤ x ∧ x < w'.heap.size) v' t) ∧ Chg (fun _ => False) w w' := by
  obtain ⟨b, k, i, f⟩ := t
  obtain ⟨ba, bc, a, cap, rfl, h1, h2⟩ := hv
  dsimp only [Tm.bs, Tm.kd, Tm.ix, Tm.ag] at *
  have G1 := al w (.cells #[.slice ba b.len bc, .int .i64 k, .int .i64 i, .slice a f.len cap] 35)
  have G2 := al (w.alloc (.cells #[.slice ba b.len bc, .int .i64 k, .int .i64 i, .slice a f.len cap] 35)) (.cells #[.slice none 0 0, .int .i64 0, .int .i64 0, .slice none 0 0] 35)
  have b1 := blk_new (w.alloc (.cells #[.slice ba b.len bc, .int .i64 k, .int .i64 i, .slice a f.len cap] 35)) (.cells #[.slice none 0 0, .int .i64 0, .int .i64 0, .slice none 0 0] 35)
  rw [al_sz] at b1
  have GG := hide (G1.trans G2)
  have BR := hide b1
  have TC := hide (turned_any f b k i 0 _ _ X ((w.alloc (.cells #[.slice ba b.len bc, .int .i64 k, .int .i64 i, .slice a f.len cap] 35)).alloc (.cells #[.slice none 0 0, .int .i64 0, .int .i64 0, .slice none 0 0] 35)) ok.1 ok.2.1 ok.2.2.1 ok.2.2.2.1 (by have := ok.2.2.2.2; dsimp only [Tm.bs, Tm.ag] at this; omega) (fun x hx => Nat.lt_of_lt_of_le (hX x hx) GG.out.size) (h1.chg GG.out (fun _ _ h => h)) (h2.chg GG.out (fun _ _ h => h)))
  have e0 : ((0 : Nat) : Int) = 0 := rfl
  rw [e0] at TC
  clear e0 G1 G2 b1 h1 h2 hX
  go_enter Tryd.func43, Tryd.ntmps43
  go_wp2_with fail
  generalize ((w.alloc (.cells #[.slice ba b.len bc, .int .i64 k, .int .i64 i, .slice a f.len cap] 35)).alloc (.cells #[.slice none 0 0, .int .i64 0, .int .i64 0, .slice none 0 0] 35)) = w1 at *
  obtain ⟨R, hR⟩ : ∃ R, w.heap.size + 1 = R := ⟨_, rfl⟩
  rw [hR] at BR
  try rw [hR]
  have HR := hide hR
  clear hR
  refine TC.out.mono ?_
  rintro e w2 ⟨⟨vb', v', rfl, tb, tr⟩, g⟩
  obtain ⟨ca, cc, rfl, _⟩ := id tb
  obtain ⟨va, vc, rfl, _⟩ := id tr
  have B2 := hide (g.blk (fun h => h) BR.out)
  have b0 := blk_cell B2.out 0
  have b1 := blk_cell B2.out 1
  have b2 := blk_cell B2.out 2
  have b3 := blk_cell B2.out 3
  have ff0 := blk_free B2.out 0
  have ff1 := blk_free B2.out 1
  have ff2 := blk_free B2.out 2
  have ff3 := blk_free B2.out 3
  simp only [List.getElem?_toArray, List.getElem?_cons_zero, List.getElem?_cons_succ] at b0 b1 b2 b3
  have hz1 := blk_lt BR.out
  have NS : Hid (((((w2.setCell ⟨R, 0, none⟩ (.slice ca b.len cc)).setCell ⟨R, 1, none⟩ (.int .i64 k)).setCell ⟨R, 2, none⟩ (.int .i64 i)).setCell ⟨R, 3, none⟩ (.slice va f.len vc)).heap[R]? = some (.cells #[.slice ca b.len cc, .int .i64 k, .int .i64 i, .slice va f.len vc] 35) ∧ Chg (fun x => x = R) w2 ((((w2.setCell ⟨R, 0, none⟩ (.slice ca b.len cc)).setCell ⟨R, 1, none⟩ (.int .i64 k)).setCell ⟨R, 2, none⟩ (.int .i64 i)).setCell ⟨R, 3, none⟩ (.slice va f.len vc))) := hide ⟨blk_set (blk_set (blk_set (blk_set B2.out 0 (.slice ca b.len cc)) 1 (.int .i64 k)) 2 (.int .i64 i)) 3 (.slice va f.len vc), (((Chg.set w2 R 0 (.slice ca b.len cc)).trans (Chg.set _ R 1 (.int .i64 k))).trans (Chg.set _ R 2 (.int .i64 i))).trans (Chg.set _ R 3 (.slice va f.len vc))⟩
  have GF : Hid (Chg (fun _ => False) w ((((w2.setCell ⟨R, 0, none⟩ (.slice ca b.len cc)).setCell ⟨R, 1, none⟩ (.int .i64 k)).setCell ⟨R, 2, none⟩ (.int .i64 i)).setCell ⟨R, 3, none⟩ (.slice va f.len vc))) := hide ((((GG.out.trans g).mono (T := fun x => x = R) (fun x _ h => h.elim)).trans NS.out.2).mono (fun x hx e => by have := HR.out; omega))
  have LF : Hid (TV ((((w2.setCell ⟨R, 0, none⟩ (.slice ca b.len cc)).setCell ⟨R, 1, none⟩ (.int .i64 k)).setCell ⟨R, 2, none⟩ (.int .i64 i)).setCell ⟨R, 3, none⟩ (.slice va f.len vc)) (fun x => w.heap.size ≤ x ∧ x < ((((w2.setCell ⟨R, 0, none⟩ (.slice ca b.len cc)).setCell ⟨R, 1, none⟩ (.int .i64 k)).setCell ⟨R, 2, none⟩ (.int .i64 i)).setCell ⟨R, 3, none⟩ (.slice va f.len vc)).heap.size) (.agg #[.slice ca b.len cc, .int .i64 k, .int .i64 i, .slice va f.len vc]) (b, k, i, f)) := hide (((show TV w2 (fun x => w1.heap.size ≤ x ∧ x < w2.heap.size) _ (b, k, i, f) from ⟨ca, cc, va, vc, rfl, tb, tr⟩).chg NS.out.2 (fun x hx e => by have := hx.1; omega)).up (fun x hx => ⟨by have := hx.1; have := HR.out; omega, by have := hx.2; have := NS.out.2.size; omega⟩))
  clear g tb tr TC hz1 B2
  go_wp2_with fail
  generalize ((((w2.setCell ⟨R, 0, none⟩ (.slice ca b.len cc)).setCell ⟨R, 1, none⟩ (.int .i64 k)).setCell ⟨R, 2, none⟩ (.int .i64 i)).setCell ⟨R, 3, none⟩ (.slice va f.len vc)) = wF at *
  have r0 := blk_cell NS.out.1 0
  have r1 := blk_cell NS.out.1 1
  have r2 := blk_cell NS.out.1 2
  have r3 := blk_cell NS.out.1 3
  refine bodyPost_ret (v := .agg #[.slice ca b.len cc, .int .i64 k, .int .i64 i, .slice va f.len vc]) (by simp [results, Tryd.results43, go_sem, r0, r1, r2, r3]) rfl ?_
  exact ⟨⟨_, rfl, LF.out⟩, GF.out⟩
end Go.Proofs.YtnpcapdlgcaniaaDoor
