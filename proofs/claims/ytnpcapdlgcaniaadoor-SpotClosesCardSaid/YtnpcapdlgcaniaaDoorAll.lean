/- spot.All: the paths of all places. -/
import Derived.Test.YtnpcapdlgcaniaaDoorDown
import Derived.Maps.AppendAt
import Derived.Maps.OwnIn
namespace Go.Proofs.YtnpcapdlgcaniaaDoor
open Go.RowKit Go.Shelf
attribute [local go_sem] Oper.semAt_some
set_option linter.unusedVariables false
set_option linter.unusedSimpArgs false

theorem info28 : (Tryd.prog.info? 28).map (fun i => (i.zero, i.size, i.bytes)) = some (some (.slice none 0 0), 1, 24) := by kernel_rfl
/-- rows of ints in a row of one's own -/
abbrev Rw := Value × List Int
def RowsAt (w : World) (lo : Nat) (v : Value) (us : List Rw) : Prop :=
  w.ownsRow lo 28 1 v us.length (us.map (·.1)) ∧ ∀ x ∈ us, Il w (fun y => lo ≤ y ∧ y < w.heap.size ∧ v.ownBlock ≠ some y) x.1 x.2
theorem RowsAt.nil (w : World) (lo : Nat) : RowsAt w lo (.slice none 0 0) [] := ⟨⟨rfl, Or.inl ⟨rfl, rfl⟩⟩, fun x hx => by cases hx⟩
def AllG : Nat → TypeId → Prop := fun _ _ => True
theorem own_kp {w w' : World} {base : Nat} {e : TypeId} {size n : Nat} {v : Value} {xs : List Value} (h : w.ownsRow base e size v n xs) (g : KpG AllG w w') : w'.ownsRow base e size v n xs := by
  obtain ⟨h1, h2⟩ := h
  rcases h2 with h2 | ⟨b, cap, cur, e1, e2, e3, e4⟩
  · exact ⟨h1, Or.inl h2⟩
  · exact ⟨h1, Or.inr ⟨b, cap, cur, e1, e2, g.blk e3 trivial, e4⟩⟩
theorem Il.kpa {w w' : World} {X : Nat → Prop} {v : Value} {l : List Int} (h : Il w X v l) (g : KpG AllG w w') : Il w' X v l := by
  obtain ⟨a, cap, e, h1⟩ := h
  refine ⟨a, cap, e, ?_⟩
  rcases h1 with h1 | ⟨b, off, e1, h2, h3⟩
  · exact Or.inl h1
  · exact Or.inr ⟨b, off, e1, h2, fun i hi => g.cell (fun t => trivial) (h3 i hi)⟩
theorem RowsAt.kp {w w' : World} {lo : Nat} {v : Value} {us : List Rw} (h : RowsAt w lo v us) (g : KpG AllG w w') : RowsAt w' lo v us :=
  ⟨own_kp h.1 g, fun x hx => ((h.2 x hx).kpa g).up (fun y hy => ⟨hy.1, Nat.lt_of_lt_of_le hy.2.1 g.1, hy.2.2⟩)⟩
theorem RowsAt.chg {w w' : World} {lo : Nat} {v : Value} {us : List Rw} (h : RowsAt w lo v us) {S : Nat → Prop} (g : Chg S w w') (hn : ∀ x, lo ≤ x → ¬ S x) : RowsAt w' lo v us :=
  ⟨own_chg h.1 g hn, fun x hx => ((h.2 x hx).chg g (fun y hy => hn y hy.1)).up (fun y hy => ⟨hy.1, Nat.lt_of_lt_of_le hy.2.1 g.size, hy.2.2⟩)⟩
theorem own_base {w : World} {base base' : Nat} {e : TypeId} {size n : Nat} {v : Value} {xs : List Value} (h : w.ownsRow base e size v n xs) (hb : base' ≤ base) : w.ownsRow base' e size v n xs := by
  rcases h.2 with h2 | ⟨g, cap, cur, h2, h3, h4⟩
  · exact ⟨h.1, Or.inl h2⟩
  · exact ⟨h.1, Or.inr ⟨g, cap, cur, h2, Nat.le_trans hb h3, h4⟩⟩
theorem own_slice {w : World} {base : Nat} {e : TypeId} {size n : Nat} {v : Value} {xs : List Value} (h : w.ownsRow base e size v n xs) : ∃ a k c, v = .slice a k c := by
  rcases h.2 with ⟨rfl, _⟩ | ⟨g, cap, cur, rfl, _⟩
  · exact ⟨_, _, _, rfl⟩
  · exact ⟨_, _, _, rfl⟩
theorem own_type {w : World} {base : Nat} {e : TypeId} {size n : Nat} {v : Value} {xs : List Value} (h : w.ownsRow base e size v n xs) {r : Nat} (hr : v.ownBlock = some r) : ∃ cur, w.heap[r]? = some (.cells cur e) := by
  rcases h.2 with ⟨rfl, _⟩ | ⟨g, cap, cur, rfl, _, h2, _⟩
  · cases hr
  · cases hr
    exact ⟨cur, h2⟩
theorem kpa_own {W W' : World} {row : Option Nat} (hg : W.grownBy W' row) (hr : ∀ r, row = some r → ∃ o, W.heap[r]? = some o ∧ o.isCells = false) : KpG AllG W W' :=
  ⟨hg.size, fun k c t fr hk _ => (hg.block k (Array.getElem?_eq_some_iff.1 hk).1 (fun e => by
    obtain ⟨o, ho, hc⟩ := hr k e.symm
    rw [hk] at ho
    cases ho
    cases hc)).trans hk⟩
/-- one row more -/
theorem RowsAt.snoc {w : World} {lo : Nat} {v : Value} {us : List Rw} (h : RowsAt w lo v us) (hlo : lo ≤ w.heap.size) {L : Nat} (hv : ∀ r, v.ownBlock = some r → r < L) (hL : lo ≤ L) {p : Value} {l : List Int} (hp : Il w (fun y => L ≤ y ∧ y < w.heap.size) p l)
    {b cc : Nat} (hb : w.heap[b]? = some (.cells #[p] 28)) (hlen : us.length ≤ 1000000) (ty : TypeId) :
    ∃ v' w', (Builtin.append_ #[49, 49] ty #[v, .slice (some ⟨b, 0, none⟩) 1 cc]).run Tryd.prog w = .ok v' w' ∧ RowsAt w' lo v' (us ++ [(p, l)]) ∧ w.grownBy w' v.ownBlock := by
  obtain ⟨i0, hi0, hz0, hz1, hz2⟩ := info_parts info28
  obtain ⟨a, cap, rfl, _⟩ := id hp
  obtain ⟨v', w', hr, h2, h3, _, h5⟩ := run_append_own_at (P := Tryd.prog) w lo 49 ty 28 i0 (.slice none 0 0) 1 24 Tryd.underlying49 hi0 hz0 hz1 hz2 rfl (by decide) v us.length _ h.1 ⟨b, 0, none⟩ 1 cc [.slice a l.length cap] rfl (fun j u hu => by
    cases j with
    | zero =>
      simp only [List.getElem?_cons_zero, Option.some.injEq] at hu
      subst hu
      exact blk_cell hb 0
    | succ j => simp at hu) (fun u hu => by rw [List.mem_singleton] at hu; subst hu; rfl) (by unfold maxLen; omega) (by omega) hlo
  have hG : Chg (fun x => v.ownBlock = some x) w w' := (Chg.refl _ w).grown h3 (fun r e => Or.inl e)
  refine ⟨v', w', hr, ⟨by rw [List.length_append, List.map_append]; exact h2, fun x hx => ?_⟩, h3⟩
  have nv : ∀ y, y < w.heap.size → v.ownBlock ≠ some y → v'.ownBlock ≠ some y := fun y h1 h2 e => by
    rcases h5 with h5 | h5
    · rw [h5] at e; exact h2 e
    · rw [h5] at e; have := Option.some.inj e; omega
  rcases List.mem_append.1 hx with hx | hx
  · exact ((h.2 x hx).chg hG (fun y hy e => hy.2.2 e)).up (fun y hy => ⟨hy.1, Nat.lt_of_lt_of_le hy.2.1 h3.size, nv y hy.2.1 hy.2.2⟩)
  · rw [List.mem_singleton] at hx
    subst hx
    exact (hp.chg hG (fun y hy e => by have := hv y e; have := hy.1; omega)).up (fun y hy => ⟨by have := hy.1; omega, Nat.lt_of_lt_of_le hy.2 h3.size, nv y hy.2 (fun e => by have := hv y e; have := hy.1; omega)⟩)

theorem wpListIn_append_run {F : Fence} {n : Nat} {P : Program} (w : World) {ops : Array Oper} {rest : List Oper} {o : Oper} {a : Act} {Q : Exit → Act → World → Prop} (hgd : o.guard = none) (s x : Operand) (t : TypeId)
    (ho : o.op = .call { callee := .builtin .append, args := #[s, x], argTypes := #[t, t] }) (v u : Value) (hs : a.eval s = v) (hx : a.eval x = u) {v' : Value} {w' : World}
    (hr : (Builtin.append_ #[t, t] o.type #[v, u]).run P w = .ok v' w') (h : wpListIn F n P ops Q rest (a.put o.dst v') w') : wpListIn F n P ops Q (o :: rest) a w :=
  wpListIn_plain hgd fun K hK => wpIn_append_run w s x t ho v u hs hx hr (hK _ _ h)

/-- what All has gathered -/
def AInv (B lo : Nat) (w : World) (pre : List Nd) (W : World) : Prop :=
  (∃ v us, W.heap[B]? = some (.cells #[v] 49) ∧ RowsAt W lo v us ∧ us.map (·.2) = pre.map (·.2.2.1)) ∧ Below w.heap.size w W ∧ lo ≤ W.heap.size
theorem AInv.kp {B lo : Nat} {w : World} {pre : List Nd} {W W' : World} (h : AInv B lo w pre W) (g : KpG AllG W W') (hb : Below w.heap.size w W') : AInv B lo w pre W' := by
  obtain ⟨⟨v, us, h1, h2, h3⟩, _, hl⟩ := h
  exact ⟨⟨v, us, g.blk h1 trivial, h2.kp g, h3⟩, hb, Nat.le_trans hl g.1⟩

set_option maxRecDepth 100000 in
set_option maxHeartbeats 4000000 in
theorem all_in (t : Tm) (ok : TmOk t) (v : Value) (X : Nat → Prop) (w : World) (hX : ∀ x, X x → x < w.heap.size) (hv : TV w X v t) :
    CallsIn Fence.wide 4 Tryd.prog 19 #[v] w fun e W' => (∃ vr us, e = .returned vr ∧ RowsAt W' w.heap.size vr us ∧ us.map (·.2) = (placesP [] t).map (·.1)) ∧ Below w.heap.size w W' := by
  obtain ⟨b, kd, ix, f⟩ := t
  obtain ⟨ba, bc, fa, fc, rfl, tb, tr⟩ := id hv
  dsimp only [Tm.bs, Tm.kd, Tm.ix, Tm.ag] at *
  have hcs : f.cnt ≤ 100000 := by have := Tms.cnt_size f; have := ok.2.2.2.2; dsimp only [Tm.bs, Tm.ag] at this; omega
  refine callsIn_of_wp_marks Tryd.func19 rfl trivial ?_ rfl
  simp only [Tryd.ntmps19, List.size_toArray, List.length_cons, List.length_nil, Nat.reduceAdd, Nat.reduceSub, Array.replicate_succ, Array.replicate_zero, List.push_toArray, List.append_toArray, List.nil_append, List.cons_append]
  gi_wp2
  refine ⟨trivial, ?_⟩
  refine (each_in _ _ _ _ _ _).mono ?_
  rintro e w' ⟨rfl, rfl⟩
  gi_wp2
  obtain ⟨W0, hW0⟩ : ∃ W0, (((w.alloc (.cells #[.slice ba b.len bc, .int .i64 kd, .int .i64 ix, .slice fa f.len fc] 35)).alloc (.cells #[.slice none 0 0] 49)).alloc (.cells #[.slice ba b.len bc, .int .i64 kd, .int .i64 ix, .slice fa f.len fc] 35)) = W0 := ⟨_, rfl⟩
  rw [hW0]
  have hsz : W0.heap.size = w.heap.size + 3 := by rw [← hW0]; simp
  have hC0 : Chg (fun _ => False) w W0 := by
    rw [← hW0]
    exact ((al w _).alloc _).alloc _
  have hB0 : Below w.heap.size w W0 := hC0.below (Nat.le_refl _) (fun _ h => h.elim)
  have hL : W0.heap[w.heap.size + 1]? = some (.cells #[.slice none 0 0] 49) := by
    rw [← hW0]
    have e2 := blk_new (w.alloc (.cells #[.slice ba b.len bc, .int .i64 kd, .int .i64 ix, .slice fa f.len fc] 35)) (.cells #[.slice none 0 0] 49)
    simp only [World.size_alloc] at e2
    exact blk_alloc e2
  have hT : W0.heap[w.heap.size + 1 + 1]? = some (.cells #[.slice ba b.len bc, .int .i64 kd, .int .i64 ix, .slice fa f.len fc] 35) := by
    rw [← hW0]
    have e2 := blk_new ((w.alloc (.cells #[.slice ba b.len bc, .int .i64 kd, .int .i64 ix, .slice fa f.len fc] 35)).alloc (.cells #[.slice none 0 0] 49)) (.cells #[.slice ba b.len bc, .int .i64 kd, .int .i64 ix, .slice fa f.len fc] 35)
    simp only [World.size_alloc] at e2
    exact e2
  clear hW0
  have hv0 := hv.chg hC0 (fun _ _ h => h)
  clear tb tr hv hC0
  refine wpIn_range_told rfl (by omega) (gf := 49) (lb := #[.pointer (some ⟨w.heap.size + 1 + 1, 0, none⟩)]) rfl trivial (enters_of Tryd.func49 (by kernel_rfl) rfl)
    (each_tells 3 (w.heap.size + 1 + 1) (fun k t => k ≠ w.heap.size + 1 ∧ (k < W0.heap.size ∨ t ≠ 28)) X W0 (fun x c hx => by have := hX x hx; exact ⟨by omega, Or.inl (by omega)⟩) (fun x hx => by have := hX x hx; omega)
      (fun x hx => ⟨⟨by omega, Or.inr (by decide)⟩, ⟨by omega, Or.inr (by decide)⟩⟩) (b, kd, ix, f) ok ba bc fa fc hT hv0)
    (fun h k => h.trans k) (fun W l o o' _ ho hc => KpG.put _ W l o o' ho hc) (fun _ => rfl)
    (fun pre W => AInv (w.heap.size + 1) W0.heap.size w pre W) (fun _ _ _ => False)
    (fun s A C row hs hg hr => hs.kp (kpa_own hg (fun r e => (hr r e).2)) (hs.2.1.grown hg (by have := hs.2.1.size; omega) (fun r e => by have := (hr r e).1; omega)))
    (fun c s A C row hs _ _ => hs.elim)
    ⟨⟨_, [], hL, RowsAt.nil _ _, rfl⟩, hB0, Nat.le_refl _⟩
    ?round ?done ?stop
  case round =>
    rintro l pre x V W hl hlW hI hVW hQ hlen
    obtain ⟨pv, tv, p, tm⟩ := x
    obtain ⟨q1, q2⟩ := hQ
    dsimp only at q1 q2 hlen
    obtain ⟨pa, pc, rfl, _⟩ := id q1
    dsimp only [encT]
    have HLW := hide hlW
    have HSZ := hide hsz
    clear hlW hsz
    gi_wp2
    refine ⟨KeepsFrom.refl _ _, KpG.refl _ _, fun o o' ho hoc => ?_⟩
    have hsz := HSZ.out
    have K2 : KpG AllG V (W.putObj l o') := (KpG.of_same hVW).trans (KpG.put _ _ _ _ _ ho hoc)
    have B2 : Below w.heap.size w (W.putObj l o') := (hI.2.1.trans (hVW.below (B := w.heap.size) (by have := hI.2.1.size; omega) (fun _ h => h.elim))).trans ((Below.refl _ W).grown (grownBy_putObj' W l o') (by have := hI.2.1.size; have := hVW.size; omega) (fun k e => by cases e; omega))
    obtain ⟨⟨v, us, i1, i2, i3⟩, _⟩ := hI.kp K2 B2
    have hvl : ∀ r, v.ownBlock = some r → r < V.heap.size := by
      intro r hr
      obtain ⟨⟨v0, us0, j1, j2, j3⟩, _⟩ := hI
      have e := K2.blk j1 trivial
      rw [i1] at e
      cases e
      exact (World.ownsRow.lt j2.1 r hr).2
    have hlo : W0.heap.size ≤ V.heap.size := hI.2.2
    have hp : Il (W.putObj l o') (fun y => V.heap.size ≤ y ∧ y < (W.putObj l o').heap.size) (.slice pa p.length pc) p := (q1.kpa (KpG.put _ _ _ _ _ ho hoc)).up (fun y hy => ⟨hy.1, by simpa using hy.2⟩)
    have hlen2 : us.length ≤ 1000000 := by
      have h1 := congrArg List.length i3
      rw [List.length_map, List.length_map] at h1
      dsimp only [Tm.ag] at hlen
      omega
    generalize W.putObj l o' = W2 at *
    have A3 := al W2 (.cells #[.slice pa p.length pc] 28)
    have b3 := blk_new W2 (.cells #[.slice pa p.length pc] 28)
    obtain ⟨v', W3, hr, R3, g3⟩ := (i2.kp (KpG.of_same A3)).snoc (by have := A3.size; have := K2.1; omega) hvl hlo ((hp.chg A3 (fun _ _ h => h)).up (fun y hy => ⟨hy.1, Nat.lt_of_lt_of_le hy.2 A3.size⟩)) b3 (cc := 1) hlen2 49
    have c1 := blk_cell i1 0
    have c2 := A3.cell (fun h => h) c1
    have B3 : W3.heap[w.heap.size + 1]? = some (.cells #[v] 49) := (g3.block _ (Array.getElem?_eq_some_iff.1 (blk_alloc i1)).1 (fun e => by
      have := (World.ownsRow.lt i2.1 _ e.symm).1
      omega)).trans (blk_alloc i1)
    have c3 := blk_cell B3 0
    have f3 := blk_free B3 0
    simp only [List.getElem?_toArray, List.getElem?_cons_zero, List.getElem?_cons_succ] at c1 c2 c3
    have FIN : Hid (AInv (w.heap.size + 1) W0.heap.size w (pre ++ [(.slice pa p.length pc, tv, p, tm)]) (W3.setCell ⟨w.heap.size + 1, 0, none⟩ v') ∧ KeepsFrom W0.heap.size W2 (W3.setCell ⟨w.heap.size + 1, 0, none⟩ v') ∧ KpG (fun k t => k ≠ w.heap.size + 1 ∧ (k < W0.heap.size ∨ t ≠ 28)) W2 (W3.setCell ⟨w.heap.size + 1, 0, none⟩ v')) := hide (by
      have C4 : Chg (fun x => x = w.heap.size + 1) W3 (W3.setCell ⟨w.heap.size + 1, 0, none⟩ v') := Chg.set _ _ _ _
      have gc : ∀ r, v.ownBlock = some r → ∃ cur, (W2.alloc (.cells #[.slice pa p.length pc] 28)).heap[r]? = some (.cells cur 28) := fun r hr => by
        obtain ⟨cur, hc⟩ := own_type i2.1 hr
        exact ⟨cur, blk_alloc hc⟩
      have rlo : ∀ r, v.ownBlock = some r → W0.heap.size ≤ r := fun r hr => (World.ownsRow.lt i2.1 r hr).1
      have kw : w.heap.size ≤ W2.heap.size := B2.size
      refine ⟨⟨⟨v', us ++ [(.slice pa p.length pc, p)], blk_set B3 0 v', R3.chg C4 (fun x hx e => by omega), by rw [List.map_append, List.map_append, i3]; rfl⟩, ?_, ?_⟩, ?_, ?_⟩
      · exact ((B2.alloc kw _).grown g3 (by have := A3.size; omega) (fun k e => by have := rlo k e; omega)).setCell (p := ⟨w.heap.size + 1, 0, none⟩) (Nat.le_succ _) v'
      · have h1 := C4.size; have h2 := g3.size; have h3 := A3.size; have h4 := K2.1; omega
      · refine ((KeepsOthers.alloc _ _).from _).trans (KeepsFrom.trans (Y := W3) ⟨g3.size, fun k o hB hk ho => (g3.block k (Array.getElem?_eq_some_iff.1 hk).1 (fun e => ?_)).trans hk⟩ ((KeepsOthers.setCell _ _ _).from _))
        obtain ⟨cur, hc⟩ := gc k e.symm
        rw [hk] at hc
        cases hc
        cases ho
      · refine (KpG.of_same A3).trans ((KpG.of_chg ((Chg.refl (fun x => v.ownBlock = some x) _).grown g3 (fun r e => Or.inl e)) (fun k c t fr hk hc hg => ?_)).trans (KpG.of_chg C4 (fun k c t fr hk hc hg => hg.1 hk)))
        obtain ⟨cur, hc2⟩ := gc k hk
        rw [hc] at hc2
        cases hc2
        rcases hg.2 with h | h
        · have := rlo k hk; omega
        · exact h rfl)
    obtain ⟨sa, sn, sc, rfl⟩ := own_slice R3.1
    clear i1 i2 i3 hvl hp A3 b3 R3 g3 B3 K2 B2 q1 q2 hVW hI hsz
    gi_wp2_with (gi_at_builtin; refine wpListIn_append_run _ rfl _ _ _ rfl _ _ rfl rfl hr ?_)
    gi_wp2
    exact ⟨FIN.out.2.1, FIN.out.2.2, FIN.out.1⟩
  case done =>
    rintro D ys W hD hys hI hK
    obtain ⟨⟨v, us, i1, i2, i3⟩, hB, hl⟩ := hI
    obtain ⟨sa, sn, sc, rfl⟩ := own_slice i2.1
    have c1 := blk_cell i1 0
    simp only [List.getElem?_toArray, List.getElem?_cons_zero, List.getElem?_cons_succ] at c1
    have HR := hide i2
    have HE := hide i3
    have HB := hide hB
    have hKK := hide hK
    clear i1 i2 i3 hB hK
    gi_wp2
    refine ⟨by simp, .inl ⟨_, _, rfl, run_takeDeferred hKK.out, ?_⟩⟩
    refine ⟨.slice sa sn sc, by simp [results, Tryd.f19, go_sem], ⟨_, us, rfl, ?_, ?_⟩, ?_⟩
    · have h1 := HR.out.kp (KpG.put AllG W D _ (.deferred none) hKK.out rfl)
      exact ⟨own_base h1.1 (by omega), fun x hx => (h1.2 x hx).up (fun y hy => ⟨by omega, hy.2⟩)⟩
    · rw [HE.out, ← hys, List.map_map]
      rfl
    · exact HB.out.trans ((Below.refl _ W).grown (grownBy_putObj' W D _) HB.out.size (fun k e => by cases e; omega))
  case stop =>
    rintro D c pre W _ _ h _
    exact h.elim

theorem all_any (t : Tm) (ok : TmOk t) (v : Value) (X : Nat → Prop) (w : World) (hX : ∀ x, X x → x < w.heap.size) (hv : TV w X v t) :
    Calls Tryd.prog 19 #[v] w fun e W' => (∃ vr us, e = .returned vr ∧ RowsAt W' w.heap.size vr us ∧ us.map (·.2) = (placesP [] t).map (·.1)) ∧ Chg (fun _ => False) w W' :=
  (callsIn_wide.1 (all_in t ok v X w hX hv)).mono fun e W' ⟨h1, h2⟩ => ⟨h1, (Chg.of_below h2).mono (fun k hk h => by omega)⟩
end Go.Proofs.YtnpcapdlgcaniaaDoor
