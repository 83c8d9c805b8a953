/- The document's Replace: another body at a path. -/
import Derived.Test.YtnpcapdlgcaniaaDoorRepl
import Derived.Maps.AppendAt
namespace Go.Proofs.YtnpcapdlgcaniaaDoor
open Go.RowKit
set_option linter.unusedVariables false
set_option linter.unusedSimpArgs false

/-- What is made so far: what was allowed, or new and not in the row itself. -/
def PX (w : World) (X : Nat → Prop) (B : Nat) (u : Value) : Nat → Prop := fun x => X x ∨ (B ≤ x ∧ x < w.heap.size ∧ u.ownBlock ≠ some x)
def SameX (w : World) (X : Nat → Prop) (B : Nat) (u : Value) (f : Tms) (us : List Tc) : Prop :=
  us.length ≤ f.toL.length ∧ ∀ j (h1 : j < f.toL.length) (h2 : j < us.length), TL w (PX w X B u) us[j] f.toL[j]
theorem SameX.nil (w : World) (X : Nat → Prop) (B : Nat) (u : Value) (f : Tms) : SameX w X B u f [] := ⟨Nat.zero_le _, fun j h1 h2 => absurd h2 (Nat.not_lt_zero _)⟩
theorem SameX.chg {w w' : World} {X : Nat → Prop} {B : Nat} {u : Value} {f : Tms} {us : List Tc} (h : SameX w X B u f us) {S : Nat → Prop} (g : Chg S w w') (hn : ∀ x, PX w X B u x → ¬ S x) : SameX w' X B u f us :=
  ⟨h.1, fun j h1 h2 => (((h.2 j h1 h2)).chg g hn).up (fun x hx => hx.elim Or.inl (fun hx => Or.inr ⟨hx.1, Nat.lt_of_lt_of_le hx.2.1 g.size, hx.2.2⟩))⟩
theorem SameX.grown {w w' : World} {X : Nat → Prop} {B : Nat} {u u' : Value} {f : Tms} {us : List Tc} (h : SameX w X B u f us) (hX : ∀ x, X x → u.ownBlock ≠ some x) (hg : w.grownBy w' u.ownBlock) (hu : u'.ownBlock = u.ownBlock ∨ u'.ownBlock = some w.heap.size) : SameX w' X B u' f us :=
  ⟨h.1, fun j h1 h2 => ((h.2 j h1 h2).chg ((Chg.refl (fun x => u.ownBlock = some x) w).grown hg (fun r e => Or.inl e)) (fun x hx e => hx.elim (fun hx => hX x hx e) (fun hx => hx.2.2 e))).up (fun x hx => hx.elim Or.inl (fun hx => Or.inr ⟨hx.1, Nat.lt_of_lt_of_le hx.2.1 hg.size, fun e => by
    rcases hu with hu | hu
    · rw [hu] at e; exact hx.2.2 e
    · rw [hu] at e; have := Option.some.inj e; omega⟩))⟩
theorem SameX.snoc {w : World} {X : Nat → Prop} {B : Nat} {u : Value} {f : Tms} {us : List Tc} (h : SameX w X B u f us) {i : Nat} (hi : i < f.toL.length) (hl : us.length = i) {p : Tc} (hv : TL w (PX w X B u) p (f.toL[i])) : SameX w X B u f (us ++ [p]) := by
  refine ⟨by rw [List.length_append, hl]; exact hi, fun j h1 h2 => ?_⟩
  by_cases e : j < us.length
  · rw [List.getElem_append_left e]; exact h.2 j h1 e
  · have : j = i := by rw [List.length_append, List.length_singleton] at h2; omega
    subst this
    subst hl
    simp only [List.getElem_append_right (Nat.le_refl _), Nat.sub_self, List.getElem_cons_zero]
    exact hv
/-- what the loop keeps -/
def XInv (w3 wr : World) (X : Nat → Prop) (S bo : Nat) (vb : Value) (k i : Int) (F : Tms) (j : Nat) : Prop :=
  ∃ (u : Value) (us : List Tc), Hid (wr.heap[S]? = some (.cells #[vb, .int .i64 k, .int .i64 i, u] 27)) ∧ Hid (wr.ownsRow bo 27 4 u us.length (cellsT us)) ∧ Hid (us.length = j) ∧ Hid (SameX wr X bo u F us) ∧ Hid (bo ≤ wr.heap.size) ∧ Hid (Chg (fun x => x = S) w3 wr)
theorem own_chg2 {w w' : World} {base : Nat} {e : TypeId} {size n : Nat} {v : Value} {xs : List Value} (h : w.ownsRow base e size v n xs) {S : Nat → Prop} (g : Chg S w w') (hn : ∀ r, v.ownBlock = some r → ¬ S r) : w'.ownsRow base e size v n xs := by
  obtain ⟨h1, h2⟩ := h
  refine ⟨h1, ?_⟩
  rcases h2 with h2 | ⟨gg, cap, cur, e1, h3, h4, h5⟩
  · exact Or.inl h2
  · subst e1
    exact Or.inr ⟨gg, cap, cur, rfl, h3, g.blk (hn gg rfl) h4, h5⟩
theorem info27' : (Tryd.prog.info? 27).map (fun i => (i.zero, i.size, i.bytes)) = some (some (.agg #[.slice none 0 0, .int .i64 0, .int .i64 0, .slice none 0 0]), 4, 64) := by kernel_rfl
def RrpC (p : List Int) : Prop := ∀ (t y r : Tm) (v bv u : Value) (X : Nat → Prop) (w : World), TmOk t → replG t y p = some r → (∀ x, X x → x < w.heap.size) → TV w X v t → TV w X bv y → Ip w u p →
  Calls Tryd.prog 25 #[v, bv, u] w fun e w' => (∃ v', e = .returned v' ∧ TV w' (New X w w') v' r) ∧ Chg (fun _ => False) w w'

set_option maxRecDepth 100000 in
set_option maxHeartbeats 32000000 in
theorem refrep_any (p : List Int) : RrpC p := by
  obtain ⟨i0, hi0, hz0, hz1, hz2⟩ := info_parts info27'
  induction p with
  | nil =>
    intro t y r v bv u X w ok hr hX hv hb hu
    cases hr
    obtain ⟨b, k, i, f⟩ := t
    obtain ⟨yb, yk, yi, yf⟩ := y
    obtain ⟨ba, bc, a, cap, rfl, h1, h2⟩ := hv
    obtain ⟨ya, yc, za, zc, rfl, j1, j2⟩ := hb
    have OK := hide ok
    have HU := hide hu
    have HX := hide hX
    obtain ⟨ua, uc, rfl, _⟩ := id hu
    dsimp only [Tm.bs, Tm.kd, Tm.ix, Tm.ag] at h1 h2 j1 j2 ⊢
    have G1 := al w (.cells #[.slice ba b.len bc, .int .i64 k, .int .i64 i, .slice a f.len cap] 27)
    have b0 := blk_new w (.cells #[.slice ba b.len bc, .int .i64 k, .int .i64 i, .slice a f.len cap] 27)
    have G2 := al (w.alloc (.cells #[.slice ba b.len bc, .int .i64 k, .int .i64 i, .slice a f.len cap] 27)) (.cells #[.slice ya yb.len yc, .int .i64 yk, .int .i64 yi, .slice za yf.len zc] 27)
    have b1 := blk_new (w.alloc (.cells #[.slice ba b.len bc, .int .i64 k, .int .i64 i, .slice a f.len cap] 27)) (.cells #[.slice ya yb.len yc, .int .i64 yk, .int .i64 yi, .slice za yf.len zc] 27)
    have G3 := al ((w.alloc (.cells #[.slice ba b.len bc, .int .i64 k, .int .i64 i, .slice a f.len cap] 27)).alloc (.cells #[.slice ya yb.len yc, .int .i64 yk, .int .i64 yi, .slice za yf.len zc] 27)) (.cells #[.slice none 0 0, .int .i64 0, .int .i64 0, .slice none 0 0] 27)
    have b2 := blk_new ((w.alloc (.cells #[.slice ba b.len bc, .int .i64 k, .int .i64 i, .slice a f.len cap] 27)).alloc (.cells #[.slice ya yb.len yc, .int .i64 yk, .int .i64 yi, .slice za yf.len zc] 27)) (.cells #[.slice none 0 0, .int .i64 0, .int .i64 0, .slice none 0 0] 27)
    have b0' := G3.blk (fun h => h) (G2.blk (fun h => h) b0)
    have b1' := G3.blk (fun h => h) b1
    rw [al_sz] at b1'
    rw [al_sz, al_sz] at b2
    have GG := hide ((G1.trans G2).trans G3)
    have BP := hide b0'
    have BQ := hide b1'
    have BR := hide b2
    have sz3 : (((w.alloc (.cells #[.slice ba b.len bc, .int .i64 k, .int .i64 i, .slice a f.len cap] 27)).alloc (.cells #[.slice ya yb.len yc, .int .i64 yk, .int .i64 yi, .slice za yf.len zc] 27)).alloc (.cells #[.slice none 0 0, .int .i64 0, .int .i64 0, .slice none 0 0] 27)).heap.size = w.heap.size + 3 := by rw [al_sz, al_sz, al_sz]
    have SZ := hide sz3
    have TB0 := hide h1
    have TR0 := hide h2
    have YB0 := hide j1
    have YR0 := hide j2
    clear G1 G2 G3 b0 b1 b2 b0' b1' sz3 h1 h2 j1 j2 hu ok hX
    go_enter Tryd.func25, Tryd.ntmps25
    go_upto_region 1 with fail
    generalize (((w.alloc (.cells #[.slice ba b.len bc, .int .i64 k, .int .i64 i, .slice a f.len cap] 27)).alloc (.cells #[.slice ya yb.len yc, .int .i64 yk, .int .i64 yi, .slice za yf.len zc] 27)).alloc (.cells #[.slice none 0 0, .int .i64 0, .int .i64 0, .slice none 0 0] 27)) = w1 at *
    obtain ⟨P, hP⟩ : ∃ P, w.heap.size = P := ⟨_, rfl⟩
    obtain ⟨Q, hQ⟩ : ∃ Q, P + 1 = Q := ⟨_, rfl⟩
    obtain ⟨R, hR⟩ : ∃ R, Q + 1 = R := ⟨_, rfl⟩
    have hZ := SZ.out
    rw [hP] at BP BQ BR hZ ⊢
    rw [hQ] at BQ BR ⊢
    rw [hR] at BR ⊢
    have HO : Hid (w1.heap.size = R + 1 ∧ P < Q ∧ Q < R ∧ w.heap.size = P) := hide (by refine ⟨by omega, by omega, by omega, hP⟩)
    clear hP hQ hR SZ hZ
    have x0 : w1.cell? ⟨P, 0, none⟩ = some (.slice ba b.len bc) := blk_cell BP.out 0
    have x1 : w1.cell? ⟨Q, 1, none⟩ = some (.int .i64 yk) := blk_cell BQ.out 1
    have x2 : w1.cell? ⟨Q, 2, none⟩ = some (.int .i64 yi) := blk_cell BQ.out 2
    have x3 : w1.cell? ⟨Q, 3, none⟩ = some (.slice za yf.len zc) := blk_cell BQ.out 3
    have GA := al w1 (.cells #[.slice ba b.len bc, .int .i64 yk, .int .i64 yi, .slice za yf.len zc] 27)
    have BS := hide (blk_new w1 (.cells #[.slice ba b.len bc, .int .i64 yk, .int .i64 yi, .slice za yf.len zc] 27))
    have BP := hide (GA.blk (fun h => h) BP.out)
    have BQ := hide (GA.blk (fun h => h) BQ.out)
    have BR := hide (GA.blk (fun h => h) BR.out)
    have GG := hide (GG.out.trans GA)
    clear GA
    clear HU
    go_upto_region 3 with fail
    obtain ⟨S, hS⟩ : ∃ S, w1.heap.size = S := ⟨_, rfl⟩
    rw [hS] at BS ⊢
    have HO : Hid (S = R + 1 ∧ P < Q ∧ Q < R ∧ w.heap.size = P ∧ S < (w1.alloc (.cells #[.slice ba b.len bc, .int .i64 yk, .int .i64 yi, .slice za yf.len zc] 27)).heap.size) := hide ⟨by have := HO.out; omega, HO.out.2.1, HO.out.2.2.1, HO.out.2.2.2, blk_lt BS.out⟩
    clear hS x0 x1 x2 x3
    generalize w1.alloc (.cells #[.slice ba b.len bc, .int .i64 yk, .int .i64 yi, .slice za yf.len zc] 27) = w2 at *
    have x0 : w2.cell? ⟨S, 0, none⟩ = some (.slice ba b.len bc) := blk_cell BS.out 0
    have x1 : w2.cell? ⟨S, 1, none⟩ = some (.int .i64 yk) := blk_cell BS.out 1
    have x2 : w2.cell? ⟨S, 2, none⟩ = some (.int .i64 yi) := blk_cell BS.out 2
    have x3 : w2.cell? ⟨S, 3, none⟩ = some (.slice za yf.len zc) := blk_cell BS.out 3
    have bb0 := blk_cell BR.out 0
    have fb0 := blk_free BR.out 0
    have bb1 := blk_cell BR.out 1
    have fb1 := blk_free BR.out 1
    have bb2 := blk_cell BR.out 2
    have fb2 := blk_free BR.out 2
    have bb3 := blk_cell BR.out 3
    have fb3 := blk_free BR.out 3
    simp only [List.getElem?_toArray, List.getElem?_cons_zero, List.getElem?_cons_succ] at bb0 bb1 bb2 bb3
    have NS : Hid (((((w2.setCell ⟨R, 0, none⟩ (.slice ba b.len bc)).setCell ⟨R, 1, none⟩ (.int .i64 yk)).setCell ⟨R, 2, none⟩ (.int .i64 yi)).setCell ⟨R, 3, none⟩ (.slice za yf.len zc)).heap[R]? = some (.cells #[.slice ba b.len bc, .int .i64 yk, .int .i64 yi, .slice za yf.len zc] 27) ∧ Chg (fun x => x = R) w2 ((((w2.setCell ⟨R, 0, none⟩ (.slice ba b.len bc)).setCell ⟨R, 1, none⟩ (.int .i64 yk)).setCell ⟨R, 2, none⟩ (.int .i64 yi)).setCell ⟨R, 3, none⟩ (.slice za yf.len zc))) := hide ⟨(blk_set (blk_set (blk_set (blk_set BR.out 0 (.slice ba b.len bc)) 1 (.int .i64 yk)) 2 (.int .i64 yi)) 3 (.slice za yf.len zc)), ((((Chg.set w2 R 0 (.slice ba b.len bc)).trans (Chg.set (w2.setCell ⟨R, 0, none⟩ (.slice ba b.len bc)) R 1 (.int .i64 yk))).trans (Chg.set ((w2.setCell ⟨R, 0, none⟩ (.slice ba b.len bc)).setCell ⟨R, 1, none⟩ (.int .i64 yk)) R 2 (.int .i64 yi))).trans (Chg.set (((w2.setCell ⟨R, 0, none⟩ (.slice ba b.len bc)).setCell ⟨R, 1, none⟩ (.int .i64 yk)).setCell ⟨R, 2, none⟩ (.int .i64 yi)) R 3 (.slice za yf.len zc)))⟩
    have GF : Hid (Chg (fun _ => False) w ((((w2.setCell ⟨R, 0, none⟩ (.slice ba b.len bc)).setCell ⟨R, 1, none⟩ (.int .i64 yk)).setCell ⟨R, 2, none⟩ (.int .i64 yi)).setCell ⟨R, 3, none⟩ (.slice za yf.len zc))) := hide (((GG.out.none (S := fun x => x = R)).trans NS.out.2).mono (fun x hx e => by have := HO.out; omega))
    go_wp2_with fail
    generalize ((((w2.setCell ⟨R, 0, none⟩ (.slice ba b.len bc)).setCell ⟨R, 1, none⟩ (.int .i64 yk)).setCell ⟨R, 2, none⟩ (.int .i64 yi)).setCell ⟨R, 3, none⟩ (.slice za yf.len zc)) = wF at *
    have r0 := blk_cell NS.out.1 0
    have r1 := blk_cell NS.out.1 1
    have r2 := blk_cell NS.out.1 2
    have r3 := blk_cell NS.out.1 3
    refine bodyPost_ret (v := .agg #[.slice ba b.len bc, .int .i64 yk, .int .i64 yi, .slice za yf.len zc]) (by simp [results, Tryd.results25, go_sem, r0, r1, r2, r3]) rfl ?_
    exact ⟨⟨_, rfl, ⟨ba, bc, za, zc, rfl, (TB0.out.chg GF.out (fun _ _ h => h)).up (fun x hx => Or.inl hx), (YR0.out.chg GF.out (fun _ _ h => h)).up (fun x hx => Or.inl hx)⟩⟩, GF.out⟩
  | cons n p ih =>
    intro t y r v bv u X w ok hr hX hv hb hu
    have IH := hide ih
    have HR := hide hr
    clear ih hr
    obtain ⟨b, k, i, f⟩ := t
    obtain ⟨yb, yk, yi, yf⟩ := y
    obtain ⟨ba, bc, a, cap, rfl, h1, h2⟩ := hv
    obtain ⟨ya, yc, za, zc, rfl, j1, j2⟩ := hb
    have OK := hide ok
    have HU := hide hu
    have HX := hide hX
    obtain ⟨ua, uc, rfl, _⟩ := id hu
    dsimp only [Tm.bs, Tm.kd, Tm.ix, Tm.ag] at h1 h2 j1 j2 ⊢
    have G1 := al w (.cells #[.slice ba b.len bc, .int .i64 k, .int .i64 i, .slice a f.len cap] 27)
    have b0 := blk_new w (.cells #[.slice ba b.len bc, .int .i64 k, .int .i64 i, .slice a f.len cap] 27)
    have G2 := al (w.alloc (.cells #[.slice ba b.len bc, .int .i64 k, .int .i64 i, .slice a f.len cap] 27)) (.cells #[.slice ya yb.len yc, .int .i64 yk, .int .i64 yi, .slice za yf.len zc] 27)
    have b1 := blk_new (w.alloc (.cells #[.slice ba b.len bc, .int .i64 k, .int .i64 i, .slice a f.len cap] 27)) (.cells #[.slice ya yb.len yc, .int .i64 yk, .int .i64 yi, .slice za yf.len zc] 27)
    have G3 := al ((w.alloc (.cells #[.slice ba b.len bc, .int .i64 k, .int .i64 i, .slice a f.len cap] 27)).alloc (.cells #[.slice ya yb.len yc, .int .i64 yk, .int .i64 yi, .slice za yf.len zc] 27)) (.cells #[.slice none 0 0, .int .i64 0, .int .i64 0, .slice none 0 0] 27)
    have b2 := blk_new ((w.alloc (.cells #[.slice ba b.len bc, .int .i64 k, .int .i64 i, .slice a f.len cap] 27)).alloc (.cells #[.slice ya yb.len yc, .int .i64 yk, .int .i64 yi, .slice za yf.len zc] 27)) (.cells #[.slice none 0 0, .int .i64 0, .int .i64 0, .slice none 0 0] 27)
    have b0' := G3.blk (fun h => h) (G2.blk (fun h => h) b0)
    have b1' := G3.blk (fun h => h) b1
    rw [al_sz] at b1'
    rw [al_sz, al_sz] at b2
    have GG := hide ((G1.trans G2).trans G3)
    have BP := hide b0'
    have BQ := hide b1'
    have BR := hide b2
    have sz3 : (((w.alloc (.cells #[.slice ba b.len bc, .int .i64 k, .int .i64 i, .slice a f.len cap] 27)).alloc (.cells #[.slice ya yb.len yc, .int .i64 yk, .int .i64 yi, .slice za yf.len zc] 27)).alloc (.cells #[.slice none 0 0, .int .i64 0, .int .i64 0, .slice none 0 0] 27)).heap.size = w.heap.size + 3 := by rw [al_sz, al_sz, al_sz]
    have SZ := hide sz3
    have TB0 := hide h1
    have TR0 := hide h2
    have YB0 := hide j1
    have YR0 := hide j2
    clear G1 G2 G3 b0 b1 b2 b0' b1' sz3 h1 h2 j1 j2 hu ok hX
    go_enter Tryd.func25, Tryd.ntmps25
    go_upto_region 1 with fail
    generalize (((w.alloc (.cells #[.slice ba b.len bc, .int .i64 k, .int .i64 i, .slice a f.len cap] 27)).alloc (.cells #[.slice ya yb.len yc, .int .i64 yk, .int .i64 yi, .slice za yf.len zc] 27)).alloc (.cells #[.slice none 0 0, .int .i64 0, .int .i64 0, .slice none 0 0] 27)) = w1 at *
    obtain ⟨P, hP⟩ : ∃ P, w.heap.size = P := ⟨_, rfl⟩
    obtain ⟨Q, hQ⟩ : ∃ Q, P + 1 = Q := ⟨_, rfl⟩
    obtain ⟨R, hR⟩ : ∃ R, Q + 1 = R := ⟨_, rfl⟩
    have hZ := SZ.out
    rw [hP] at BP BQ BR hZ ⊢
    rw [hQ] at BQ BR ⊢
    rw [hR] at BR ⊢
    have HO : Hid (w1.heap.size = R + 1 ∧ P < Q ∧ Q < R ∧ w.heap.size = P) := hide (by refine ⟨by omega, by omega, by omega, hP⟩)
    clear hP hQ hR SZ hZ
    have x0 : w1.cell? ⟨P, 0, none⟩ = some (.slice ba b.len bc) := blk_cell BP.out 0
    have x1 : w1.cell? ⟨Q, 1, none⟩ = some (.int .i64 yk) := blk_cell BQ.out 1
    have x2 : w1.cell? ⟨Q, 2, none⟩ = some (.int .i64 yi) := blk_cell BQ.out 2
    have x3 : w1.cell? ⟨Q, 3, none⟩ = some (.slice za yf.len zc) := blk_cell BQ.out 3
    have GA := al w1 (.cells #[.slice ba b.len bc, .int .i64 yk, .int .i64 yi, .slice za yf.len zc] 27)
    have BS := hide (blk_new w1 (.cells #[.slice ba b.len bc, .int .i64 yk, .int .i64 yi, .slice za yf.len zc] 27))
    have BP := hide (GA.blk (fun h => h) BP.out)
    have BQ := hide (GA.blk (fun h => h) BQ.out)
    have BR := hide (GA.blk (fun h => h) BR.out)
    have GG := hide (GG.out.trans GA)
    clear GA
    obtain ⟨g0, off0, pc, pa, e0, pl1, pl2, pd, psl, pip⟩ := HU.out.tail
    injection e0 with e0 e1 e2
    subst e0 e2
    simp only [List.length_cons] at e1
    clear e1
    have PSL := hide psl
    have PIP := hide pip
    have PD := hide pd
    clear pip pd psl HU
    have hpn : (List.length (n :: p) : Nat) = p.length + 1 := rfl
    rw [hpn] at *
    have hp1 : (0 : Int) < (p.length : Int) + 1 := by omega
    obtain ⟨m, z, hm, rfl, HZ, rfl⟩ : ∃ (m : Nat) (z : Tm) (hm : m < f.toL.length), n = (m : Int) ∧ Hid (replG f.toL[m] (yb, yk, yi, yf) p = some z) ∧ r = (b, k, i, f.setT m z) := by
      have h := HR.out
      simp only [replG] at h
      cases hs : Tm.sub (b, k, i, f) n with
      | none => rw [hs] at h; cases h
      | some x =>
        rw [hs] at h
        obtain ⟨z, hz, hz2⟩ := Option.map_eq_some_iff.1 h
        obtain ⟨m, hm, e1, rfl⟩ := sub_kid hs
        exact ⟨m, z, hm, e1, hide hz, by rw [← hz2, e1]; rfl⟩
    have HM := hide hm
    clear HR
    obtain ⟨F, hF⟩ : ∃ F, f.setT m z = F := ⟨_, rfl⟩
    have HF := hide hF
    clear hF
    have HFL : Hid (F.toL = f.toL.set m z ∧ F.len = f.len) := hide ⟨by rw [← HF.out]; exact Tms.setT_toL _ _ _, by rw [← HF.out]; exact Tms.setT_len _ _ _⟩
    go_upto_region 4 with fail
    obtain ⟨S, hS⟩ : ∃ S, w1.heap.size = S := ⟨_, rfl⟩
    rw [hS] at BS ⊢
    have HO : Hid (S = R + 1 ∧ P < Q ∧ Q < R ∧ w.heap.size = P ∧ S < (w1.alloc (.cells #[.slice ba b.len bc, .int .i64 yk, .int .i64 yi, .slice za yf.len zc] 27)).heap.size) := hide ⟨by have := HO.out; omega, HO.out.2.1, HO.out.2.2.1, HO.out.2.2.2, blk_lt BS.out⟩
    clear hS x0 x1 x2 x3
    generalize w1.alloc (.cells #[.slice ba b.len bc, .int .i64 yk, .int .i64 yi, .slice za yf.len zc] 27) = w2 at *
    have x1 : w2.cell? ⟨P, 1, none⟩ = some (.int .i64 k) := blk_cell BP.out 1
    have x2 : w2.cell? ⟨P, 2, none⟩ = some (.int .i64 i) := blk_cell BP.out 2
    have y1 : w2.cell? ⟨S, 1, none⟩ = some (.int .i64 yk) := blk_cell BS.out 1
    have y2 : w2.cell? ⟨S, 2, none⟩ = some (.int .i64 yi) := blk_cell BS.out 2
    have y3 : w2.cell? ⟨S, 3, none⟩ = some (.slice za yf.len zc) := blk_cell BS.out 3
    have yf1 := blk_free BS.out 1
    have yf2 := blk_free BS.out 2
    have yf3 := blk_free BS.out 3
    have BS3 : Hid ((((w2.setCell ⟨S, 1, none⟩ (.int .i64 k)).setCell ⟨S, 2, none⟩ (.int .i64 i)).setCell ⟨S, 3, none⟩ (.slice none 0 0)).heap[S]? = some (.cells #[.slice ba b.len bc, .int .i64 k, .int .i64 i, .slice none 0 0] 27)) := hide (blk_set (blk_set (blk_set BS.out 1 (.int .i64 k)) 2 (.int .i64 i)) 3 (.slice none 0 0))
    have GS3 : Hid (Chg (fun x => x = S) w2 (((w2.setCell ⟨S, 1, none⟩ (.int .i64 k)).setCell ⟨S, 2, none⟩ (.int .i64 i)).setCell ⟨S, 3, none⟩ (.slice none 0 0))) := hide (((Chg.set w2 S 1 (.int .i64 k)).trans (Chg.set _ S 2 (.int .i64 i))).trans (Chg.set _ S 3 (.slice none 0 0)))
    go_upto_block 0 with fail
    have BP3 := hide (GS3.out.blk (by have := HO.out; omega) BP.out)
    have BQ3 := hide (GS3.out.blk (by have := HO.out; omega) BQ.out)
    have BR3 := hide (GS3.out.blk (by have := HO.out; omega) BR.out)
    have HO3 : Hid (S < (((w2.setCell ⟨S, 1, none⟩ (.int .i64 k)).setCell ⟨S, 2, none⟩ (.int .i64 i)).setCell ⟨S, 3, none⟩ (.slice none 0 0)).heap.size) := hide (by have := HO.out; have := GS3.out.size; omega)
    have G3 : Hid (Chg (fun _ => False) w (((w2.setCell ⟨S, 1, none⟩ (.int .i64 k)).setCell ⟨S, 2, none⟩ (.int .i64 i)).setCell ⟨S, 3, none⟩ (.slice none 0 0))) := hide (((GG.out.none (S := fun x => x = S)).trans GS3.out).mono (fun x hx e => by have := HO.out; omega))
    clear x1 x2 y1 y2 y3 yf1 yf2 yf3 BS GS3 BP BQ BR
    generalize (((w2.setCell ⟨S, 1, none⟩ (.int .i64 k)).setCell ⟨S, 2, none⟩ (.int .i64 i)).setCell ⟨S, 3, none⟩ (.slice none 0 0)) = w3 at *
    obtain ⟨bo, hbo⟩ : ∃ bo, w3.heap.size = bo := ⟨_, rfl⟩
    have HS := hide hbo
    have HB : Hid (S < bo ∧ (∀ x, X x → x < P)) := hide ⟨by have := HO3.out; omega, fun x hx => by have := HX.out x hx; have := HO.out; omega⟩
    clear hbo
    go_wp2_with fail
    go_loopw [8] (fun jv wr => ∃ (j : Nat), j ≤ f.len ∧ jv = .int .i64 j ∧ Hid (XInv w3 wr X S bo (.slice ba b.len bc) k i F j)) (fun jv _ => f.len - (intOf jv).toNat)
    case atStart => exact ⟨0, Nat.zero_le _, rfl, hide ⟨_, [], BS3, hide ⟨rfl, Or.inl ⟨rfl, rfl⟩⟩, hide rfl, hide (SameX.nil _ _ _ _ _), hide (Nat.le_of_eq HS.out.symm), hide (Chg.refl _ _)⟩⟩
    case round =>
      obtain ⟨j, hj, rfl, hIN⟩ := hrel
      obtain ⟨u, us, hT, hA, hL, hM, hZ, hC⟩ := hIN.out
      clear hIN BS3
      have p3 : wr.cell? ⟨P, 3, none⟩ = some (.slice a f.len cap) := blk_cell (hC.out.blk (by have := HO.out; omega) BP3.out) 3
      by_cases hlt : j < f.len
      · have hit : j < f.toL.length := by rw [Tms.toL_len]; exact hlt
        obtain ⟨la, lc, hlv, hl⟩ := TR0.out
        rcases hl with h0 | ⟨g, off, rfl, hg, hl⟩
        · subst h0; exact absurd hlt (Nat.not_lt_zero _)
        injection hlv with e1 e2 e3
        subst e1 e3
        obtain ⟨⟨vkb, c0, tb⟩, c1, c2, vi, c3, ti⟩ := tlies_get hl j hit
        obtain ⟨kba, kbc, rfl, _⟩ := id tb
        obtain ⟨ka, kc, rfl, _⟩ := id ti
        have WC : Chg (fun x => x = S) w wr := G3.out.none.trans hC.out
        have nS : ∀ x, X x → ¬ x = S := fun x hx e => by have := HB.out.2 x hx; have := HO.out; omega
        have y0 := WC.cell (nS g hg) c0
        have y1 := WC.cell (nS g hg) c1
        have y2 := WC.cell (nS g hg) c2
        have y3 := WC.cell (nS g hg) c3
        have ti5 := hide (ti.chg WC nS)
        have tb5 := hide (tb.chg WC nS)
        have hg0 : g0 < w.heap.size := World.block_lt_of_cell? w _ PD.out
        have pd : wr.cell? ⟨g0, off0, none⟩ = some (.int .i64 (m : Int)) := hC.out.cell (by have := HO.out; omega) (G3.out.cell (fun h => h) PD.out)
        have RL := hide (fun r (e : u.ownBlock = some r) => World.ownsRow.lt hA.out r e)
        have HUL := hide hL.out
        have GWr : Hid (Chg (fun x => x = S) w wr) := hide WC
        have i1 : (0 : Int) ≤ (j : Int) := by omega
        have i2 : (j : Int) < (f.len : Int) := by omega
        have i3 : f.len ≤ 1000000 := OK.out.2.2.1
        have hus : us.length ≤ 1000001 := by have := hL.out; omega
        have hoN := hide (fun (x : Nat) (e : u.ownBlock = some x) => (by have := RL.out x e; have := HB.out.1; omega : bo ≤ x ∧ x ≠ S))
        have XU := hide (fun x (hx : X x) (e : u.ownBlock = some x) => (by have := (hoN.out x e).1; have := HB.out.2 x hx; have := HB.out.1; have := HO.out; omega : False))
        by_cases hjm : j = m
        · subst hjm
          have KJ := hide (fun w' (gg : Chg (fun x => x = S) w w') (gs : w.heap.size ≤ w'.heap.size) => IH.out f.toL[j] (yb, yk, yi, yf) z (.agg #[.slice kba (f.toL[j]).bs.len kbc, .int .i64 (f.toL[j]).kd, .int .i64 (f.toL[j]).ix, .slice ka (f.toL[j]).ag.len kc]) (.agg #[.slice ya yb.len yc, .int .i64 yk, .int .i64 yi, .slice za yf.len zc]) (.slice pa p.length (uc - 1)) X w' (sub_ok (t := (b, k, i, f)) OK.out hit) HZ.out (fun x hx => Nat.lt_of_lt_of_le (HX.out x hx) gs) ⟨kba, kbc, ka, kc, rfl, tb.chg gg nS, ti.chg gg nS⟩ ⟨ya, yc, za, zc, rfl, YB0.out.chg gg nS, YR0.out.chg gg nS⟩)
          have SN := hide (fun (w' : World) (vb' v' : Value) (h : SameX w' X bo u F us) (hvb' : Ts w' (PX w' X bo u) vb' z.bs) (hv' : Tr w' (PX w' X bo u) v' z.ag) => h.snoc (i := j) (by rw [HFL.out.1, List.length_set]; exact hit) hL.out (p := (vb', z.kd, z.ix, v')) (by simp only [HFL.out.1, List.getElem_set_self]; exact ⟨hvb', rfl, rfl, hv'⟩))
          have HPI : Hid (∀ w' : World, Chg (fun x => x = S) w w' → Ip w' (.slice pa p.length (uc - 1)) p) := hide (fun w' gg => by
            obtain ⟨pa', pc', e1, e2, e3, e4⟩ := PIP.out
            refine ⟨pa', pc', e1, e2, e3, ?_⟩
            rcases e4 with e4 | ⟨g9, off9, e5, e6, e7⟩
            · exact Or.inl e4
            · exact Or.inr ⟨g9, off9, e5, Nat.lt_of_lt_of_le e6 gg.size, fun q hq => gg.cell (by have := HO.out; omega) (e7 q hq)⟩)
          clear hl c0 c1 c2 c3 tb ti WC nS
          dsimp only [Tm.bs, Tm.kd, Tm.ix, Tm.ag] at y0 y1 y2 y3 KJ
          generalize (f.toL[j]).1 = k0 at *
          generalize (f.toL[j]).2.1 = k1 at *
          generalize (f.toL[j]).2.2.1 = k2 at *
          generalize (f.toL[j]).2.2.2 = k3 at *
          obtain ⟨z0, z1, z2, z3⟩ := z
          dsimp only [Tm.bs, Tm.kd, Tm.ix, Tm.ag] at SN
          have GE := al wr (.cells #[.slice kba k0.len kbc, .int .i64 k1, .int .i64 k2, .slice ka k3.len kc] 27)
          have BE := hide (blk_new wr (.cells #[.slice kba k0.len kbc, .int .i64 k1, .int .i64 k2, .slice ka k3.len kc] 27))
          have HGE := hide GE
          have pd := GE.cell (fun h => h) pd
          have hT := hide (GE.blk (fun h => h) hT.out)
          have hA := hide (own_chg hA.out GE (fun _ _ h => h))
          have hC := hide (hC.out.trans GE.none)
          have GWE : Hid (Chg (fun x => x = S) w (wr.alloc (.cells #[.slice kba k0.len kbc, .int .i64 k1, .int .i64 k2, .slice ka k3.len kc] 27))) := hide (GWr.out.trans GE.none)
          have BQE : Hid ((wr.alloc (.cells #[.slice kba k0.len kbc, .int .i64 k1, .int .i64 k2, .slice ka k3.len kc] 27)).heap[Q]? = some (.cells #[.slice ya yb.len yc, .int .i64 yk, .int .i64 yi, .slice za yf.len zc] 27)) := hide (hC.out.blk (by have := HO.out; omega) BQ3.out)
          go_upto_region 11 with fail
          obtain ⟨E, hE⟩ : ∃ E, wr.heap.size = E := ⟨_, rfl⟩
          rw [hE] at BE ⊢
          have HE : Hid (bo ≤ E ∧ E < (wr.alloc (.cells #[.slice kba k0.len kbc, .int .i64 k1, .int .i64 k2, .slice ka k3.len kc] 27)).heap.size ∧ S < E ∧ Q < E ∧ ∀ r, u.ownBlock = some r → r < E) := hide (by
            have h1 := blk_lt BE.out
            have h2 := hZ.out
            have h3 := HB.out
            have h4 := HO.out
            exact ⟨by omega, h1, by omega, by omega, fun r e => by have := (RL.out r e).2; omega⟩)
          have HWE := hide hE
          clear hE GE y0 y1 y2 y3 pd p3 tb5 ti5
          generalize wr.alloc (.cells #[.slice kba k0.len kbc, .int .i64 k1, .int .i64 k2, .slice ka k3.len kc] 27) = wE at *
          have psl := PSL.out
          have e0 : wE.cell? ⟨E, 0, none⟩ = some (.slice kba k0.len kbc) := blk_cell BE.out 0
          have e1 : wE.cell? ⟨E, 1, none⟩ = some (.int .i64 k1) := blk_cell BE.out 1
          have e2 : wE.cell? ⟨E, 2, none⟩ = some (.int .i64 k2) := blk_cell BE.out 2
          have e3 : wE.cell? ⟨E, 3, none⟩ = some (.slice ka k3.len kc) := blk_cell BE.out 3
          have q0 : wE.cell? ⟨Q, 0, none⟩ = some (.slice ya yb.len yc) := blk_cell BQE.out 0
          have q1 : wE.cell? ⟨Q, 1, none⟩ = some (.int .i64 yk) := blk_cell BQE.out 1
          have q2 : wE.cell? ⟨Q, 2, none⟩ = some (.int .i64 yi) := blk_cell BQE.out 2
          have q3 : wE.cell? ⟨Q, 3, none⟩ = some (.slice za yf.len zc) := blk_cell BQE.out 3
          go_cut [9] (fun s9 wx => ∃ (xa : Option Addr) (xc : Nat) (va : Option Addr) (vc : Nat), s9 = .pointer (some ⟨E, 0, none⟩) ∧ Hid (wx.heap[E]? = some (.cells #[.slice xa z0.len xc, .int .i64 z1, .int .i64 z2, .slice va z3.len vc] 27)) ∧ Hid (Ts wx (fun x => X x ∨ (wE.heap.size ≤ x ∧ x < wx.heap.size)) (.slice xa z0.len xc) z0) ∧ Hid (Tr wx (fun x => X x ∨ (wE.heap.size ≤ x ∧ x < wx.heap.size)) (.slice va z3.len vc) z3) ∧ Hid (Chg (fun x => x = E) wE wx))
          case first =>
            refine wp_region_held_drew (S := (fun w' => w'.cell? ⟨Q, 0, none⟩ = some (.slice ya yb.len yc) ∧ w'.cell? ⟨Q, 1, none⟩ = some (.int .i64 yk) ∧ w'.cell? ⟨Q, 2, none⟩ = some (.int .i64 yi) ∧ w'.cell? ⟨Q, 3, none⟩ = some (.slice za yf.len zc))) (by kernel_rfl) (by go_keep) (fun hHeld => ?_)
            first
              | (refine wpAnyH_take (i := 1) (v := undef) rfl (by kernel_rfl) (by kernel_rfl) (by kernel_rfl) (fun _ _ _ h => h) (Or.inr ⟨by rfl, rfl⟩) (by assumption) ?_)
              | (refine wpAnyH_take (i := 1) (v := ?_) rfl (by kernel_rfl) (by kernel_rfl) (by kernel_rfl) (fun _ _ _ h => h) (Or.inl ⟨by rfl, ?_⟩) (by assumption) ?_
                 rotate_left
                 (intro w hSw
                  (try dsimp only at hSw)
                  (go_simp <;> with_reducible rfl)))
            try simp only [Act.put, List.getElem_toArray, List.getElem_cons_zero, List.getElem_cons_succ, List.setIfInBounds_toArray, List.set_cons_zero, List.set_cons_succ]
            first
              | (refine wpAnyH_take (i := 2) (v := undef) rfl (by kernel_rfl) (by kernel_rfl) (by kernel_rfl) (fun _ _ _ h => h) (Or.inr ⟨by rfl, rfl⟩) (by assumption) ?_)
              | (refine wpAnyH_take (i := 2) (v := ?_) rfl (by kernel_rfl) (by kernel_rfl) (by kernel_rfl) (fun _ _ _ h => h) (Or.inl ⟨by rfl, ?_⟩) (by assumption) ?_
                 rotate_left
                 (intro w hSw
                  (try dsimp only at hSw)
                  (go_simp <;> with_reducible rfl)))
            try simp only [Act.put, List.getElem_toArray, List.getElem_cons_zero, List.getElem_cons_succ, List.setIfInBounds_toArray, List.set_cons_zero, List.set_cons_succ]
            first
              | (refine wpAnyH_take (i := 3) (v := undef) rfl (by kernel_rfl) (by kernel_rfl) (by kernel_rfl) (fun _ _ _ h => h) (Or.inr ⟨by rfl, rfl⟩) (by assumption) ?_)
              | (refine wpAnyH_take (i := 3) (v := ?_) rfl (by kernel_rfl) (by kernel_rfl) (by kernel_rfl) (fun _ _ _ h => h) (Or.inl ⟨by rfl, ?_⟩) (by assumption) ?_
                 rotate_left
                 (intro w hSw
                  (try dsimp only at hSw)
                  (go_simp <;> with_reducible rfl)))
            try simp only [Act.put, List.getElem_toArray, List.getElem_cons_zero, List.getElem_cons_succ, List.setIfInBounds_toArray, List.set_cons_zero, List.set_cons_succ]
            refine wpAnyH_ready (rs := [0]) (by kernel_rfl) (by simp) ?_
            refine AllReadyH.cons (i := 0) (o := _) rfl (fun K hK => ?_) ?_
            rotate_left
            · exact AllReadyH.nil
            go_simp
            refine hK.out _ _ ⟨q0, q1, q2, q3⟩ (fun hHeld => ?_)
            clear hK K
            try simp only [Act.put, List.getElem_toArray, List.getElem_cons_zero, List.getElem_cons_succ, List.setIfInBounds_toArray, List.set_cons_zero, List.set_cons_succ]
            refine wpAnyH_ready (rs := [4]) (by kernel_rfl) (by simp) ?_
            refine AllReadyH.cons (i := 4) (o := _) rfl (fun K hK => ?_) ?_
            rotate_left
            · exact AllReadyH.nil
            go_simp
            refine (KJ.out _ (GWE.out.trans (Chg.refl (fun x => x = S) wE).drew) (by exact GWE.out.size) (HPI.out _ (GWE.out.trans (Chg.refl (fun x => x = S) wE).drew))).mono ?_
            rintro e w6 ⟨⟨v', rfl, t6⟩, g6⟩
            obtain ⟨xa, xc, va, vc, rfl, tb6, tr6⟩ := t6
            dsimp only [Tm.bs, Tm.kd, Tm.ix, Tm.ag] at tb6 tr6 ⊢
            have g6' := (Chg.refl (fun _ => False) wE).drew.trans g6
            have q0a := g6'.cell (fun h => h) q0
            have q1a := g6'.cell (fun h => h) q1
            have q2a := g6'.cell (fun h => h) q2
            have q3a := g6'.cell (fun h => h) q3
            have BE6 := hide (g6'.blk (fun h => h) BE.out)
            have TB6 := hide tb6
            have TR6 := hide tr6
            have G6 := hide g6'
            have PXE : Hid (∀ x, (X x ∨ (wE.heap.size ≤ x ∧ x < w6.heap.size)) → ¬ x = E) := hide (fun x hx e => by have := HE.out; have := HO.out; rcases hx with hx | hx; have := HB.out.2 x hx; omega; omega)
            clear tb6 tr6 g6 g6'
            go_simp
            refine hK.out _ _ ⟨q0a, q1a, q2a, q3a⟩ (fun hHeld => ?_)
            clear hK K
            try simp only [Act.put, List.getElem_toArray, List.getElem_cons_zero, List.getElem_cons_succ, List.setIfInBounds_toArray, List.set_cons_zero, List.set_cons_succ]
            refine wpAnyH_ready (rs := [5]) (by kernel_rfl) (by simp) ?_
            refine AllReadyH.cons (i := 5) (o := _) rfl (fun K hK => ?_) ?_
            rotate_left
            · exact AllReadyH.nil
            have b0 := blk_cell BE6.out 0
            have ff0 := blk_free BE6.out 0
            have b1 := blk_cell BE6.out 1
            have ff1 := blk_free BE6.out 1
            have b2 := blk_cell BE6.out 2
            have ff2 := blk_free BE6.out 2
            have b3 := blk_cell BE6.out 3
            have ff3 := blk_free BE6.out 3
            simp only [List.getElem?_toArray, List.getElem?_cons_zero, List.getElem?_cons_succ] at b0 b1 b2 b3
            have NS : Hid (((((w6.setCell ⟨E, 0, none⟩ (.slice xa z0.len xc)).setCell ⟨E, 1, none⟩ (.int .i64 z1)).setCell ⟨E, 2, none⟩ (.int .i64 z2)).setCell ⟨E, 3, none⟩ (.slice va z3.len vc)).heap[E]? = some (.cells #[.slice xa z0.len xc, .int .i64 z1, .int .i64 z2, .slice va z3.len vc] 27) ∧ Chg (fun x => x = E) w6 ((((w6.setCell ⟨E, 0, none⟩ (.slice xa z0.len xc)).setCell ⟨E, 1, none⟩ (.int .i64 z1)).setCell ⟨E, 2, none⟩ (.int .i64 z2)).setCell ⟨E, 3, none⟩ (.slice va z3.len vc))) := hide ⟨(blk_set (blk_set (blk_set (blk_set BE6.out 0 (.slice xa z0.len xc)) 1 (.int .i64 z1)) 2 (.int .i64 z2)) 3 (.slice va z3.len vc)), ((((Chg.set w6 E 0 (.slice xa z0.len xc)).trans (Chg.set (w6.setCell ⟨E, 0, none⟩ (.slice xa z0.len xc)) E 1 (.int .i64 z1))).trans (Chg.set ((w6.setCell ⟨E, 0, none⟩ (.slice xa z0.len xc)).setCell ⟨E, 1, none⟩ (.int .i64 z1)) E 2 (.int .i64 z2))).trans (Chg.set (((w6.setCell ⟨E, 0, none⟩ (.slice xa z0.len xc)).setCell ⟨E, 1, none⟩ (.int .i64 z1)).setCell ⟨E, 2, none⟩ (.int .i64 z2)) E 3 (.slice va z3.len vc)))⟩
            go_simp
            refine hK.out _ _ ⟨NS.out.2.cell (by have := HE.out; omega) q0a, NS.out.2.cell (by have := HE.out; omega) q1a, NS.out.2.cell (by have := HE.out; omega) q2a, NS.out.2.cell (by have := HE.out; omega) q3a⟩ (fun hHeld => ?_)
            clear hK K
            try simp only [Act.put, List.getElem_toArray, List.getElem_cons_zero, List.getElem_cons_succ, List.setIfInBounds_toArray, List.set_cons_zero, List.set_cons_succ]
            refine wpAnyH_done (by kernel_rfl) ?_ _
            go_wp2_with fail
            go_meet
            exact ⟨xa, xc, va, vc, rfl, hide NS.out.1, hide ((TB6.out.chg NS.out.2 PXE.out).up (fun x hx => hx.elim Or.inl (fun h => Or.inr ⟨h.1, Nat.lt_of_lt_of_le h.2 NS.out.2.size⟩))), hide ((TR6.out.chg NS.out.2 PXE.out).up (fun x hx => hx.elim Or.inl (fun h => Or.inr ⟨h.1, Nat.lt_of_lt_of_le h.2 NS.out.2.size⟩))), hide ((G6.out.none (S := fun x => x = E)).trans NS.out.2)⟩
          case rest =>
          obtain ⟨xa, xc, va, vc, rfl, BE6, TB6, TR6, G6⟩ := hcut
          clear e0 e1 e2 e3 q0 q1 q2 q3 KJ HPI psl
          generalize wc = w6 at *
          have hT6 := hide (G6.out.blk (by have := HE.out; omega) hT.out)
          have hA6 := hide (own_chg2 hA.out G6.out (fun r e => by have := HE.out.2.2.2.2 r e; omega))
          have hM6 := hide (hM.out.chg ((HGE.out.none (S := fun x => x = E)).trans G6.out) (fun x hx e => by
            have h1 := HWE.out
            have h2 := HE.out
            rcases hx with hx | hx
            · have := HB.out.2 x hx; have := HO.out; omega
            · omega))
          have hC6 : Hid (Chg (fun x => x = S) w3 w6) := hide (((hC.out.mono (T := fun x => x = S ∨ x = E) (fun x _ h => Or.inl h)).trans (G6.out.mono (fun x _ h => Or.inr h))).mono (fun x hx h => by have := HE.out; have := HS.out; omega))
          have f0 : w6.cell? ⟨E, 0, none⟩ = some (.slice xa z0.len xc) := blk_cell BE6.out 0
          have f1 : w6.cell? ⟨E, 1, none⟩ = some (.int .i64 z1) := blk_cell BE6.out 1
          have f2 : w6.cell? ⟨E, 2, none⟩ = some (.int .i64 z2) := blk_cell BE6.out 2
          have f3 : w6.cell? ⟨E, 3, none⟩ = some (.slice va z3.len vc) := blk_cell BE6.out 3
          have s3 : w6.cell? ⟨S, 3, none⟩ = some u := blk_cell hT6.out 3
          have G7 := al w6 (.cells #[.slice xa z0.len xc, .int .i64 z1, .int .i64 z2, .slice va z3.len vc] 27)
          have HT7 := hide (G7.blk (fun h => h) hT6.out)
          have A7 := hide (own_chg hA6.out G7 (fun _ _ h => h))
          have M7 := hM6.out.chg G7 (fun _ _ h => h)
          have C7 := hide (hC6.out.trans G7.none)
          have TB7 := (TB6.out.chg G7 (fun _ _ h => h)).up (Y := PX (w6.alloc (.cells #[.slice xa z0.len xc, .int .i64 z1, .int .i64 z2, .slice va z3.len vc] 27)) X bo u) (fun x hx => hx.elim Or.inl (fun h => Or.inr ⟨by have := HE.out; omega, by have := al_size w6 (.cells #[.slice xa z0.len xc, .int .i64 z1, .int .i64 z2, .slice va z3.len vc] 27); omega, fun e => by have := HE.out; have := HE.out.2.2.2.2 x e; omega⟩))
          have TR7 := (TR6.out.chg G7 (fun _ _ h => h)).up (Y := PX (w6.alloc (.cells #[.slice xa z0.len xc, .int .i64 z1, .int .i64 z2, .slice va z3.len vc] 27)) X bo u) (fun x hx => hx.elim Or.inl (fun h => Or.inr ⟨by have := HE.out; omega, by have := al_size w6 (.cells #[.slice xa z0.len xc, .int .i64 z1, .int .i64 z2, .slice va z3.len vc] 27); omega, fun e => by have := HE.out; have := HE.out.2.2.2.2 x e; omega⟩))
          have N7 := hide (SN.out _ _ _ M7 TB7 TR7)
          have Z7 : Hid (bo ≤ (w6.alloc (.cells #[.slice xa z0.len xc, .int .i64 z1, .int .i64 z2, .slice va z3.len vc] 27)).heap.size) := hide (by have h1 := C7.out.size; have h2 := HS.out; omega)
          have NB := hide (World.news_of_block (cs := #[.slice xa z0.len xc, .int .i64 z1, .int .i64 z2, .slice va z3.len vc]) (t := 27) (fr := (0, 0)) (heap_alloc_new w6 _))
          have RL7 := hide (fun r (e : u.ownBlock = some r) => World.ownsRow.lt A7.out r e)
          have P7 := Z7.out
          clear M7 TB7 TR7 G7 TB6 TR6 hA6 hM6 hC6
          obtain ⟨v8, w8, hr8, hown, hgrow, _, hgat⟩ := run_append_own_at (P := Tryd.prog) (w := w6.alloc (.cells #[.slice xa z0.len xc, .int .i64 z1, .int .i64 z2, .slice va z3.len vc] 27)) bo 25 25 27 i0 (.agg #[.slice none 0 0, .int .i64 0, .int .i64 0, .slice none 0 0]) 4 64 Tryd.underlying25 hi0 hz0 hz1 hz2 rfl (by decide) u us.length (cellsT us) A7.out ⟨w6.heap.size, 0, none⟩ 1 1 [.slice xa z0.len xc, .int .i64 z1, .int .i64 z2, .slice va z3.len vc] rfl NB.out (by simp [Value.oneCell']) (by simp [maxLen]; omega) (by omega) P7
          obtain ⟨gg, cap2, rfl⟩ : ∃ gg cap2, v8 = .slice (some ⟨gg, 0, none⟩) (us.length + 1) cap2 := by
            rcases hown.2 with ⟨_, h2⟩ | ⟨gg, cap2, cur, h1, _⟩
            · omega
            · exact ⟨gg, cap2, h1⟩
          have GR := (Chg.refl (fun x => u.ownBlock = some x) (w6.alloc (.cells #[.slice xa z0.len xc, .int .i64 z1, .int .i64 z2, .slice va z3.len vc] 27))).grown hgrow (fun r e => Or.inl e)
          have nS : ¬ u.ownBlock = some S := fun e => (hoN.out S e).2 rfl
          have T8 := GR.blk nS HT7.out
          have fS8 := blk_free T8 3
          have zS8 := blk_cell T8 3
          simp only [List.getElem?_toArray, List.getElem?_cons_zero, List.getElem?_cons_succ] at zS8
          have M8 := N7.out.grown (fun x hx e => XU.out x hx e) hgrow (u' := .slice (some ⟨gg, 0, none⟩) (us.length + 1) cap2) (hgat)
          have G9 := Chg.set w8 S 3 (.slice (some ⟨gg, 0, none⟩) (us.length + 1) cap2)
          have T9 : Hid ((w8.setCell ⟨S, 3, none⟩ (.slice (some ⟨gg, 0, none⟩) (us.length + 1) cap2)).heap[S]? = some (.cells #[.slice ba b.len bc, .int .i64 k, .int .i64 i, .slice (some ⟨gg, 0, none⟩) (us.length + 1) cap2] 27)) := hide (blk_set T8 3 (.slice (some ⟨gg, 0, none⟩) (us.length + 1) cap2))
          have A9 := hide (tmacc_snoc (p := (.slice xa z0.len xc, z1, z2, .slice va z3.len vc)) (own_chg hown G9 (fun x hx e => by have := HB.out; omega)))
          have M9 := hide (M8.chg G9 (fun x hx e => by have := HB.out; have := HO.out; rcases hx with hx | hx; have := HB.out.2 x hx; omega; omega))
          have Z9 := hide (Nat.le_trans Z7.out (Nat.le_trans GR.size G9.size))
          have C9 : Hid (Chg (fun x => x = S) w3 (w8.setCell ⟨S, 3, none⟩ (.slice (some ⟨gg, 0, none⟩) (us.length + 1) cap2))) := hide (by
            have h1 : Chg (fun x => x = S ∨ bo ≤ x) w3 _ := ((C7.out.mono (fun x _ h => Or.inl h)).trans (GR.mono (fun x _ h => Or.inr (RL7.out x h).1))).trans (G9.mono (fun x _ h => Or.inl h))
            exact h1.mono (fun x hx h => by have := HS.out; omega))
          have HL9 : Hid ((us ++ [((.slice xa z0.len xc, z1, z2, .slice va z3.len vc) : Tc)]).length = j + 1) := hide (by rw [List.length_append, HUL.out]; rfl)
          have F9 : Hid (XInv w3 (w8.setCell ⟨S, 3, none⟩ (.slice (some ⟨gg, 0, none⟩) (us.length + 1) cap2)) X S bo (.slice ba b.len bc) k i F (j + 1)) := hide ⟨_, us ++ [(.slice xa z0.len xc, z1, z2, .slice va z3.len vc)], T9, A9, HL9, M9, Z9, C9⟩
          clear GR T8 M8 G9 hown hgrow hgat nS T9 A9 HL9 M9 Z9 C9
          go_wp2_with (at_builtin; refine Lib.wpList_append_run _ rfl _ _ _ _ rfl _ _ rfl rfl _ _ hr8 ?_)
          go_roundw
          case rel => exact ⟨j + 1, by omega, by go_num, F9⟩
          case measure => simp [intOf]; omega
        · have hjm' : ¬ ((j : Int) = (m : Int)) := by omega
          have SN := hide (fun (w' : World) (vb' v' : Value) (h : SameX w' X bo u F us) (hvb' : Ts w' (PX w' X bo u) vb' (f.toL[j]).bs) (hv' : Tr w' (PX w' X bo u) v' (f.toL[j]).ag) => h.snoc (i := j) (by rw [HFL.out.1, List.length_set]; exact hit) hL.out (p := (vb', (f.toL[j]).kd, (f.toL[j]).ix, v')) (by simp only [HFL.out.1, List.getElem_set_ne (fun e => hjm e.symm)]; exact ⟨hvb', rfl, rfl, hv'⟩))
          clear hl c0 c1 c2 c3 tb ti WC nS
          dsimp only [Tm.bs, Tm.kd, Tm.ix, Tm.ag] at y0 y1 y2 y3 tb5 ti5 SN
          generalize (f.toL[j]).1 = k0 at *
          generalize (f.toL[j]).2.1 = k1 at *
          generalize (f.toL[j]).2.2.1 = k2 at *
          generalize (f.toL[j]).2.2.2 = k3 at *
          have GE := al wr (.cells #[.slice kba k0.len kbc, .int .i64 k1, .int .i64 k2, .slice ka k3.len kc] 27)
          have BE6 := hide (blk_new wr (.cells #[.slice kba k0.len kbc, .int .i64 k1, .int .i64 k2, .slice ka k3.len kc] 27))
          have pd := GE.cell (fun h => h) pd
          have hT6 := hide (GE.blk (fun h => h) hT.out)
          have hA6 := hide (own_chg hA.out GE (fun _ _ h => h))
          have hM6 := hide (hM.out.chg GE (fun _ _ h => h))
          have hC6 := hide (hC.out.trans GE.none)
          have TB6 := hide (tb5.out.chg GE (fun _ _ h => h))
          have TR6 := hide (ti5.out.chg GE (fun _ _ h => h))
          go_upto_region 12 with fail
          obtain ⟨E, hE⟩ : ∃ E, wr.heap.size = E := ⟨_, rfl⟩
          rw [hE] at BE6 ⊢
          have HE : Hid (bo ≤ E ∧ E < (wr.alloc (.cells #[.slice kba k0.len kbc, .int .i64 k1, .int .i64 k2, .slice ka k3.len kc] 27)).heap.size ∧ S < E ∧ Q < E ∧ ∀ r, u.ownBlock = some r → r < E) := hide (by
            have h1 := blk_lt BE6.out
            have h2 := hZ.out
            have h3 := HB.out
            have h4 := HO.out
            exact ⟨by omega, h1, by omega, by omega, fun r e => by have := (RL.out r e).2; omega⟩)
          clear hE GE y0 y1 y2 y3 pd p3 tb5 ti5 hT hA hM hC
          generalize wr.alloc (.cells #[.slice kba k0.len kbc, .int .i64 k1, .int .i64 k2, .slice ka k3.len kc] 27) = w6 at *
          have f0 : w6.cell? ⟨E, 0, none⟩ = some (.slice kba k0.len kbc) := blk_cell BE6.out 0
          have f1 : w6.cell? ⟨E, 1, none⟩ = some (.int .i64 k1) := blk_cell BE6.out 1
          have f2 : w6.cell? ⟨E, 2, none⟩ = some (.int .i64 k2) := blk_cell BE6.out 2
          have f3 : w6.cell? ⟨E, 3, none⟩ = some (.slice ka k3.len kc) := blk_cell BE6.out 3
          have s3 : w6.cell? ⟨S, 3, none⟩ = some u := blk_cell hT6.out 3
          have G7 := al w6 (.cells #[.slice kba k0.len kbc, .int .i64 k1, .int .i64 k2, .slice ka k3.len kc] 27)
          have HT7 := hide (G7.blk (fun h => h) hT6.out)
          have A7 := hide (own_chg hA6.out G7 (fun _ _ h => h))
          have M7 := hM6.out.chg G7 (fun _ _ h => h)
          have C7 := hide (hC6.out.trans G7.none)
          have TB7 := (TB6.out.chg G7 (fun _ _ h => h)).up (Y := PX (w6.alloc (.cells #[.slice kba k0.len kbc, .int .i64 k1, .int .i64 k2, .slice ka k3.len kc] 27)) X bo u) (fun x hx => Or.inl hx)
          have TR7 := (TR6.out.chg G7 (fun _ _ h => h)).up (Y := PX (w6.alloc (.cells #[.slice kba k0.len kbc, .int .i64 k1, .int .i64 k2, .slice ka k3.len kc] 27)) X bo u) (fun x hx => Or.inl hx)
          have N7 := hide (SN.out _ _ _ M7 TB7 TR7)
          have Z7 : Hid (bo ≤ (w6.alloc (.cells #[.slice kba k0.len kbc, .int .i64 k1, .int .i64 k2, .slice ka k3.len kc] 27)).heap.size) := hide (by have h1 := C7.out.size; have h2 := HS.out; omega)
          have NB := hide (World.news_of_block (cs := #[.slice kba k0.len kbc, .int .i64 k1, .int .i64 k2, .slice ka k3.len kc]) (t := 27) (fr := (0, 0)) (heap_alloc_new w6 _))
          have RL7 := hide (fun r (e : u.ownBlock = some r) => World.ownsRow.lt A7.out r e)
          have P7 := Z7.out
          clear M7 TB7 TR7 G7 TB6 TR6 hA6 hM6 hC6
          obtain ⟨v8, w8, hr8, hown, hgrow, _, hgat⟩ := run_append_own_at (P := Tryd.prog) (w := w6.alloc (.cells #[.slice kba k0.len kbc, .int .i64 k1, .int .i64 k2, .slice ka k3.len kc] 27)) bo 25 25 27 i0 (.agg #[.slice none 0 0, .int .i64 0, .int .i64 0, .slice none 0 0]) 4 64 Tryd.underlying25 hi0 hz0 hz1 hz2 rfl (by decide) u us.length (cellsT us) A7.out ⟨w6.heap.size, 0, none⟩ 1 1 [.slice kba k0.len kbc, .int .i64 k1, .int .i64 k2, .slice ka k3.len kc] rfl NB.out (by simp [Value.oneCell']) (by simp [maxLen]; omega) (by omega) P7
          obtain ⟨gg, cap2, rfl⟩ : ∃ gg cap2, v8 = .slice (some ⟨gg, 0, none⟩) (us.length + 1) cap2 := by
            rcases hown.2 with ⟨_, h2⟩ | ⟨gg, cap2, cur, h1, _⟩
            · omega
            · exact ⟨gg, cap2, h1⟩
          have GR := (Chg.refl (fun x => u.ownBlock = some x) (w6.alloc (.cells #[.slice kba k0.len kbc, .int .i64 k1, .int .i64 k2, .slice ka k3.len kc] 27))).grown hgrow (fun r e => Or.inl e)
          have nS : ¬ u.ownBlock = some S := fun e => (hoN.out S e).2 rfl
          have T8 := GR.blk nS HT7.out
          have fS8 := blk_free T8 3
          have zS8 := blk_cell T8 3
          simp only [List.getElem?_toArray, List.getElem?_cons_zero, List.getElem?_cons_succ] at zS8
          have M8 := N7.out.grown (fun x hx e => XU.out x hx e) hgrow (u' := .slice (some ⟨gg, 0, none⟩) (us.length + 1) cap2) (hgat)
          have G9 := Chg.set w8 S 3 (.slice (some ⟨gg, 0, none⟩) (us.length + 1) cap2)
          have T9 : Hid ((w8.setCell ⟨S, 3, none⟩ (.slice (some ⟨gg, 0, none⟩) (us.length + 1) cap2)).heap[S]? = some (.cells #[.slice ba b.len bc, .int .i64 k, .int .i64 i, .slice (some ⟨gg, 0, none⟩) (us.length + 1) cap2] 27)) := hide (blk_set T8 3 (.slice (some ⟨gg, 0, none⟩) (us.length + 1) cap2))
          have A9 := hide (tmacc_snoc (p := (.slice kba k0.len kbc, k1, k2, .slice ka k3.len kc)) (own_chg hown G9 (fun x hx e => by have := HB.out; omega)))
          have M9 := hide (M8.chg G9 (fun x hx e => by have := HB.out; have := HO.out; rcases hx with hx | hx; have := HB.out.2 x hx; omega; omega))
          have Z9 := hide (Nat.le_trans Z7.out (Nat.le_trans GR.size G9.size))
          have C9 : Hid (Chg (fun x => x = S) w3 (w8.setCell ⟨S, 3, none⟩ (.slice (some ⟨gg, 0, none⟩) (us.length + 1) cap2))) := hide (by
            have h1 : Chg (fun x => x = S ∨ bo ≤ x) w3 _ := ((C7.out.mono (fun x _ h => Or.inl h)).trans (GR.mono (fun x _ h => Or.inr (RL7.out x h).1))).trans (G9.mono (fun x _ h => Or.inl h))
            exact h1.mono (fun x hx h => by have := HS.out; omega))
          have HL9 : Hid ((us ++ [((.slice kba k0.len kbc, k1, k2, .slice ka k3.len kc) : Tc)]).length = j + 1) := hide (by rw [List.length_append, HUL.out]; rfl)
          have F9 : Hid (XInv w3 (w8.setCell ⟨S, 3, none⟩ (.slice (some ⟨gg, 0, none⟩) (us.length + 1) cap2)) X S bo (.slice ba b.len bc) k i F (j + 1)) := hide ⟨_, us ++ [(.slice kba k0.len kbc, k1, k2, .slice ka k3.len kc)], T9, A9, HL9, M9, Z9, C9⟩
          clear GR T8 M8 G9 hown hgrow hgat nS T9 A9 HL9 M9 Z9 C9
          go_wp2_with (at_builtin; refine Lib.wpList_append_run _ rfl _ _ _ _ rfl _ _ rfl rfl _ _ hr8 ?_)
          go_roundw
          case rel => exact ⟨j + 1, by omega, by go_num, F9⟩
          case measure => simp [intOf]; omega
      · have hif : j = f.len := by omega
        have i2 : ¬ (j : Int) < (f.len : Int) := by omega
        have BRr := hide (hC.out.blk (by have := HO.out; omega) BR3.out)
        have z0 := blk_cell hT.out 0
        have z1 := blk_cell hT.out 1
        have z2 := blk_cell hT.out 2
        have z3 := blk_cell hT.out 3
        simp only [List.getElem?_toArray, List.getElem?_cons_zero, List.getElem?_cons_succ] at z0 z1 z2 z3
        have b0 := blk_cell BRr.out 0
        have ff0 := blk_free BRr.out 0
        have b1 := blk_cell BRr.out 1
        have ff1 := blk_free BRr.out 1
        have b2 := blk_cell BRr.out 2
        have ff2 := blk_free BRr.out 2
        have b3 := blk_cell BRr.out 3
        have ff3 := blk_free BRr.out 3
        simp only [List.getElem?_toArray, List.getElem?_cons_zero, List.getElem?_cons_succ] at b0 b1 b2 b3
        have NS : Hid (((((wr.setCell ⟨R, 0, none⟩ (.slice ba b.len bc)).setCell ⟨R, 1, none⟩ (.int .i64 k)).setCell ⟨R, 2, none⟩ (.int .i64 i)).setCell ⟨R, 3, none⟩ (u)).heap[R]? = some (.cells #[.slice ba b.len bc, .int .i64 k, .int .i64 i, u] 27) ∧ Chg (fun x => x = R) wr ((((wr.setCell ⟨R, 0, none⟩ (.slice ba b.len bc)).setCell ⟨R, 1, none⟩ (.int .i64 k)).setCell ⟨R, 2, none⟩ (.int .i64 i)).setCell ⟨R, 3, none⟩ (u))) := hide ⟨(blk_set (blk_set (blk_set (blk_set BRr.out 0 (.slice ba b.len bc)) 1 (.int .i64 k)) 2 (.int .i64 i)) 3 (u)), ((((Chg.set wr R 0 (.slice ba b.len bc)).trans (Chg.set (wr.setCell ⟨R, 0, none⟩ (.slice ba b.len bc)) R 1 (.int .i64 k))).trans (Chg.set ((wr.setCell ⟨R, 0, none⟩ (.slice ba b.len bc)).setCell ⟨R, 1, none⟩ (.int .i64 k)) R 2 (.int .i64 i))).trans (Chg.set (((wr.setCell ⟨R, 0, none⟩ (.slice ba b.len bc)).setCell ⟨R, 1, none⟩ (.int .i64 k)).setCell ⟨R, 2, none⟩ (.int .i64 i)) R 3 (u)))⟩
        have AF := own_chg hA.out NS.out.2 (fun x hx e => by have := HB.out; have := HO.out; omega)
        have MF := hM.out.chg NS.out.2 (fun x hx e => by have := HB.out; have := HO.out; rcases hx with hx | hx; have := HB.out.2 x hx; omega; omega)
        have CF : Chg (fun _ => False) w ((((wr.setCell ⟨R, 0, none⟩ (.slice ba b.len bc)).setCell ⟨R, 1, none⟩ (.int .i64 k)).setCell ⟨R, 2, none⟩ (.int .i64 i)).setCell ⟨R, 3, none⟩ (u)) := by
          have h1 : Chg (fun x => x = S ∨ x = R) w _ := ((G3.out.none.trans (hC.out.mono (fun x _ h => Or.inl h)))).trans (NS.out.2.mono (fun x _ h => Or.inr h))
          exact h1.mono (fun x hx h => by have := HO.out; omega)
        obtain ⟨ua, uc2, hue⟩ : ∃ ua uc2, u = .slice ua us.length uc2 := by
          rcases hA.out.2 with ⟨h1, h2⟩ | ⟨g, cap2, cur, h1, _⟩
          · exact ⟨_, _, by rw [h1, h2]⟩
          · exact ⟨_, _, h1⟩
        have TRF : Tr ((((wr.setCell ⟨R, 0, none⟩ (.slice ba b.len bc)).setCell ⟨R, 1, none⟩ (.int .i64 k)).setCell ⟨R, 2, none⟩ (.int .i64 i)).setCell ⟨R, 3, none⟩ (u)) (New X w ((((wr.setCell ⟨R, 0, none⟩ (.slice ba b.len bc)).setCell ⟨R, 1, none⟩ (.int .i64 k)).setCell ⟨R, 2, none⟩ (.int .i64 i)).setCell ⟨R, 3, none⟩ (u))) u F := tmacc_tr AF (fun r e => Or.inr (by have h1 := World.ownsRow.lt AF r e; have := HB.out; have := HO.out; exact ⟨by omega, h1.2⟩)) (by rw [hL.out, Tms.toL_len, HFL.out.2, hif]) (fun m h1 h2 => (MF.2 m h1 h2).up (fun x hx => hx.elim Or.inl (fun hx => Or.inr ⟨by have := HB.out; have := HO.out; omega, hx.2.1⟩)))
        have TBF := (TB0.out.chg CF (fun _ _ h => h)).up (Y := New X w ((((wr.setCell ⟨R, 0, none⟩ (.slice ba b.len bc)).setCell ⟨R, 1, none⟩ (.int .i64 k)).setCell ⟨R, 2, none⟩ (.int .i64 i)).setCell ⟨R, 3, none⟩ (u))) (fun x hx => Or.inl hx)
        have F9 : Hid (TV ((((wr.setCell ⟨R, 0, none⟩ (.slice ba b.len bc)).setCell ⟨R, 1, none⟩ (.int .i64 k)).setCell ⟨R, 2, none⟩ (.int .i64 i)).setCell ⟨R, 3, none⟩ (u)) (New X w ((((wr.setCell ⟨R, 0, none⟩ (.slice ba b.len bc)).setCell ⟨R, 1, none⟩ (.int .i64 k)).setCell ⟨R, 2, none⟩ (.int .i64 i)).setCell ⟨R, 3, none⟩ (u))) (.agg #[.slice ba b.len bc, .int .i64 k, .int .i64 i, u]) (b, k, i, F) ∧ Chg (fun _ => False) w ((((wr.setCell ⟨R, 0, none⟩ (.slice ba b.len bc)).setCell ⟨R, 1, none⟩ (.int .i64 k)).setCell ⟨R, 2, none⟩ (.int .i64 i)).setCell ⟨R, 3, none⟩ (u))) := hide ⟨by
          obtain ⟨fa, fc, e1, e2⟩ := id TRF
          subst e1
          exact ⟨ba, bc, fa, fc, rfl, TBF, TRF⟩, CF⟩
        subst hue
        subst hif
        clear AF MF CF TRF TBF hT hA hL hM hZ hC BRr
        go_wp2_with fail
        generalize ((((wr.setCell ⟨R, 0, none⟩ (.slice ba b.len bc)).setCell ⟨R, 1, none⟩ (.int .i64 k)).setCell ⟨R, 2, none⟩ (.int .i64 i)).setCell ⟨R, 3, none⟩ (.slice ua us.length uc2)) = wF at *
        have r0 := blk_cell NS.out.1 0
        have r1 := blk_cell NS.out.1 1
        have r2 := blk_cell NS.out.1 2
        have r3 := blk_cell NS.out.1 3
        refine bodyPost_ret (v := .agg #[.slice ba b.len bc, .int .i64 k, .int .i64 i, .slice ua us.length uc2]) (by simp [results, Tryd.results25, go_sem, r0, r1, r2, r3]) rfl ?_
        exact ⟨⟨_, rfl, by rw [HF.out]; exact F9.out.1⟩, F9.out.2⟩
end Go.Proofs.YtnpcapdlgcaniaaDoor
