/- The document's All: the paths of all places of a term. -/
import Derived.Test.YtnpcapdlgcaniaaDoorBehind
import Derived.Test.YtnpcapdlgcaniaaDoorAll
import Derived.Test.YtnpcapdlgcaniaaDoorRepl
namespace Go.Proofs.YtnpcapdlgcaniaaDoor
open Go.RowKit
set_option linter.unusedVariables false
set_option linter.unusedSimpArgs false

/-- a slice with a sound capacity -/
def CapOk (u : Value) : Prop := ∃ a n c, u = .slice a n c ∧ n ≤ c ∧ c ≤ maxLen
/-- a row of ints, with its capacity -/
def Ic (w : World) (X : Nat → Prop) (u : Value) (l : List Int) : Prop := Il w X u l ∧ CapOk u
theorem Ic.chg {w w' : World} {X : Nat → Prop} {v : Value} {l : List Int} (h : Ic w X v l) {S : Nat → Prop} (g : Chg S w w') (hn : ∀ x, X x → ¬ S x) : Ic w' X v l := ⟨h.1.chg g hn, h.2⟩
theorem Ic.up {w : World} {X Y : Nat → Prop} {v : Value} {l : List Int} (h : Ic w X v l) (hb : ∀ x, X x → Y x) : Ic w Y v l := ⟨h.1.up hb, h.2⟩
theorem Ic.ip {w : World} {X : Nat → Prop} {v : Value} {l : List Int} (h : Ic w X v l) (hX : ∀ x, X x → x < w.heap.size) : Ip w v l := by
  obtain ⟨⟨a, c, rfl, h1⟩, a', n', c', e, h2, h3⟩ := h
  injection e with e1 e2 e3
  subst e1 e2 e3
  refine ⟨_, _, rfl, h2, h3, ?_⟩
  rcases h1 with h1 | ⟨g, off, e1, h4, h5⟩
  · exact Or.inl h1
  · exact Or.inr ⟨g, off, e1, hX g h4, h5⟩
theorem ic_own {w : World} {base : Nat} {E : TypeId} {v : Value} {l : List Int} (h : w.ownsRow base E 1 v l.length (l.map (.int .i64))) {X : Nat → Prop} (hX : ∀ r, v.ownBlock = some r → X r) : Ic w X v l := by
  refine ⟨il_own h hX, ?_⟩
  rcases h.2 with ⟨rfl, _⟩ | ⟨g, cap, cur, rfl, _, _, h3, h4, _⟩
  · exact ⟨_, _, _, rfl, Nat.le_refl _, Nat.zero_le _⟩
  · exact ⟨_, _, _, rfl, h3, h4⟩
/-- rows of ints -/
def Rws (w : World) (X : Nat → Prop) (v : Value) (ls : List (List Int)) : Prop :=
  ∃ a cap, v = .slice a ls.length cap ∧ (ls = [] ∨ ∃ g off, a = some ⟨g, off, none⟩ ∧ X g ∧ ∀ i (h : i < ls.length), ∃ u, w.cell? ⟨g, off + i, none⟩ = some u ∧ Ic w X u ls[i])
theorem Rws.chg {w w' : World} {X : Nat → Prop} {v : Value} {ls : List (List Int)} (h : Rws w X v ls) {S : Nat → Prop} (gc : Chg S w w') (hn : ∀ x, X x → ¬ S x) : Rws w' X v ls := by
  obtain ⟨a, cap, e, h1⟩ := h
  refine ⟨a, cap, e, ?_⟩
  rcases h1 with h1 | ⟨g, off, e1, h2, h3⟩
  · exact Or.inl h1
  · exact Or.inr ⟨g, off, e1, h2, fun i hi => by
      obtain ⟨u, c, l⟩ := h3 i hi
      exact ⟨u, gc.cell (hn g h2) c, l.chg gc hn⟩⟩
theorem Rws.up {w : World} {X Y : Nat → Prop} {v : Value} {ls : List (List Int)} (h : Rws w X v ls) (hb : ∀ x, X x → Y x) : Rws w Y v ls := by
  obtain ⟨a, cap, e, h1⟩ := h
  refine ⟨a, cap, e, ?_⟩
  rcases h1 with h1 | ⟨g, off, e1, h2, h3⟩
  · exact Or.inl h1
  · exact Or.inr ⟨g, off, e1, hb g h2, fun i hi => by
      obtain ⟨u, c, l⟩ := h3 i hi
      exact ⟨u, c, l.up hb⟩⟩
/-- what a growing row's elements may lie in -/
def PR (w : World) (X : Nat → Prop) (B : Nat) (v : Value) : Nat → Prop := fun y => X y ∨ (B ≤ y ∧ y < w.heap.size ∧ v.ownBlock ≠ some y)
/-- a row of rows of one's own -/
def ROwn (w : World) (X : Nat → Prop) (B : Nat) (v : Value) (us : List Rw) : Prop :=
  w.ownsRow B 28 1 v us.length (us.map (·.1)) ∧ ∀ x ∈ us, Ic w (PR w X B v) x.1 x.2
theorem ROwn.chg {w w' : World} {X : Nat → Prop} {B : Nat} {v : Value} {us : List Rw} (h : ROwn w X B v us) (g : Chg (fun _ => False) w w') : ROwn w' X B v us :=
  ⟨own_chg h.1 g (fun _ _ h => h), fun x hx => ((h.2 x hx).chg g (fun _ _ h => h)).up (fun y hy => hy.elim Or.inl (fun hy => Or.inr ⟨hy.1, Nat.lt_of_lt_of_le hy.2.1 g.size, hy.2.2⟩))⟩
/-- a row of one's own is rows -/
theorem ROwn.rws {w : World} {X : Nat → Prop} {B : Nat} {v : Value} {us : List Rw} (h : ROwn w X B v us) : Rws w (fun y => X y ∨ (B ≤ y ∧ y < w.heap.size)) v (us.map (·.2)) := by
  obtain ⟨h1, h2⟩ := h
  rcases id h1.2 with ⟨rfl, h3⟩ | ⟨g, cap, cur, rfl, hb, hc, _⟩
  · have : us = [] := List.eq_nil_of_length_eq_zero h3
    subst this
    exact ⟨none, 0, rfl, Or.inl rfl⟩
  · refine ⟨_, cap, by rw [List.length_map], Or.inr ⟨g, 0, rfl, Or.inr ⟨hb, blk_lt hc⟩, fun i hi => ?_⟩⟩
    rw [List.length_map] at hi
    have hcell := World.ownsRow.cells h1 (g := g) rfl
    have := hcell i us[i].1 (by simp [hi])
    rw [add_at] at this
    exact ⟨_, this, by
      simp only [List.getElem_map]
      exact (h2 _ (List.getElem_mem hi)).up (fun y hy => hy.elim Or.inl (fun hy => Or.inr ⟨hy.1, hy.2.1⟩))⟩
/-- some rows more -/
theorem ROwn.app {w : World} {X : Nat → Prop} {B : Nat} {v : Value} {us : List Rw} (h : ROwn w X B v us) (hB : B ≤ w.heap.size) (hX : ∀ x, X x → x < B) {Y : Nat → Prop} {u : Value} {ls : List (List Int)} (hu : Rws w Y u ls) (h0 : ls ≠ []) (hY : ∀ y, Y y → PR w X B v y) (hl : us.length + ls.length ≤ 1000000) (ty : TypeId) :
    ∃ v' w' us', (Builtin.append_ #[49, 49] ty #[v, u]).run Tryd.prog w = .ok v' w' ∧ ROwn w' X B v' (us ++ us') ∧ us'.map (·.2) = ls ∧ Chg (fun x => v.ownBlock = some x) w w' := by
  obtain ⟨i0, hi0, hz0, hz1, hz2⟩ := info_parts info28
  obtain ⟨a, cap, rfl, hr⟩ := hu
  rcases hr with hr | ⟨g, off, rfl, hg, hc⟩
  · exact absurd hr h0
  obtain ⟨us', e1, e2⟩ := list_ofT ls.length (fun i (p : Rw) => ∃ hi : i < ls.length, w.cell? ⟨g, off + i, none⟩ = some p.1 ∧ p.2 = ls[i] ∧ Ic w Y p.1 p.2) (fun i hi => by
    obtain ⟨u, c, l⟩ := hc i hi
    exact ⟨(u, ls[i]), hi, c, rfl, l⟩)
  have e3 : us'.map (·.2) = ls := List.ext_getElem (by rw [List.length_map, e1]) (fun i h1 h2 => by
    rw [List.length_map] at h1
    obtain ⟨_, _, e, _⟩ := e2 i h1
    rw [List.getElem_map, e])
  obtain ⟨v', w', hr, o1, o2, _, o3⟩ := run_append_own_at (P := Tryd.prog) w B 49 ty 28 i0 (.slice none 0 0) 1 24 Tryd.underlying49 hi0 hz0 hz1 hz2 rfl (by decide) v us.length _ h.1 ⟨g, off, none⟩ ls.length cap (us'.map (·.1)) (by rw [List.length_map, e1, Nat.mul_one]) (fun j q hq => by
      have hj : j < us'.length := by have := (List.getElem?_eq_some_iff.1 hq).1; simpa using this
      obtain ⟨_, c, _⟩ := e2 j hj
      rw [List.getElem?_map, List.getElem?_eq_getElem hj] at hq
      cases hq
      rw [add_at]
      exact c) (fun q hq => by
      obtain ⟨p, hp, rfl⟩ := List.mem_map.1 hq
      obtain ⟨j, hj, rfl⟩ := List.getElem_of_mem hp
      obtain ⟨_, _, _, ⟨a, c, e, _⟩, _⟩ := e2 j hj
      rw [e]; rfl) (by unfold maxLen; omega) (by omega) hB
  have hG : Chg (fun x => v.ownBlock = some x) w w' := (Chg.refl _ w).grown o2 (fun r e => Or.inl e)
  have rlo : ∀ y, v.ownBlock = some y → B ≤ y := fun y e => (World.ownsRow.lt h.1 y e).1
  have nv : ∀ y, y < w.heap.size → v.ownBlock ≠ some y → v'.ownBlock ≠ some y := fun y h1 h2 e => by
    rcases o3 with o3 | o3
    · rw [o3] at e; exact h2 e
    · rw [o3] at e; have := Option.some.inj e; omega
  have upP : ∀ y, PR w X B v y → PR w' X B v' y := fun y hy => hy.elim Or.inl (fun hy => Or.inr ⟨hy.1, Nat.lt_of_lt_of_le hy.2.1 o2.size, nv y hy.2.1 hy.2.2⟩)
  have noP : ∀ y, PR w X B v y → ¬ v.ownBlock = some y := fun y hy e => hy.elim (fun hy => by have := hX y hy; have := rlo y e; omega) (fun hy => hy.2.2 e)
  refine ⟨v', w', us', hr, ⟨by rw [List.length_append, e1, List.map_append]; exact o1, fun x hx => ?_⟩, e3, hG⟩
  rcases List.mem_append.1 hx with hx | hx
  · exact ((h.2 x hx).chg hG noP).up upP
  · obtain ⟨j, hj, rfl⟩ := List.getElem_of_mem hx
    obtain ⟨_, _, _, il⟩ := e2 j hj
    exact ((il.up hY).chg hG noP).up upP
/-- ints behind ints of one's own -/
theorem iapp {w : World} {B : Nat} {v : Value} {l : List Int} (h : w.ownsRow B 3 1 v l.length (l.map (.int .i64))) (hB : B ≤ w.heap.size) {X : Nat → Prop} {u : Value} {m : List Int} (hu : Il w X u m) (hl : l.length + m.length ≤ 1000000) (ty : TypeId) :
    ∃ v' w', (Builtin.append_ #[28, 28] ty #[v, u]).run Tryd.prog w = .ok v' w' ∧ w'.ownsRow B 3 1 v' (l ++ m).length ((l ++ m).map (.int .i64)) ∧ w.grownBy w' v.ownBlock := by
  obtain ⟨i0, hi0, hz0, hz1, hz2⟩ := info_parts infoI3
  obtain ⟨a, cap, rfl, hr⟩ := hu
  cases a with
  | none =>
    have h0 : m = [] := by
      rcases hr with hr | ⟨g, off, hg, _⟩
      · exact hr
      · cases hg
    subst h0
    refine ⟨v, w, ?_, by simpa using h, ⟨rfl, rfl, rfl, Nat.le_refl _, fun _ _ _ => rfl⟩⟩
    rcases h.2 with ⟨rfl, h3⟩ | ⟨g, cap, cur, rfl, hbg, hg, hnc, hcm, hcs, htake⟩
    · simp [Builtin.append_, run_underlying Tryd.underlying28, sizeOf, typeInfo, hi0, Builtin.lenOf, Builtin.firstCells, loadCells, loadCellsFrom]
    · simp [Builtin.append_, run_underlying Tryd.underlying28, sizeOf, typeInfo, hi0, Builtin.lenOf, Builtin.firstCells, loadCells, loadCellsFrom, hnc, storeCells]
  | some ad =>
    obtain ⟨v', w', hr', o1, o2, _, _⟩ := run_append_own_at (P := Tryd.prog) w B 28 ty 3 i0 (.int .i64 0) 1 8 Tryd.underlying28 hi0 hz0 hz1 hz2 rfl (by decide) v l.length _ h ad m.length cap (m.map (.int .i64)) (by simp) (fun j q hq => by
      have hj : j < m.length := by have := (List.getElem?_eq_some_iff.1 hq).1; simpa using this
      rw [List.getElem?_map, List.getElem?_eq_getElem hj] at hq
      cases hq
      rcases hr with hr | ⟨g, off, hg, _, hc⟩
      · subst hr; exact absurd hj (Nat.not_lt_zero _)
      · cases hg
        rw [add_at]
        exact hc j hj) (fun q hq => by obtain ⟨p, _, rfl⟩ := List.mem_map.1 hq; rfl) (by unfold maxLen; omega) (by omega) hB
    exact ⟨v', w', hr', by rw [List.length_append, List.map_append]; exact o1, o2⟩

theorem placesP_ne (p : List Int) (t : Tm) : (placesP p t).map (·.1) ≠ [] := by unfold placesP; simp
theorem placesP_len (p : List Int) (t : Tm) : (placesP p t).length = 1 + t.ag.cnt := by unfold placesP; rw [List.length_cons, kidsP_len]; omega
/-- what All's loop keeps -/
def AlInv (w1 wr : World) (X : Nat → Prop) (L : Nat) (v : Value) (p : List Int) (f : Tms) (i : Nat) : Prop :=
  ∃ us : List Rw, Hid (ROwn wr X L v us) ∧ Hid (us.map (·.2) = p :: (kidsP p 0 (f.first i)).map (·.1)) ∧ Hid (Chg (fun y => L ≤ y) w1 wr)
def AllC (f : Tms) : Prop := ∀ (b : Fs) (k j : Int) (v u : Value) (X : Nat → Prop) (w : World) (p : List Int), f.size ≤ 40000 → (∀ x, X x → x < w.heap.size) → TV w X v (b, k, j, f) → Ic w X u p → p.length + f.size ≤ 50000 →
  Calls Tryd.prog 20 #[v, u] w fun e w' => (∃ v', e = .returned v' ∧ Rws w' (New X w w') v' ((placesP p (b, k, j, f)).map (·.1))) ∧ Chg (fun _ => False) w w'

set_option maxRecDepth 100000 in
set_option maxHeartbeats 16000000 in
theorem refall_step (N : Nat) (ih : ∀ (f : Tms), f.size < N → AllC f) (f : Tms) (hf : f.size ≤ N) : AllC f := by
  intro b k j v u X w p hfs hX hv hu hp
  obtain ⟨ba, bc, a, cap, rfl, h1, h2⟩ := hv
  dsimp only [Tm.bs, Tm.kd, Tm.ix, Tm.ag] at h1 h2 ⊢
  have IH := hide ih
  have HF := hide hf
  have HFS := hide hfs
  have HX := hide hX
  have HP := hide hp
  have TR0 := hide h2
  have IU := hide hu
  have htl := Tms.toL_len f
  have hls := Tms.len_size f
  have hcs := Tms.cnt_size f
  obtain ⟨⟨ua, uc, rfl, _⟩, _⟩ := id hu
  have G1 := al w (.cells #[.slice ba b.len bc, .int .i64 k, .int .i64 j, .slice a f.len cap] 27)
  have b0 := blk_new w (.cells #[.slice ba b.len bc, .int .i64 k, .int .i64 j, .slice a f.len cap] 27)
  have G2 := al (w.alloc (.cells #[.slice ba b.len bc, .int .i64 k, .int .i64 j, .slice a f.len cap] 27)) (.cells #[.slice ua p.length uc] 28)
  have b1 := blk_new (w.alloc (.cells #[.slice ba b.len bc, .int .i64 k, .int .i64 j, .slice a f.len cap] 27)) (.cells #[.slice ua p.length uc] 28)
  have b0' := G2.blk (fun h => h) b0
  rw [al_sz] at b1
  have sz2 : ((w.alloc (.cells #[.slice ba b.len bc, .int .i64 k, .int .i64 j, .slice a f.len cap] 27)).alloc (.cells #[.slice ua p.length uc] 28)).heap.size = w.heap.size + 2 := by rw [al_sz, al_sz]
  have GG := hide (G1.trans G2)
  have BX := hide b0'
  have BL := hide b1
  have SZ := hide sz2
  clear ih hf hfs hX hu hp h1 h2 G1 G2 b0 b1 b0' sz2
  go_enter Tryd.func20, Tryd.ntmps20
  go_wp2_with fail
  generalize ((w.alloc (.cells #[.slice ba b.len bc, .int .i64 k, .int .i64 j, .slice a f.len cap] 27)).alloc (.cells #[.slice ua p.length uc] 28)) = w1 at *
  obtain ⟨P, hP⟩ : ∃ P, w.heap.size = P := ⟨_, rfl⟩
  obtain ⟨L, hL⟩ : ∃ L, P + 1 = L := ⟨_, rfl⟩
  have hZ := SZ.out
  rw [hP] at BX BL hZ ⊢
  rw [hL] at BL ⊢
  have HO : Hid (w1.heap.size = L + 1 ∧ P < L ∧ w.heap.size = P) := hide ⟨by omega, by omega, hP⟩
  clear hP hL SZ hZ
  have I0 : Hid (AlInv w1 w1 X L (.slice (some ⟨L, 0, none⟩) 1 1) p f 0) := hide ⟨[(.slice ua p.length uc, p)], hide ⟨⟨by simp, Or.inr ⟨L, 1, #[.slice ua p.length uc], rfl, Nat.le_refl _, BL.out, Nat.le_refl _, by unfold maxLen; omega, by simp, by simp⟩⟩, fun x hx => by
    rw [List.mem_singleton] at hx
    subst hx
    exact (IU.out.chg GG.out (fun _ _ h => h)).up (fun y hy => Or.inl hy)⟩, hide rfl, hide (Chg.refl _ _)⟩
  go_loopw [5, 6] (fun lv iv wr => ∃ (i : Nat) (l : Value), i ≤ f.len ∧ lv = l ∧ iv = .int .i64 i ∧ Hid (AlInv w1 wr X L l p f i)) (fun _ iv _ => f.len - (intOf iv).toNat)
  case atStart => exact ⟨0, _, Nat.zero_le _, rfl, rfl, I0⟩
  case round =>
    clear I0 BL
    obtain ⟨i, lv, hi, e0, rfl, hIN⟩ := hrel
    have e0' := e0.symm
    clear e0
    subst e0'
    obtain ⟨us, hA, hE, hC⟩ := hIN.out
    clear hIN
    have xP : wr.cell? ⟨P, 3, none⟩ = some (.slice a f.len cap) := blk_cell (hC.out.blk (by have := HO.out; omega) BX.out) 3
    by_cases hlt : i < f.len
    · have hit : i < f.toL.length := by omega
      obtain ⟨la, lc, hlv, hl⟩ := TR0.out
      rcases hl with h0 | ⟨g, off, rfl, hg, hl⟩
      · subst h0; exact absurd hlt (Nat.not_lt_zero _)
      injection hlv with e1 e2 e3
      subst e1 e3
      obtain ⟨⟨vkb, c0, tb⟩, c1, c2, vi, c3, ti⟩ := tlies_get hl i hit
      obtain ⟨kba, kbc, rfl, _⟩ := id tb
      obtain ⟨ka, kc, rfl, _⟩ := id ti
      have nX : ∀ x, X x → ¬ L ≤ x := fun x hx e => by have := HX.out x hx; have := HO.out; omega
      have hks := Tms.kid_size f i hit
      have hkm := Tms.kid_sum f i hit
      have i1 : (0 : Int) ≤ (i : Int) := by omega
      have i2 : (i : Int) < (f.len : Int) := by omega
      have i3 : f.len ≤ 40000 := by have := HFS.out; omega
      have GWr : Hid (Chg (fun y => L ≤ y) w wr) := hide (GG.out.none.trans hC.out)
      -- the path
      have U0 := (IU.out.chg GWr.out nX).1
      obtain ⟨v6, w6, hr6, o6, g6⟩ := iapp (l := []) (w := wr) (B := wr.heap.size) (v := .slice none 0 0) ⟨rfl, Or.inl ⟨rfl, rfl⟩⟩ (Nat.le_refl _) U0 (by have := HP.out; simp; omega) 28
      rw [List.nil_append] at o6
      have C6 : Chg (fun _ => False) wr w6 := (Chg.refl _ wr).grown g6 (fun r e => by cases e)
      have G7 := al w6 (.cells #[.int .i64 i] 3)
      have b7 := blk_new w6 (.cells #[.int .i64 i] 3)
      obtain ⟨v8, w8, hr8, o8, g8⟩ := iapp (own_chg o6 G7 (fun _ _ h => h)) (by have := C6.size; have := G7.size; omega) (X := fun _ => True) (u := .slice (some ⟨w6.heap.size, 0, none⟩) 1 1) (m := [(i : Int)]) ⟨_, 1, rfl, Or.inr ⟨w6.heap.size, 0, rfl, trivial, fun q hq => by
        have hq0 : q = 0 := by simp at hq; exact hq
        subst hq0
        exact blk_cell b7 0⟩⟩ (by have := HP.out; simp; omega) 28
      have own6 : ∀ r, v6.ownBlock = some r → wr.heap.size ≤ r := fun r e => (World.ownsRow.lt o6 r e).1
      have C8 : Hid (Chg (fun _ => False) wr w8) := hide (((C6.trans G7).grown g8 (fun r e => Or.inr (own6 r e))))
      have P8 := hide (ic_own o8 (X := fun y => X y ∨ (wr.heap.size ≤ y ∧ y < w8.heap.size)) (fun r e => Or.inr (World.ownsRow.lt o8 r e)))
      have d0 := C8.out.cell (fun h => h) (GWr.out.cell (nX g hg) c0)
      have d1 := C8.out.cell (fun h => h) (GWr.out.cell (nX g hg) c1)
      have d2 := C8.out.cell (fun h => h) (GWr.out.cell (nX g hg) c2)
      have d3 := C8.out.cell (fun h => h) (GWr.out.cell (nX g hg) c3)
      have xP8 := C8.out.cell (fun h => h) xP
      have KI := hide (IH.out (f.toL[i]).ag (by have := HF.out; omega) (f.toL[i]).bs (f.toL[i]).kd (f.toL[i]).ix (.agg #[.slice kba (f.toL[i]).bs.len kbc, .int .i64 (f.toL[i]).kd, .int .i64 (f.toL[i]).ix, .slice ka (f.toL[i]).ag.len kc]) v8 (fun y => X y ∨ (wr.heap.size ≤ y ∧ y < w8.heap.size)) w8 (p ++ [(i : Int)]) (by have := HFS.out; omega) (fun x hx => hx.elim (fun hx => by have := HX.out x hx; have := GWr.out.size; have := C8.out.size; omega) (fun hx => hx.2)) ⟨kba, kbc, ka, kc, rfl, ((tb.chg GWr.out nX).chg C8.out (fun _ _ h => h)).up (fun x hx => Or.inl hx), ((ti.chg GWr.out nX).chg C8.out (fun _ _ h => h)).up (fun x hx => Or.inl hx)⟩ P8.out (by rw [List.length_append, List.length_singleton]; have := HP.out; omega))
      have NF := hide (kidsP_first p f i hit)
      have CN := hide (f.kid_cnt p i hit)
      have hlo : Hid (wr.heap.size ≤ w8.heap.size ∧ L ≤ wr.heap.size) := hide ⟨C8.out.size, by have := hC.out.size; have := HO.out; omega⟩
      clear hl c0 c1 c2 c3 tb ti hks hkm U0 C6 G7 b7 own6 g6 g8 o6 o8 P8 nX
      have HS := hide (placesP_ne (p ++ [(i : Int)]) f.toL[i])
      have HL := hide (placesP_len (p ++ [(i : Int)]) f.toL[i])
      generalize hq : f.toL[i] = s at *
      obtain ⟨s0, s1, s2, s3⟩ := s
      dsimp only [Tm.bs, Tm.kd, Tm.ix, Tm.ag] at d0 d1 d2 d3 KI HL CN
      clear hq
      have NM : Hid ((kidsP p 0 (f.first (i + 1))).map (·.1) = (kidsP p 0 (f.first i)).map (·.1) ++ (placesP (p ++ [(i : Int)]) (s0, s1, s2, s3)).map (·.1)) := hide (by rw [NF.out, List.map_append])
      have HLL : Hid (((placesP (p ++ [(i : Int)]) (s0, s1, s2, s3)).map (·.1)).length = 1 + s3.cnt) := hide (by rw [List.length_map, HL.out])
      generalize (placesP (p ++ [(i : Int)]) (s0, s1, s2, s3)).map (·.1) = ls at *
      clear NF HL
      go_wp2_with (at_builtin; first | (refine Lib.wpList_append_run _ rfl _ _ _ _ rfl _ _ rfl rfl _ _ hr6 ?_) | (refine Lib.wpList_append_run _ rfl _ _ _ _ rfl _ _ rfl rfl _ _ hr8 ?_))
      refine KI.out.mono ?_
      rintro e w9 ⟨⟨r, rfl, rr⟩, g9⟩
      have A9 := (hA.out.chg C8.out).chg g9
      have rlo := fun y (e : lv.ownBlock = some y) => World.ownsRow.lt hA.out.1 y e
      obtain ⟨v10, w10, us', hr10, R10, e10, g10⟩ := A9.app (by have := hlo.out; have := g9.size; omega) (fun x hx => by have := HX.out x hx; have := HO.out; omega) rr HS.out (fun y hy => by
        have h1 := hlo.out
        have h2 := g9.size
        rcases hy with (hy | hy) | hy
        · exact Or.inl hy
        · exact Or.inr ⟨by omega, by omega, fun e => by have := (rlo y e).2; omega⟩
        · exact Or.inr ⟨by omega, by omega, fun e => by have := (rlo y e).2; omega⟩) (by
        have h1 := congrArg List.length hE.out
        rw [List.length_map, List.length_cons, List.length_map] at h1
        have := HLL.out
        have := CN.out
        have := HFS.out
        omega) 49
      have F10 : Hid (AlInv w1 w10 X L v10 p f (i + 1)) := hide ⟨us ++ us', hide R10, hide (by rw [List.map_append, e10, hE.out, NM.out]; rfl), hide (hC.out.trans ((C8.out.trans g9).none.trans (g10.mono (fun x _ e => (rlo x e).1))))⟩
      obtain ⟨ra, rc, rfl, _⟩ := id rr
      clear A9 R10 g10 g9 rr e10 rlo KI d0 d1 d2 d3 xP xP8 hr6 hr8
      go_wp2_with (at_builtin; refine Lib.wpList_append_run _ rfl _ _ _ _ rfl _ _ rfl rfl _ _ hr10 ?_)
      go_wp2_with fail
      go_roundw
      case rel => exact ⟨i + 1, _, by omega, rfl, by go_num, F10⟩
      case measure => simp [intOf]; omega
    · have hif : i = f.len := by omega
      have i2 : ¬ (i : Int) < (f.len : Int) := by omega
      have F : Hid (Rws wr (New X w wr) lv ((placesP p (b, k, j, f)).map (·.1)) ∧ Chg (fun _ => False) w wr) := hide ⟨by
        have h := hA.out.rws
        rw [hE.out, hif, Tms.first_all] at h
        exact h.up (fun y hy => hy.elim Or.inl (fun hy => Or.inr ⟨by have := HO.out; omega, hy.2⟩)), (GG.out.none.trans hC.out).mono (fun x hx e => by have := HO.out; omega)⟩
      clear hA hE hC
      go_wp2_with fail
      go_ret
      exact ⟨⟨_, rfl, F.out.1⟩, F.out.2⟩
theorem refall_all (N : Nat) : ∀ (f : Tms), f.size ≤ N → AllC f := by
  induction N with
  | zero => exact fun f hf => refall_step 0 (fun g hg => absurd hg (Nat.not_lt_zero _)) f hf
  | succ n ih => exact fun f hf => refall_step (n + 1) (fun g hg => ih g (by omega)) f hf
end Go.Proofs.YtnpcapdlgcaniaaDoor
