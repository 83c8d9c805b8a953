/- Another body at a path, in plain words; slices.Clone of a row of terms; a term's body; one term of a row replaced. -/
import Derived.Test.YtnpcapdlgcaniaaDoorRefAt
namespace Go.Proofs.YtnpcapdlgcaniaaDoor
open Go.RowKit
set_option linter.unusedVariables false
set_option linter.unusedSimpArgs false

/-- the row with another term at m -/
def Tms.setT (f : Tms) (m : Nat) (x : Tm) : Tms := Tms.ofL (f.toL.set m x)
theorem Tms.setT_toL (f : Tms) (m : Nat) (x : Tm) : (f.setT m x).toL = f.toL.set m x := Tms.toL_ofL _
theorem Tms.setT_len (f : Tms) (m : Nat) (x : Tm) : (f.setT m x).len = f.len := by rw [← Tms.toL_len, Tms.setT_toL, List.length_set, Tms.toL_len]
/-- another body at a path -/
def replG : Tm → Tm → List Int → Option Tm
  | t, y, [] => some (t.bs, y.kd, y.ix, y.ag)
  | t, y, i :: p => match t.sub i with
    | none => none
    | some x => (replG x y p).map fun z => (t.bs, t.kd, t.ix, t.ag.setT i.toNat z)
/-- the error's number -/
def rE (r : Option Tm) : Int := if r.isSome then 0 else 10

theorem set4 {w : World} {g k : Nat} {cur : Array Value} {T : TypeId} (hb : w.heap[g]? = some (.cells cur T)) (hin : k + 4 ≤ cur.size) (v0 v1 v2 v3 : Value) :
    ((((w.setCell ⟨g, k, none⟩ v0).setCell ⟨g, k + 1, none⟩ v1).setCell ⟨g, k + 2, none⟩ v2).setCell ⟨g, k + 3, none⟩ v3).cell? ⟨g, k, none⟩ = some v0 ∧
    ((((w.setCell ⟨g, k, none⟩ v0).setCell ⟨g, k + 1, none⟩ v1).setCell ⟨g, k + 2, none⟩ v2).setCell ⟨g, k + 3, none⟩ v3).cell? ⟨g, k + 1, none⟩ = some v1 ∧
    ((((w.setCell ⟨g, k, none⟩ v0).setCell ⟨g, k + 1, none⟩ v1).setCell ⟨g, k + 2, none⟩ v2).setCell ⟨g, k + 3, none⟩ v3).cell? ⟨g, k + 2, none⟩ = some v2 ∧
    ((((w.setCell ⟨g, k, none⟩ v0).setCell ⟨g, k + 1, none⟩ v1).setCell ⟨g, k + 2, none⟩ v2).setCell ⟨g, k + 3, none⟩ v3).cell? ⟨g, k + 3, none⟩ = some v3 ∧
    ∀ j, (j < k ∨ k + 4 ≤ j) → ((((w.setCell ⟨g, k, none⟩ v0).setCell ⟨g, k + 1, none⟩ v1).setCell ⟨g, k + 2, none⟩ v2).setCell ⟨g, k + 3, none⟩ v3).cell? ⟨g, j, none⟩ = w.cell? ⟨g, j, none⟩ := by
  have h := blk_set (blk_set (blk_set (blk_set hb k v0) (k + 1) v1) (k + 2) v2) (k + 3) v3
  rw [blk_cell h, blk_cell h, blk_cell h, blk_cell h]
  simp only [Array.getElem?_setIfInBounds]
  refine ⟨?_, ?_, ?_, ?_, fun j hj => ?_⟩
  · simp; omega
  · simp; omega
  · simp; omega
  · simp; omega
  · rw [blk_cell h, blk_cell hb]
    simp only [Array.getElem?_setIfInBounds]
    rw [if_neg (by omega), if_neg (by omega), if_neg (by omega), if_neg (by omega)]

/-- One term of a row is replaced. -/
theorem tr_set {w w' : World} {g o cap m : Nat} {X Z : Nat → Prop} {f : Tms} (hm : m < f.toL.length) (hl : ∀ j (hj : j < f.toL.length), TermAt w X f.toL[j] g (o + j * 4)) (hc : Chg (fun x => x = g) w w') (hXg : ∀ x, X x → ¬ x = g) (hXZ : ∀ x, X x → Z x) (hg : Z g)
    {x : Tm} {vb va : Value} (c0 : w'.cell? ⟨g, o + m * 4, none⟩ = some vb) (c1 : w'.cell? ⟨g, o + m * 4 + 1, none⟩ = some (.int .i64 x.kd)) (c2 : w'.cell? ⟨g, o + m * 4 + 2, none⟩ = some (.int .i64 x.ix)) (c3 : w'.cell? ⟨g, o + m * 4 + 3, none⟩ = some va)
    (tb : Ts w' Z vb x.bs) (ta : Tr w' Z va x.ag) (hk : ∀ j, (j < o + m * 4 ∨ o + m * 4 + 4 ≤ j) → w'.cell? ⟨g, j, none⟩ = w.cell? ⟨g, j, none⟩) :
    Tr w' Z (.slice (some ⟨g, o, none⟩) f.len cap) (f.setT m x) := by
  refine ⟨some ⟨g, o, none⟩, cap, by rw [Tms.setT_len], Or.inr ⟨g, o, rfl, hg, tlies_mk (fun j hj => ?_)⟩⟩
  simp only [Tms.setT_toL, List.length_set] at hj ⊢
  rw [List.getElem_set]
  split
  · next e =>
    subst e
    exact ⟨⟨vb, c0, tb⟩, c1, c2, va, c3, ta⟩
  · next e =>
    obtain ⟨⟨v0, a0, a1⟩, a2, a3, v3, a4, a5⟩ := hl j hj
    have hd : ∀ c, c < 4 → (o + j * 4 + c < o + m * 4 ∨ o + m * 4 + 4 ≤ o + j * 4 + c) := fun c hc => by omega
    exact ⟨⟨v0, by rw [hk _ (by simpa using hd 0 (by omega))]; exact a0, (a1.chg hc hXg).up hXZ⟩, by rw [hk _ (hd 1 (by omega))]; exact a2, by rw [hk _ (hd 2 (by omega))]; exact a3, v3, by rw [hk _ (hd 3 (by omega))]; exact a4, (a5.chg hc hXg).up hXZ⟩

/-! ### slices.Clone of a row of terms -/
theorem cellsT_at {us : List Tc} {j : Nat} {u : Value} (h : (cellsT us)[j]? = some u) : ∃ (i : Nat) (hi : i < us.length), (j = i * 4 ∧ u = us[i].1) ∨ (j = i * 4 + 1 ∧ u = .int .i64 us[i].2.1) ∨ (j = i * 4 + 2 ∧ u = .int .i64 us[i].2.2.1) ∨ (j = i * 4 + 3 ∧ u = us[i].2.2.2) := by
  have hj := (List.getElem?_eq_some_iff.1 h).1
  rw [cellsT_len] at hj
  have hi : j / 4 < us.length := by omega
  obtain ⟨a, b, c, d⟩ := cellsT_get us (j / 4) hi
  refine ⟨j / 4, hi, ?_⟩
  have hr : j % 4 = 0 ∨ j % 4 = 1 ∨ j % 4 = 2 ∨ j % 4 = 3 := by omega
  rcases hr with hr | hr | hr | hr
  · have e : j = j / 4 * 4 := by omega
    rw [e] at h
    have e2 : j / 4 * 4 / 4 = j / 4 := by omega
    rw [a] at h
    exact Or.inl ⟨e, (Option.some.inj h).symm⟩
  · have e : j = j / 4 * 4 + 1 := by omega
    rw [e] at h
    rw [b] at h
    exact Or.inr (Or.inl ⟨e, (Option.some.inj h).symm⟩)
  · have e : j = j / 4 * 4 + 2 := by omega
    rw [e] at h
    rw [c] at h
    exact Or.inr (Or.inr (Or.inl ⟨e, (Option.some.inj h).symm⟩))
  · have e : j = j / 4 * 4 + 3 := by omega
    rw [e] at h
    rw [d] at h
    exact Or.inr (Or.inr (Or.inr ⟨e, (Option.some.inj h).symm⟩))
theorem list_ofT {α : Type} (n : Nat) (p : Nat → α → Prop) (h : ∀ i, i < n → ∃ x, p i x) : ∃ l : List α, l.length = n ∧ ∀ i (hi : i < l.length), p i l[i] := by
  induction n with
  | zero => exact ⟨[], rfl, fun i hi => absurd hi (Nat.not_lt_zero _)⟩
  | succ n ih =>
    obtain ⟨l, hl, hp⟩ := ih (fun i hi => h i (by omega))
    obtain ⟨x, hx⟩ := h n (by omega)
    refine ⟨l ++ [x], by simp [hl], fun i hi => ?_⟩
    by_cases h' : i < l.length
    · rw [List.getElem_append_left h']; exact hp i h'
    · have : i = l.length := by simp at hi; omega
      subst this
      simp only [List.getElem_append_right (Nat.le_refl _), Nat.sub_self, List.getElem_cons_zero]
      rw [hl]; exact hx
/-- A row of terms, as cells. -/
theorem tr_cells {w : World} {X : Nat → Prop} {f : Tms} {g off : Nat} (h : TLies w X f g off) :
    ∃ us : List Tc, us.length = f.toL.length ∧ (∀ u ∈ cellsT us, u.oneCell' = true) ∧ (∀ j u, (cellsT us)[j]? = some u → w.cell? ⟨g, off + j, none⟩ = some u) ∧ ∀ i (h1 : i < f.toL.length) (h2 : i < us.length), TL w X us[i] f.toL[i] := by
  obtain ⟨us, hl, hp⟩ := list_ofT f.toL.length (fun i (p : Tc) => ∃ hi : i < f.toL.length, TL w X p f.toL[i] ∧ w.cell? ⟨g, off + i * 4, none⟩ = some p.1 ∧ w.cell? ⟨g, off + i * 4 + 1, none⟩ = some (.int .i64 p.2.1) ∧ w.cell? ⟨g, off + i * 4 + 2, none⟩ = some (.int .i64 p.2.2.1) ∧ w.cell? ⟨g, off + i * 4 + 3, none⟩ = some p.2.2.2) (fun i hi => by
    obtain ⟨⟨v0, a0, a1⟩, a2, a3, v3, a4, a5⟩ := tlies_get h i hi
    exact ⟨(v0, (f.toL[i]).kd, (f.toL[i]).ix, v3), hi, ⟨a1, rfl, rfl, a5⟩, a0, a2, a3, a4⟩)
  refine ⟨us, hl, fun u hu => ?_, fun j u hu => ?_, fun i h1 h2 => (hp i h2).2.1⟩
  · obtain ⟨j, hj, e⟩ := List.getElem_of_mem hu
    have hu' : (cellsT us)[j]? = some u := by rw [List.getElem?_eq_getElem hj, e]
    obtain ⟨i, hi, e⟩ := cellsT_at hu'
    obtain ⟨_, ⟨⟨a, c, e1, _⟩, _, _, a2, c2, e2, _⟩, _⟩ := hp i hi
    rcases e with ⟨_, rfl⟩ | ⟨_, rfl⟩ | ⟨_, rfl⟩ | ⟨_, rfl⟩
    · rw [e1]; rfl
    · rfl
    · rfl
    · rw [e2]; rfl
  · obtain ⟨i, hi, e⟩ := cellsT_at hu
    obtain ⟨_, _, a0, a1, a2, a3⟩ := hp i hi
    rcases e with ⟨rfl, rfl⟩ | ⟨rfl, rfl⟩ | ⟨rfl, rfl⟩ | ⟨rfl, rfl⟩
    · exact a0
    · exact a1
    · exact a2
    · exact a3
/-- a row of terms of one's own, whose terms' own rows lie in X -/
def OwnT (w : World) (base : Nat) (X : Nat → Prop) (v : Value) (f : Tms) : Prop :=
  ∃ us : List Tc, w.ownsRow base 35 4 v us.length (cellsT us) ∧ us.length = f.toL.length ∧ ∀ i (h1 : i < f.toL.length) (h2 : i < us.length), TL w X us[i] f.toL[i]
theorem mclone_none (cap : Nat) (w : World) : Calls Tryd.prog 71 #[.slice none 0 cap] w fun e w' => e = .returned (.slice none 0 0) ∧ Chg (fun _ => False) w w' := by
  have he : (binOp .eql 33 (.slice none 0 cap) (.slice none 0 0)).run Tryd.prog w = .ok (.bool true) w := by
    rw [Lib.run_eql_slice_nil w 33 35 _ _ _ _ _ Tryd.underlying33]; rfl
  go_enter Tryd.func71, Tryd.ntmps71
  go_wp2_with fail
  go_ret
  exact ⟨rfl, Chg.refl _ _⟩
set_option maxRecDepth 100000 in
set_option maxHeartbeats 4000000 in
theorem mclone_some (ad : Addr) (cap : Nat) (us : List Tc) (hl : us.length ≤ 100000) (hone : ∀ u ∈ cellsT us, u.oneCell' = true) (w : World) (hn : ∀ j u, (cellsT us)[j]? = some u → (w.alloc (.cells #[] 35)).cell? (ad.add j) = some u) :
    Calls Tryd.prog 71 #[.slice (some ad) us.length cap] w fun e w' => (∃ v, e = .returned v ∧ w'.ownsRow w.heap.size 35 4 v us.length (cellsT us)) ∧ Chg (fun _ => False) w w' := by
  have he : (binOp .eql 33 (.slice (some ad) us.length cap) (.slice none 0 0)).run Tryd.prog w = .ok (.bool false) w := by
    rw [Lib.run_eql_slice_nil w 33 35 _ _ _ _ _ Tryd.underlying33]; rfl
  obtain ⟨i0, hi0, hz0, hz1, hz2⟩ := info_parts info35
  have own := hide (own_empty w 35 4)
  have N := hide hn
  have HO := hide hone
  have Fin := hide (fun v' w1 (h1 : w1.ownsRow w.heap.size 35 4 v' (0 + us.length) ([] ++ cellsT us)) (h2 : (w.alloc (.cells #[] 35)).grownBy w1 (some w.heap.size)) => (show w1.ownsRow w.heap.size 35 4 v' us.length (cellsT us) ∧ Chg (fun _ => False) w w1 from by
    rw [Nat.zero_add, List.nil_append] at h1
    exact ⟨h1, grown_no h2⟩))
  clear hn hone
  go_enter Tryd.func71, Tryd.ntmps71
  go_wp2_with (at_builtin; refine wpList_append_own _ rfl _ _ 33 rfl w.heap.size 35 i0 (.agg #[.slice none 0 0, .int .i64 0, .int .i64 0, .slice none 0 0]) 4 64 Tryd.underlying33 hi0 hz0 hz1 hz2 rfl (by decide) _ 0 [] rfl own.out ad us.length cap (cellsT us) rfl (cellsT_len us) N.out HO.out (by simp [maxLen]; omega) (by omega) (by simp) ?_; intro v' w1 hown1 hgrow _)
  have F := hide (Fin.out v' w1 hown1 hgrow)
  clear hown1 hgrow
  go_wp2_with fail
  go_ret
  exact ⟨⟨v', rfl, F.out.1⟩, F.out.2⟩
theorem mclone_any (f : Tms) (hf : f.len ≤ 100000) (v : Value) (X : Nat → Prop) (w : World) (hv : Tr w X v f) :
    Calls Tryd.prog 71 #[v] w fun e w' => (∃ v', e = .returned v' ∧ OwnT w' w.heap.size X v' f) ∧ Chg (fun _ => False) w w' := by
  obtain ⟨a, cap, rfl, h⟩ := hv
  have t1 := Tms.toL_len f
  cases a with
  | none =>
    have hf0 : f = .nil := by
      rcases h with h | ⟨g, off, hg, _⟩
      · exact h
      · cases hg
    subst hf0
    exact (mclone_none cap w).mono fun e w' ⟨he, hc⟩ => ⟨⟨_, he, [], ⟨rfl, Or.inl ⟨rfl, rfl⟩⟩, rfl, fun i h1 => absurd h1 (Nat.not_lt_zero _)⟩, hc⟩
  | some ad =>
    rcases h with rfl | ⟨g, off, hg, _, hl⟩
    · refine (mclone_some ad cap [] (Nat.zero_le _) (fun u hu => by simp [cellsT] at hu) w (fun j u hu => by simp [cellsT] at hu)).mono ?_
      rintro e w' ⟨⟨v', rfl, h1⟩, g⟩
      exact ⟨⟨v', rfl, [], h1, rfl, fun i h1 => absurd h1 (Nat.not_lt_zero _)⟩, g⟩
    · cases hg
      obtain ⟨us, e1, e2, e3, e4⟩ := tr_cells hl
      have e5 : f.len = us.length := by omega
      rw [e5]
      refine (mclone_some ⟨g, off, none⟩ cap us (by omega) e2 w ?_).mono ?_
      · intro j u hu
        rw [add_at]
        exact (al w _).cell (fun h => h) (e3 j u hu)
      · rintro e w' ⟨⟨v', rfl, h1⟩, g⟩
        exact ⟨⟨v', rfl, us, h1, e1, fun i a b => (e4 i a b).chg g (fun _ _ h => h)⟩, g⟩
/-- a row of one's own that isn't empty: where it lies -/
theorem OwnT.at {w : World} {base : Nat} {X : Nat → Prop} {v : Value} {f : Tms} (h : OwnT w base X v f) (h0 : 0 < f.toL.length) : ∃ g o cap cur, v = .slice (some ⟨g, o, none⟩) f.len cap ∧ base ≤ g ∧ g < w.heap.size ∧ w.heap[g]? = some (.cells cur 35) ∧ o + f.len * 4 ≤ cur.size ∧ ∀ j (hj : j < f.toL.length), TermAt w X f.toL[j] g (o + j * 4) := by
  obtain ⟨us, h1, h2, h3⟩ := h
  have t1 := Tms.toL_len f
  obtain ⟨a1, a2⟩ := id h1
  rcases a2 with ⟨rfl, a3⟩ | ⟨g, cap, cur, rfl, b1, b2, b3, b4, b5, b6⟩
  · omega
  · refine ⟨g, 0, cap, cur, by rw [← t1, ← h2], b1, blk_lt b2, b2, ?_, fun j hj => ?_⟩
    · rw [b5]
      have : f.len ≤ cap := by omega
      omega
    · obtain ⟨a, b, c, d⟩ := cellsT_get us j (by omega)
      have hc := World.ownsRow.cells h1 (g := g) rfl
      have ha := hc _ _ a
      have hb := hc _ _ b
      have hcc := hc _ _ c
      have hd := hc _ _ d
      rw [add_atT, Nat.zero_add] at ha hb hcc hd
      obtain ⟨e1, e2, e3, e4⟩ := h3 j hj (by omega)
      rw [Nat.zero_add]
      exact ⟨⟨_, ha, e1⟩, by rw [← e2]; exact hb, by rw [← e3]; exact hcc, _, hd, e4⟩

/-! ### term.Body -/
set_option maxRecDepth 100000 in
set_option maxHeartbeats 4000000 in
theorem body_any (t : Tm) (ok : TmOk t) (v : Value) (X : Nat → Prop) (w : World) (hX : ∀ x, X x → x < w.heap.size) (hv : TV w X v t) :
    Calls Tryd.prog 18 #[v] w fun e w' => (∃ v', e = .returned v' ∧ TV w' (fun x => w.heap.size ≤ x ∧ x < w'.heap.size) v' (.nil, t.kd, t.ix, t.ag)) ∧ Chg (fun _ => False) w w' := by
  obtain ⟨b, k, i, f⟩ := t
  obtain ⟨ba, bc, a, cap, rfl, h1, h2⟩ := hv
  dsimp only [Tm.bs, Tm.kd, Tm.ix, Tm.ag] at *
  have G1 := al w (.cells #[.slice ba b.len bc, .int .i64 k, .int .i64 i, .slice a f.len cap] 35)
  have b0 := blk_new w (.cells #[.slice ba b.len bc, .int .i64 k, .int .i64 i, .slice a f.len cap] 35)
  have G2 := al (w.alloc (.cells #[.slice ba b.len bc, .int .i64 k, .int .i64 i, .slice a f.len cap] 35)) (.cells #[.slice none 0 0, .int .i64 0, .int .i64 0, .slice none 0 0] 35)
  have b1 := blk_new (w.alloc (.cells #[.slice ba b.len bc, .int .i64 k, .int .i64 i, .slice a f.len cap] 35)) (.cells #[.slice none 0 0, .int .i64 0, .int .i64 0, .slice none 0 0] 35)
  have b0' := G2.blk (fun h => h) b0
  rw [al_sz] at b1
  have GG := hide (G1.trans G2)
  have BP := hide b0'
  have BR := hide b1
  have sz2 : ((w.alloc (.cells #[.slice ba b.len bc, .int .i64 k, .int .i64 i, .slice a f.len cap] 35)).alloc (.cells #[.slice none 0 0, .int .i64 0, .int .i64 0, .slice none 0 0] 35)).heap.size = w.heap.size + 2 := by rw [al_sz, al_sz]
  have SZ := hide sz2
  have CP := hide (copy_any (b, k, i, f) ok (.agg #[.slice ba b.len bc, .int .i64 k, .int .i64 i, .slice a f.len cap]) X ((w.alloc (.cells #[.slice ba b.len bc, .int .i64 k, .int .i64 i, .slice a f.len cap] 35)).alloc (.cells #[.slice none 0 0, .int .i64 0, .int .i64 0, .slice none 0 0] 35)) (fun x hx => Nat.lt_of_lt_of_le (hX x hx) GG.out.size) ⟨ba, bc, a, cap, rfl, h1.chg GG.out (fun _ _ h => h), h2.chg GG.out (fun _ _ h => h)⟩)
  clear G1 G2 b0 b1 b0' sz2 h1 h2 hX
  go_enter Tryd.func18, Tryd.ntmps18
  go_upto_region 1 with fail
  generalize ((w.alloc (.cells #[.slice ba b.len bc, .int .i64 k, .int .i64 i, .slice a f.len cap] 35)).alloc (.cells #[.slice none 0 0, .int .i64 0, .int .i64 0, .slice none 0 0] 35)) = w1 at *
  obtain ⟨P, hP⟩ : ∃ P, w.heap.size = P := ⟨_, rfl⟩
  obtain ⟨R, hR⟩ : ∃ R, P + 1 = R := ⟨_, rfl⟩
  have hZ := SZ.out
  rw [hP] at BP BR hZ ⊢
  rw [hR] at BR ⊢
  have HO : Hid (w1.heap.size = R + 1 ∧ P < R ∧ w.heap.size = P) := hide (by refine ⟨by omega, by omega, hP⟩)
  clear hP hR SZ hZ
  have x0 := blk_cell BP.out 0
  have x1 := blk_cell BP.out 1
  have x2 := blk_cell BP.out 2
  have x3 := blk_cell BP.out 3
  simp only [List.getElem?_toArray, List.getElem?_cons_zero, List.getElem?_cons_succ] at x0 x1 x2 x3
  go_wp2_with fail
  refine CP.out.mono ?_
  rintro e w2 ⟨⟨v', rfl, t2⟩, g2⟩
  obtain ⟨ca, cc, va, vc, rfl, tb, tr⟩ := t2
  dsimp only [Tm.bs, Tm.kd, Tm.ix, Tm.ag] at tb tr ⊢
  have GA := al w2 (.cells #[.slice ca b.len cc, .int .i64 k, .int .i64 i, .slice va f.len vc] 35)
  have BS := hide (blk_new w2 (.cells #[.slice ca b.len cc, .int .i64 k, .int .i64 i, .slice va f.len vc] 35))
  have T3 := hide (tr.chg GA (fun _ _ h => h))
  have BR3 := hide ((g2.trans GA).blk (fun h => h) BR.out)
  have G3 := hide ((GG.out.trans g2).trans GA)
  have S2 : Hid (w1.heap.size ≤ w2.heap.size) := hide g2.size
  clear tb tr g2 GA x0 x1 x2 x3 CP BP
  go_upto_region 2 with fail
  obtain ⟨S, hS⟩ : ∃ S, w2.heap.size = S := ⟨_, rfl⟩
  rw [hS] at BS ⊢
  have HS := hide hS
  have HL : Hid (S < (w2.alloc (.cells #[.slice ca b.len cc, .int .i64 k, .int .i64 i, .slice va f.len vc] 35)).heap.size ∧ R < S) := hide ⟨blk_lt BS.out, by have := HO.out; have := S2.out; omega⟩
  clear hS
  generalize w2.alloc (.cells #[.slice ca b.len cc, .int .i64 k, .int .i64 i, .slice va f.len vc] 35) = w3 at *
  have x0 := blk_cell BS.out 0
  have xf0 := blk_free BS.out 0
  simp only [List.getElem?_toArray, List.getElem?_cons_zero, List.getElem?_cons_succ] at x0
  have BS4 := hide (blk_set BS.out 0 (.slice none 0 0))
  have G4 := hide (Chg.set w3 S 0 (.slice none 0 0))
  have BR4 := hide (G4.out.blk (by have := HL.out; omega) BR3.out)
  have T4 := hide (T3.out.chg G4.out (fun x hx e => by have := hx.2; have := HS.out; omega))
  go_upto_region 3 with fail
  generalize w3.setCell ⟨S, 0, none⟩ (.slice none 0 0) = w4 at *
  have y0 : w4.cell? ⟨S, 0, none⟩ = some (.slice none 0 0) := blk_cell BS4.out 0
  have y1 : w4.cell? ⟨S, 1, none⟩ = some (.int .i64 k) := blk_cell BS4.out 1
  have y2 : w4.cell? ⟨S, 2, none⟩ = some (.int .i64 i) := blk_cell BS4.out 2
  have y3 : w4.cell? ⟨S, 3, none⟩ = some (.slice va f.len vc) := blk_cell BS4.out 3
  have z0 := blk_cell BR4.out 0
  have z1 := blk_cell BR4.out 1
  have z2 := blk_cell BR4.out 2
  have z3 := blk_cell BR4.out 3
  have zf0 := blk_free BR4.out 0
  have zf1 := blk_free BR4.out 1
  have zf2 := blk_free BR4.out 2
  have zf3 := blk_free BR4.out 3
  simp only [List.getElem?_toArray, List.getElem?_cons_zero, List.getElem?_cons_succ] at z0 z1 z2 z3
  have NS : Hid (((((w4.setCell ⟨R, 0, none⟩ (.slice none 0 0)).setCell ⟨R, 1, none⟩ (.int .i64 k)).setCell ⟨R, 2, none⟩ (.int .i64 i)).setCell ⟨R, 3, none⟩ (.slice va f.len vc)).heap[R]? = some (.cells #[.slice none 0 0, .int .i64 k, .int .i64 i, .slice va f.len vc] 35) ∧ Chg (fun x => x = R) w4 ((((w4.setCell ⟨R, 0, none⟩ (.slice none 0 0)).setCell ⟨R, 1, none⟩ (.int .i64 k)).setCell ⟨R, 2, none⟩ (.int .i64 i)).setCell ⟨R, 3, none⟩ (.slice va f.len vc))) := hide ⟨blk_set (blk_set (blk_set (blk_set BR4.out 0 (.slice none 0 0)) 1 (.int .i64 k)) 2 (.int .i64 i)) 3 (.slice va f.len vc), (((Chg.set w4 R 0 (.slice none 0 0)).trans (Chg.set _ R 1 (.int .i64 k))).trans (Chg.set _ R 2 (.int .i64 i))).trans (Chg.set _ R 3 (.slice va f.len vc))⟩
  have GF : Hid (Chg (fun _ => False) w ((((w4.setCell ⟨R, 0, none⟩ (.slice none 0 0)).setCell ⟨R, 1, none⟩ (.int .i64 k)).setCell ⟨R, 2, none⟩ (.int .i64 i)).setCell ⟨R, 3, none⟩ (.slice va f.len vc))) := hide (by
    have h1 : Chg (fun x => x = S ∨ x = R) w ((((w4.setCell ⟨R, 0, none⟩ (.slice none 0 0)).setCell ⟨R, 1, none⟩ (.int .i64 k)).setCell ⟨R, 2, none⟩ (.int .i64 i)).setCell ⟨R, 3, none⟩ (.slice va f.len vc)) := (G3.out.none.trans (G4.out.mono (fun x _ h => Or.inl h))).trans (NS.out.2.mono (fun x _ h => Or.inr h))
    exact h1.mono (fun x hx h => by have := HO.out; have := HL.out; omega))
  have TF := hide ((T4.out.chg NS.out.2 (fun x hx e => by have := hx.1; have := HO.out; omega)).up (Y := fun x => w.heap.size ≤ x ∧ x < ((((w4.setCell ⟨R, 0, none⟩ (.slice none 0 0)).setCell ⟨R, 1, none⟩ (.int .i64 k)).setCell ⟨R, 2, none⟩ (.int .i64 i)).setCell ⟨R, 3, none⟩ (.slice va f.len vc)).heap.size) (fun x hx => ⟨by have := hx.1; have := HO.out; omega, by have := hx.2; have := HS.out; have := HL.out; have := G4.out.size; have := NS.out.2.size; omega⟩))
  go_wp2_with fail
  generalize ((((w4.setCell ⟨R, 0, none⟩ (.slice none 0 0)).setCell ⟨R, 1, none⟩ (.int .i64 k)).setCell ⟨R, 2, none⟩ (.int .i64 i)).setCell ⟨R, 3, none⟩ (.slice va f.len vc)) = wF at *
  have r0 := blk_cell NS.out.1 0
  have r1 := blk_cell NS.out.1 1
  have r2 := blk_cell NS.out.1 2
  have r3 := blk_cell NS.out.1 3
  refine bodyPost_ret (v := .agg #[.slice none 0 0, .int .i64 k, .int .i64 i, .slice va f.len vc]) (by simp [results, Tryd.results18, go_sem, r0, r1, r2, r3]) rfl ?_
  exact ⟨⟨_, rfl, none, 0, va, vc, rfl, Ts.nil _ _, TF.out⟩, GF.out⟩
end Go.Proofs.YtnpcapdlgcaniaaDoor
