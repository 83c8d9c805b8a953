/- The places of a term; what a round keeps; a path with one number more. -/
import Derived.Test.YtnpcapdlgcaniaaDoorTold
namespace Go.Proofs.YtnpcapdlgcaniaaDoor
open Go.RowKit Go.Shelf
attribute [local go_sem] Oper.semAt_some
set_option linter.unusedVariables false
set_option linter.unusedSimpArgs false

/-- what a round keeps: the blocks of cells that G guards -/
def KpG (G : Nat → TypeId → Prop) (A B : World) : Prop := A.heap.size ≤ B.heap.size ∧ ∀ k c t fr, A.heap[k]? = some (.cells c t fr) → G k t → B.heap[k]? = some (.cells c t fr)
theorem KpG.refl (G : Nat → TypeId → Prop) (A : World) : KpG G A A := ⟨Nat.le_refl _, fun _ _ _ _ h _ => h⟩
theorem KpG.trans {G : Nat → TypeId → Prop} {A B C : World} (h : KpG G A B) (k : KpG G B C) : KpG G A C := ⟨Nat.le_trans h.1 k.1, fun i c t fr hi hn => k.2 i c t fr (h.2 i c t fr hi hn) hn⟩
theorem KpG.put (G : Nat → TypeId → Prop) (W : World) (l : Nat) (o o' : Obj) (ho : W.heap[l]? = some o) (hc : o.isCells = false) : KpG G W (W.putObj l o') := by
  refine ⟨by simp, fun k c t fr hk _ => ?_⟩
  have hne : l ≠ k := by
    rintro rfl
    rw [hk] at ho
    cases ho
    cases hc
  rw [World.putObj_heap_other (fun e => hne e.symm)]
  exact hk
theorem KpG.of_chg {G : Nat → TypeId → Prop} {S : Nat → Prop} {A B : World} (h : Chg S A B) (hS : ∀ k c t fr, S k → A.heap[k]? = some (.cells c t fr) → ¬ G k t) : KpG G A B :=
  ⟨h.size, fun k c t fr hk hg => (h.block k (Array.getElem?_eq_some_iff.1 hk).1 (fun hs => hS k c t fr hs hk hg)).trans hk⟩
theorem KpG.of_same {G : Nat → TypeId → Prop} {A B : World} (h : Chg (fun _ => False) A B) : KpG G A B := KpG.of_chg h (fun _ _ _ _ h => h.elim)
theorem KpG.blk {G : Nat → TypeId → Prop} {A B : World} (h : KpG G A B) {k : Nat} {c : Array Value} {t : TypeId} {fr : Nat × Nat} (hk : A.heap[k]? = some (.cells c t fr)) (hg : G k t) : B.heap[k]? = some (.cells c t fr) := h.2 k c t fr hk hg
/-- a cell of a guarded block -/
theorem KpG.cell {G : Nat → TypeId → Prop} {A B : World} (h : KpG G A B) {g i : Nat} {v : Value} (hn : ∀ t, G g t) (hc : A.cell? ⟨g, i, none⟩ = some v) : B.cell? ⟨g, i, none⟩ = some v := by
  unfold World.cell? at hc ⊢
  split at hc
  · rename_i c t fr ho
    rw [h.2 g c t fr ho (hn t)]
    exact hc
  · cases hc
theorem lies_kp {G : Nat → TypeId → Prop} {w w' : World} (gc : KpG G w w') {X : Nat → Prop} (hn : ∀ x t, X x → G x t) : ∀ {f : Fs} {g off : Nat}, X g → Lies w X f g off → Lies w' X f g off
  | .nil, g, off, _, _ => trivial
  | .cons k b r, g, off, hg, ⟨⟨a, cap, h1, h2⟩, h3, h4⟩ => by
    refine ⟨⟨a, cap, gc.cell (fun t => hn g t hg) h1, ?_⟩, gc.cell (fun t => hn g t hg) h3, lies_kp gc hn hg h4⟩
    rcases h2 with h2 | ⟨g', off', e, hg', hl⟩
    · exact Or.inl h2
    · exact Or.inr ⟨g', off', e, hg', lies_kp gc hn hg' hl⟩
theorem Ts.kp {G : Nat → TypeId → Prop} {w w' : World} {X : Nat → Prop} {v : Value} {f : Fs} (h : Ts w X v f) (g : KpG G w w') (hn : ∀ x t, X x → G x t) : Ts w' X v f := by
  obtain ⟨a, cap, e, h1⟩ := h
  refine ⟨a, cap, e, ?_⟩
  rcases h1 with h1 | ⟨g1, off, e1, h2, h3⟩
  · exact Or.inl h1
  · exact Or.inr ⟨g1, off, e1, h2, lies_kp g hn h2 h3⟩
theorem tlies_kp {G : Nat → TypeId → Prop} {w w' : World} (gc : KpG G w w') {X : Nat → Prop} (hn : ∀ x t, X x → G x t) : ∀ {f : Tms} {g off : Nat}, X g → TLies w X f g off → TLies w' X f g off
  | .nil, g, off, _, _ => trivial
  | .cons b k i x r, g, off, hg, ⟨⟨v, h0, h1⟩, h2, h3, ⟨ad, cap, h4, h5⟩, h6⟩ => by
    refine ⟨⟨v, gc.cell (fun t => hn g t hg) h0, h1.kp gc hn⟩, gc.cell (fun t => hn g t hg) h2, gc.cell (fun t => hn g t hg) h3, ⟨ad, cap, gc.cell (fun t => hn g t hg) h4, ?_⟩, tlies_kp gc hn hg h6⟩
    rcases h5 with h5 | ⟨g', off', e, hg', hl⟩
    · exact Or.inl h5
    · exact Or.inr ⟨g', off', e, hg', tlies_kp gc hn hg' hl⟩
theorem Tr.kp {G : Nat → TypeId → Prop} {w w' : World} {X : Nat → Prop} {v : Value} {f : Tms} (h : Tr w X v f) (g : KpG G w w') (hn : ∀ x t, X x → G x t) : Tr w' X v f := by
  obtain ⟨a, cap, e, h1⟩ := h
  refine ⟨a, cap, e, ?_⟩
  rcases h1 with h1 | ⟨g1, off, e1, h2, h3⟩
  · exact Or.inl h1
  · exact Or.inr ⟨g1, off, e1, h2, tlies_kp g hn h2 h3⟩
/-- a path's slice -/
def PathV (w : World) (X : Nat → Prop) (a : Option Addr) (n c : Nat) (p : List Int) : Prop :=
  n = p.length ∧ n ≤ c ∧ (a = none → n = 0 ∧ c = 0) ∧ Il w X (.slice a n c) p ∧ (p = [] ∨ ∃ g off cs fr, a = some ⟨g, off, none⟩ ∧ w.heap[g]? = some (.cells cs 3 fr))
theorem PathV.nil (w : World) (X : Nat → Prop) : PathV w X none 0 0 [] := ⟨rfl, Nat.le_refl _, fun _ => ⟨rfl, rfl⟩, Il.nil _ _, Or.inl rfl⟩
theorem PathV.chg {w w' : World} {X : Nat → Prop} {a : Option Addr} {n c : Nat} {p : List Int} (h : PathV w X a n c p) (g : Chg (fun _ => False) w w') : PathV w' X a n c p :=
  ⟨h.1, h.2.1, h.2.2.1, h.2.2.2.1.chg g (fun _ _ h => h), by
    rcases h.2.2.2.2 with h | ⟨b, off, cs, fr, e, hb⟩
    · exact Or.inl h
    · exact Or.inr ⟨b, off, cs, fr, e, g.blk (fun h => h) hb⟩⟩
theorem PathV.up {w : World} {X Y : Nat → Prop} {a : Option Addr} {n c : Nat} {p : List Int} (h : PathV w X a n c p) (hb : ∀ x, X x → Y x) : PathV w Y a n c p := ⟨h.1, h.2.1, h.2.2.1, h.2.2.2.1.up hb, h.2.2.2.2⟩
theorem PathV.kp {G : Nat → TypeId → Prop} {w w' : World} {X : Nat → Prop} {a : Option Addr} {n c : Nat} {p : List Int} (h : PathV w X a n c p) (g : KpG G w w') (hn : ∀ x, X x → G x 3) : PathV w' X a n c p := by
  obtain ⟨h1, h2, h3, ⟨a', cap, e, h4⟩, h5⟩ := h
  injection e with e1 e2 e3
  subst e1
  refine ⟨h1, h2, h3, ⟨a, cap, by rw [← e2, ← e3], ?_⟩, ?_⟩
  · rcases h4 with h4 | ⟨b, off, hb, hX, hc⟩
    · exact Or.inl h4
    · rcases h5 with h5 | ⟨b', off', cs, fr, e, ho⟩
      · exact Or.inl h5
      · rw [hb] at e
        cases e
        have hk := g.blk ho (hn b hX)
        refine Or.inr ⟨b, off, hb, hX, fun i hi => ?_⟩
        have h6 := hc i hi
        unfold World.cell? at h6 ⊢
        rw [ho] at h6
        rw [hk]
        exact h6
  · rcases h5 with h5 | ⟨b', off', cs, fr, e, ho⟩
    · exact Or.inl h5
    · subst e
      rcases h4 with h4 | ⟨b, off, hb, hX, hc⟩
      · exact Or.inl h4
      · cases hb
        exact Or.inr ⟨b', off', cs, fr, rfl, g.blk ho (hn _ hX)⟩
theorem add_atI (g off j : Nat) : (⟨g, off, none⟩ : Addr).add j = ⟨g, off + j, none⟩ := by unfold Addr.add; split <;> simp_all
theorem chg_drew_alloc (w : World) (o : Obj) : Chg (fun _ => False) w (w.drew.alloc o) := ((Chg.refl _ w).drew).alloc o
/-- a clipped path and one number more: a new row -/
theorem path_more {w : World} {X : Nat → Prop} {a : Option Addr} {n c : Nat} {p : List Int} (h : PathV w X a n c p) (hX : ∀ x, X x → x < w.heap.size) (hl : p.length ≤ 1000000) (i : Int) (b : Nat) (hb : w.heap[b]? = some (.cells #[.int .i64 i] 3)) (cc : Nat) (ty : TypeId) :
    ∃ g c' w', (Builtin.append_ #[28, 28] ty #[.slice a n n, .slice (some ⟨b, 0, none⟩) 1 cc]).run Tryd.prog w = .ok (.slice (some ⟨g, 0, none⟩) (n + 1) c') w' ∧
      PathV w' (fun x => X x ∨ w.heap.size ≤ x ∧ x < w'.heap.size) (some ⟨g, 0, none⟩) (n + 1) c' (p ++ [i]) ∧ Chg (fun _ => False) w w' := by
  obtain ⟨hn, hnc, hnil, ⟨a', cap', e, h⟩, _⟩ := h
  injection e with e1 e2 e3
  subst e1
  obtain ⟨i0, hi0, hz0, hz1, hz2⟩ := info_parts infoI3
  have hsrc : ∀ j u, ([Value.int .i64 i] : List Value)[j]? = some u → w.cell? ((⟨b, 0, none⟩ : Addr).add j) = some u := fun j u hu => by
    rw [add_atI]
    cases j with
    | zero =>
      simp only [List.getElem?_cons_zero, Option.some.injEq] at hu
      subst hu
      exact blk_cell hb 0
    | succ j => simp at hu
  cases a with
  | none =>
    obtain ⟨rfl, rfl⟩ := hnil rfl
    have hp : p = [] := List.eq_nil_of_length_eq_zero hn.symm
    subst hp
    have hr := run_append_nil (P := Tryd.prog) (w := w) 28 ty 3 i0 (.int .i64 0) Tryd.underlying28 hi0 hz0 ⟨b, 0, none⟩ 1 cc [.int .i64 i] (by rw [hz1]; rfl) hsrc (by omega) (by omega) (by rw [hz2]; omega)
    have G := chg_drew_alloc w (.cells (([Value.int .i64 i] : List Value).toArray ++ Builtin.zeroCells (Value.int .i64 0).cells (grownCap w 1 0 3 - 1)) 3)
    have B := blk_new w.drew (.cells (([Value.int .i64 i] : List Value).toArray ++ Builtin.zeroCells (Value.int .i64 0).cells (grownCap w 1 0 3 - 1)) 3)
    refine ⟨_, _, _, hr, ⟨rfl, ?_, (fun e => by cases e), ⟨_, _, rfl, Or.inr ⟨w.heap.size, 0, rfl, Or.inr ⟨Nat.le_refl _, by simp⟩, fun j hj => ?_⟩⟩, Or.inr ⟨_, _, _, _, rfl, B⟩⟩, G⟩
    · exact grownCap_ge w 1 0 3
    · have hj0 : j = 0 := by simp at hj; exact hj
      subst hj0
      have := blk_cell B 0
      rw [Array.getElem?_append_left (by simp)] at this
      exact this
  | some ad =>
    have hr := run_append_grow (P := Tryd.prog) (w := w) 28 ty 3 i0 (.int .i64 0) Tryd.underlying28 hi0 hz0 ad n n (p.map (Value.int .i64)) (by rw [hz1, List.length_map]; omega) (fun j u hu => by
      rcases h with h | ⟨g, off, hg, _, h3⟩
      · subst h; simp at hu
      · cases hg
        rw [add_atI]
        have hj : j < p.length := by have := (List.getElem?_eq_some_iff.1 hu).1; simpa using this
        rw [List.getElem?_map, List.getElem?_eq_getElem hj] at hu
        cases hu
        exact h3 j hj) ⟨b, 0, none⟩ 1 cc [.int .i64 i] (by rw [hz1]; rfl) hsrc (by omega) (by omega) (by rw [hz2]; have := nextslicecap_le (need := n + 1) (old := n) (Nat.lt_succ_self _); omega)
    have G := chg_drew_alloc w (.cells ((p.map (Value.int .i64)).toArray ++ ([Value.int .i64 i] : List Value).toArray ++ Builtin.zeroCells (Value.int .i64 0).cells (grownCap w (n + 1) n 3 - (n + 1))) 3)
    have B := blk_new w.drew (.cells ((p.map (Value.int .i64)).toArray ++ ([Value.int .i64 i] : List Value).toArray ++ Builtin.zeroCells (Value.int .i64 0).cells (grownCap w (n + 1) n 3 - (n + 1))) 3)
    refine ⟨_, _, _, hr, ⟨by rw [List.length_append, hn]; rfl, ?_, (fun e => by cases e), ⟨_, _, by rw [List.length_append, hn]; rfl, Or.inr ⟨w.heap.size, 0, rfl, Or.inr ⟨Nat.le_refl _, by simp⟩, fun j hj => ?_⟩⟩, Or.inr ⟨_, _, _, _, rfl, B⟩⟩, G⟩
    · exact grownCap_ge w (n + 1) n 3
    · have := blk_cell B (0 + j)
      have e4 : (((p.map (Value.int .i64)).toArray ++ ([Value.int .i64 i] : List Value).toArray ++ Builtin.zeroCells (Value.int .i64 0).cells (grownCap w (n + 1) n 3 - (n + 1))))[0 + j]? = some (.int .i64 (p ++ [i])[j]) := by
        rw [Nat.zero_add, Array.getElem?_append_left (by simp at hj ⊢; omega), List.append_toArray, List.getElem?_toArray, show [Value.int .i64 i] = [i].map (Value.int .i64) from rfl, ← List.map_append, List.getElem?_map, List.getElem?_eq_getElem hj]
        rfl
      rw [e4] at this
      exact this

/-- the places below a row's terms, each with what is there -/
def kidsP : List Int → Nat → Tms → List (List Int × Tm)
  | _, _, .nil => []
  | p, i, .cons b k j a r => (p ++ [(i : Int)], (b, k, j, a)) :: (kidsP (p ++ [(i : Int)]) 0 a ++ kidsP p (i + 1) r)
/-- a term's places -/
def placesP (p : List Int) (t : Tm) : List (List Int × Tm) := (p, t) :: kidsP p 0 t.ag
def Tms.cnt : Tms → Nat
  | .nil => 0
  | .cons _ _ _ a r => 1 + a.cnt + r.cnt
theorem kidsP_len (f : Tms) : ∀ p i, (kidsP p i f).length = f.cnt := by
  induction f with
  | nil => intro p i; rfl
  | cons b k j a r ih1 ih2 => intro p i; simp only [kidsP, Tms.cnt, List.length_append, List.length_cons, ih1, ih2]; omega
theorem Tms.cnt_size (f : Tms) : f.cnt ≤ f.size := by
  induction f with
  | nil => exact Nat.le_refl _
  | cons b k j a r ih1 ih2 => simp only [cnt, size]; omega
theorem kidsP_app (l m : List Tm) : ∀ p i, kidsP p i (Tms.ofL (l ++ m)) = kidsP p i (Tms.ofL l) ++ kidsP p (i + l.length) (Tms.ofL m) := by
  induction l with
  | nil => intro p i; rfl
  | cons x r ih =>
    intro p i
    obtain ⟨b, k, j, a⟩ := x
    simp only [List.cons_append, Tms.ofL, kidsP, ih, List.length_cons, List.append_assoc]
    rw [show i + 1 + r.length = i + (r.length + 1) by omega]
def Tms.first (f : Tms) (i : Nat) : Tms := Tms.ofL (f.toL.take i)
theorem Tms.first_zero (f : Tms) : f.first 0 = .nil := rfl
theorem Tms.first_all (f : Tms) : f.first f.len = f := by unfold Tms.first; rw [← Tms.toL_len, List.take_length]; exact Tms.ofL_toL f
theorem kidsP_first (p : List Int) (f : Tms) (i : Nat) (h : i < f.toL.length) : kidsP p 0 (f.first (i + 1)) = kidsP p 0 (f.first i) ++ placesP (p ++ [(i : Int)]) f.toL[i] := by
  unfold Tms.first
  rw [List.take_succ_eq_append_getElem h, kidsP_app]
  congr 1
  obtain ⟨b, k, j, a⟩ := f.toL[i]
  have hl : (List.take i f.toL).length = i := by rw [List.length_take]; omega
  rw [Nat.zero_add, hl]
  simp only [Tms.ofL, kidsP, placesP, List.append_nil]
theorem kidsP_first_pre (p : List Int) (f : Tms) (i : Nat) : kidsP p 0 (f.first i) <+: kidsP p 0 f := by
  have e : f = Tms.ofL (f.toL.take i ++ f.toL.drop i) := by rw [List.take_append_drop]; exact (Tms.ofL_toL f).symm
  refine ⟨kidsP p (0 + (f.toL.take i).length) (Tms.ofL (f.toL.drop i)), ?_⟩
  unfold Tms.first
  rw [← kidsP_app, ← e]
theorem Tms.kid_cnt (f : Tms) (p : List Int) (i : Nat) (h : i < f.toL.length) : (kidsP p 0 (f.first i)).length + 1 + (f.toL[i]).ag.cnt ≤ f.cnt := by
  have h1 := (kidsP_first_pre p f (i + 1)).length_le
  rw [kidsP_first p f i h, kidsP_len f, List.length_append, placesP, List.length_cons, kidsP_len (f.toL[i]).ag] at h1
  have h2 := kidsP_len (f.first i) p 0
  omega
theorem Tms.kid_cnt2 : ∀ (f : Tms) (i : Nat) (h : i < f.toL.length), (f.toL[i]).ag.cnt < f.cnt
  | .nil, i, h => absurd h (Nat.not_lt_zero _)
  | .cons b k j a r, 0, h => by simp only [Tms.toL, Tms.cnt, List.getElem_cons_zero, Tm.ag]; omega
  | .cons b k j a r, i + 1, h => by
    have := Tms.kid_cnt2 r i (by simpa [Tms.toL] using h)
    simp only [Tms.toL, Tms.cnt, List.getElem_cons_succ]
    omega
end Go.Proofs.YtnpcapdlgcaniaaDoor
