/- kind.Right: may a type be? -/
import Derived.Test.YtdoohocdaacnaaaDoorDown
namespace Go.Proofs.YtdoohocdaacnaaaDoor
open Go.RowKit Go.Shelf
attribute [local go_sem] Oper.semAt_some
set_option linter.unusedVariables false
set_option linter.unusedSimpArgs false

theorem each_stops (n : Nat) (Bt : Nat) (S X : Nat → Prop) (hXS : ∀ x, X x → ¬ S x) (f : Fs) (hf : f.size ≤ 1000000) (v : Value) (b : Int) (w : World) (hX : ∀ x, X x → x < w.heap.size) (hS : ∀ x, S x → x < w.heap.size) (hBt : Bt < w.heap.size)
    (c0 : w.cell? ⟨Bt, 0, none⟩ = some v) (c1 : w.cell? ⟨Bt, 1, none⟩ = some (.int .i64 b)) (hv : Ts w X v f) :
    SeqStopsK Fence.wide n Tryd.prog 58 #[.pointer (some ⟨Bt, 0, none⟩)] encT (KpC S) (fun ys => ys.map pr = (1, b) :: nodes 2 f) (fun q => q.map pr <+: ((1, b) :: nodes 2 f)) (f.size + 1) w := fun l J Jx W hW hJa _ hY h0 =>
  each1_in l Bt S X hXS f hf v b n J Jx W (fun x hx hs => by have := hS x hs; have := hW.size; omega) (fun pre W' o hj => hJa pre W' (W'.alloc o) none hj (World.grownBy_alloc W' o none) (fun r e => by cases e)) hY
    ((hW.cell (p := ⟨Bt, 0, none⟩) hBt).trans c0) ((hW.cell (p := ⟨Bt, 1, none⟩) hBt).trans c1) (hv.chg (Chg.of_below hW) (fun x hx h => by have := hX x hx; omega)) h0

/-- may these types be? -/
def goodN (bases : Int) (p : Nat × Int) : Bool := decide (p.1 ≤ 60) && (decide (0 ≤ p.2) && decide (p.2 < bases))
def goodL (bases : Int) (l : List (Nat × Int)) : Bool := decide (l.length ≤ 1000) && l.all (goodN bases)
theorem goodL_pre {bases : Int} {l m : List (Nat × Int)} (h : l <+: m) (hl : goodL bases l = false) : goodL bases m = false := by
  obtain ⟨r, rfl⟩ := h
  unfold goodL at *
  rw [List.all_append, List.length_append]
  cases h1 : l.all (goodN bases)
  · rw [Bool.false_and, Bool.and_false]
  · rw [h1, Bool.and_true] at hl
    have : ¬ l.length ≤ 1000 := by simpa using hl
    rw [decide_eq_false (by omega), Bool.false_and]

/-- what lies in Right's own blocks between two rounds -/
def RAt (B : Nat) (bases n : Int) (r : Bool) (W : World) : Prop :=
  W.heap[B + 1]? = some (.cells #[.int .i64 bases] 3) ∧ W.heap[B + 1 + 1]? = some (.cells #[.bool r] 4) ∧ W.heap[B + 1 + 1 + 1]? = some (.cells #[.int .i64 n] 3)
theorem blk_kept {A B : World} {row : Option Nat} {b : Nat} {c : Array Value} {t : TypeId} (h : A.heap[b]? = some (.cells c t)) (hg : A.grownBy B row)
    (hr : ∀ r, row = some r → ∃ o, A.heap[r]? = some o ∧ o.isCells = false) : B.heap[b]? = some (.cells c t) := by
  rw [hg.block b (blk_lt h) (fun e => by
    obtain ⟨o, ho, hc⟩ := hr b e.symm
    rw [h] at ho
    cases ho
    cases hc)]
  exact h
theorem RAt.alloc {B : Nat} {bases n : Int} {r : Bool} {W : World} (h : RAt B bases n r W) (o : Obj) : RAt B bases n r (W.alloc o) := ⟨blk_alloc h.1, blk_alloc h.2.1, blk_alloc h.2.2⟩
theorem goodL_bad {bases : Int} {l : List (Nat × Int)} {p : Nat × Int} (h : ¬ l.length + 1 ≤ 1000 ∨ goodN bases p = false) : goodL bases (l ++ [p]) = false := by
  unfold goodL
  rcases h with h | h
  · rw [List.length_append, List.length_singleton, decide_eq_false h, Bool.false_and]
  · rw [List.all_append, List.all_cons, h, Bool.false_and, Bool.and_false, Bool.and_false]
theorem goodL_good {bases : Int} {l : List (Nat × Int)} {p : Nat × Int} (hl : goodL bases l = true) (h1 : l.length + 1 ≤ 1000) (h2 : goodN bases p = true) : goodL bases (l ++ [p]) = true := by
  unfold goodL at *
  rw [Bool.and_eq_true] at hl
  rw [List.length_append, List.length_singleton, decide_eq_true h1, Bool.true_and, List.all_append, hl.2, List.all_cons, h2]
  rfl
theorem RAt.kept {B : Nat} {bases n : Int} {r : Bool} {A C : World} {row : Option Nat} (h : RAt B bases n r A) (hg : A.grownBy C row)
    (hr : ∀ r, row = some r → ∃ o, A.heap[r]? = some o ∧ o.isCells = false) : RAt B bases n r C :=
  ⟨blk_kept h.1 hg hr, blk_kept h.2.1 hg hr, blk_kept h.2.2 hg hr⟩

set_option maxRecDepth 100000 in
set_option maxHeartbeats 4000000 in
theorem right_in (f : Fs) (hf : f.size ≤ 1000000) (v : Value) (b bases : Int) (X : Nat → Prop) (w : World) (hX : ∀ x, X x → x < w.heap.size) (hv : Ts w X v f) :
    CallsIn Fence.wide 4 Tryd.prog 30 #[.agg #[v, .int .i64 b], .int .i64 bases] w fun e W' =>
      e = .returned (.bool (goodL bases ((1, b) :: nodes 2 f))) ∧ Below w.heap.size w W' := by
  obtain ⟨a, cap, rfl, _⟩ := id hv
  refine callsIn_of_wp_marks Tryd.func30 rfl trivial ?_ rfl
  simp only [Tryd.ntmps30, List.size_toArray, List.length_cons, List.length_nil, Nat.reduceAdd, Nat.reduceSub, Array.replicate_succ, Array.replicate_zero, List.push_toArray, List.append_toArray, List.nil_append, List.cons_append]
  gi_wp2
  refine ⟨trivial, ?_⟩
  refine (each_in _ _ _ _).mono ?_
  rintro e w' ⟨rfl, rfl⟩
  gi_wp2
  obtain ⟨W0, hW0⟩ : ∃ W0, (((((w.alloc (.cells #[.slice a f.len cap, .int .i64 b] 30)).alloc (.cells #[.int .i64 bases] 3)).alloc (.cells #[.bool false] 4)).alloc (.cells #[.int .i64 0] 3)).alloc (.cells #[.slice a f.len cap, .int .i64 b] 30)) = W0 := ⟨_, rfl⟩
  rw [hW0]
  have hsz : W0.heap.size = w.heap.size + 5 := by rw [← hW0]; simp
  have hC0 : Chg (fun _ => False) w W0 := by
    rw [← hW0]
    exact ((((al w _).alloc _).alloc _).alloc _).alloc _
  have hB0 : Below w.heap.size w W0 := hC0.below (Nat.le_refl _) (fun _ h => h.elim)
  have hAt : RAt w.heap.size bases 0 false W0 := by
    rw [← hW0]
    have e2 := blk_new (w.alloc (.cells #[.slice a f.len cap, .int .i64 b] 30)) (.cells #[.int .i64 bases] 3)
    have e3 := blk_new ((w.alloc (.cells #[.slice a f.len cap, .int .i64 b] 30)).alloc (.cells #[.int .i64 bases] 3)) (.cells #[.bool false] 4)
    have e4 := blk_new (((w.alloc (.cells #[.slice a f.len cap, .int .i64 b] 30)).alloc (.cells #[.int .i64 bases] 3)).alloc (.cells #[.bool false] 4)) (.cells #[.int .i64 0] 3)
    simp only [World.size_alloc] at e2 e3 e4
    exact ⟨blk_alloc (blk_alloc (blk_alloc e2)), blk_alloc (blk_alloc e3), blk_alloc e4⟩
  have hS : W0.heap[w.heap.size + 1 + 1 + 1 + 1]? = some (.cells #[.slice a f.len cap, .int .i64 b] 30) := by
    rw [← hW0]
    have e5 := blk_new ((((w.alloc (.cells #[.slice a f.len cap, .int .i64 b] 30)).alloc (.cells #[.int .i64 bases] 3)).alloc (.cells #[.bool false] 4)).alloc (.cells #[.int .i64 0] 3)) (.cells #[.slice a f.len cap, .int .i64 b] 30)
    simp only [World.size_alloc] at e5
    exact e5
  clear hW0
  have hv0 := hv.chg hC0 (fun _ _ h => h)
  clear hv hC0
  refine wpIn_rangeFunc_ownH rfl (by omega) (gf := 58) (lb := #[.pointer (some ⟨w.heap.size + 1 + 1 + 1 + 1, 0, none⟩)]) rfl trivial (enters_of Tryd.func58 (by kernel_rfl) rfl)
    (each_stops 3 (w.heap.size + 1 + 1 + 1 + 1) (fun x => x = w.heap.size + 2 ∨ x = w.heap.size + 3) X (fun x hx e => by have := hX x hx; omega) f hf (.slice a f.len cap) b W0 (fun x hx => by have := hX x hx; omega) (fun x hx => by omega) (by omega) (blk_cell hS 0) (blk_cell hS 1) hv0)
    (fun h k => h.trans k) (fun W l o o' _ ho hc _ => KpC.put _ W l o o' ho hc) (Below.refl _ _) (fun _ => rfl)
    (fun pre W => (goodL bases (pre.map pr) = true ∧ RAt w.heap.size bases pre.length false W) ∧ Below w.heap.size w W)
    (fun c pre W => (c = .ret ∧ goodL bases (pre.map pr) = false ∧ RAt w.heap.size bases pre.length false W) ∧ Below w.heap.size w W)
    (OwnFrom.and (Own.from (fun s A B row hs hg hr => ⟨hs.1, hs.2.kept hg hr⟩) _) (ownFrom_below (Nat.le_refl _) (by omega)))
    (fun c => OwnFrom.and (Own.from (fun s A B row hs hg hr => ⟨hs.1, hs.2.1, hs.2.2.kept hg hr⟩) _) (ownFrom_below (Nat.le_refl _) (by omega)))
    ⟨⟨rfl, hAt⟩, hB0⟩
    (fun x a' W => ∃ Bx, w.heap.size + 4 ≤ Bx ∧ W.heap[Bx]? = some (.cells #[.slice x.2.1.1 x.2.1.2.1 x.2.1.2.2, .int .i64 x.2.2] 30) ∧ a' = { tmps := #[.agg #[.slice a f.len cap, .int .i64 b], .int .i64 bases, .pointer (some ⟨w.heap.size, 0, none⟩), .pointer (some ⟨w.heap.size + 1, 0, none⟩), .pointer (some ⟨w.heap.size + 1 + 1, 0, none⟩), .pointer (some ⟨w.heap.size + 1 + 1 + 1, 0, none⟩), .int .i64 (x.1 : Int), .pointer (some ⟨Bx, 0, none⟩), .agg #[.slice a f.len cap, .int .i64 b], .func (.func 58) #[] #[.pointer (some ⟨w.heap.size + 1 + 1 + 1 + 1, 0, none⟩)], .int .i64 (x.1 : Int), .agg #[.slice x.2.1.1 x.2.1.2.1 x.2.1.2.2, .int .i64 x.2.2], undef, undef, undef, undef, undef, undef, undef, undef, undef, undef, undef, undef, undef, undef, undef, undef, undef, undef, undef], defers := [] })
    (fun x a' _ X Y row hs hg hr => by obtain ⟨Bx, h1, h2, h3⟩ := hs; exact ⟨Bx, h1, blk_kept h2 hg (fun r e => (hr r e).2), h3⟩)
    ?assign ?body ?done ?stop
  case assign =>
    rintro l pre x W K ⟨⟨hg, hat⟩, hB⟩ hK
    dsimp only [encT]
    gi_wp2
    exact hK _ _ ((KeepsOthers.alloc _ _).from _) (KpC.alloc _ _ _) ⟨⟨hg, hat.alloc _⟩, hB.alloc hB.size _⟩ ⟨W.heap.size, by have := blk_lt hat.2.2; omega, blk_new W _, rfl⟩
  case body =>
    rintro l pre x a' W hl _ ⟨⟨hg, hat⟩, hB⟩ ⟨Bx, hBx, hbx, rfl⟩ hlen
    have c1 := blk_cell hat.1 0
    have c2 := blk_cell hat.2.1 0
    have c3 := blk_cell hat.2.2 0
    have f2 := blk_free hat.2.1 0
    have f3 := blk_free hat.2.2 0
    have d0 := blk_cell hbx 0
    have d1 := blk_cell hbx 1
    simp only [List.getElem?_toArray, List.getElem?_cons_zero, List.getElem?_cons_succ] at c1 c2 c3 d0 d1
    have n1 : ¬ w.heap.size + 1 + 1 + 1 = w.heap.size + 1 + 1 := by omega
    have n2 : ¬ w.heap.size + 1 + 1 + 1 = w.heap.size + 1 := by omega
    have n3 : ¬ w.heap.size + 1 + 1 + 1 = Bx := by omega
    have n4 : ¬ w.heap.size + 1 + 1 = w.heap.size + 1 + 1 + 1 := by omega
    have n5 : ¬ w.heap.size + 1 = w.heap.size + 1 + 1 + 1 := by omega
    have n6 : ¬ Bx = w.heap.size + 1 + 1 + 1 := by omega
    have n7 : ¬ w.heap.size + 1 = w.heap.size + 1 + 1 := by omega
    have n8 : ¬ w.heap.size + 1 + 1 = w.heap.size + 1 := by omega
    have hx0 : ((x.1 : Int)) ≤ 1000000000 ∨ 1000000000 < (x.1 : Int) := by omega
    have e3 : (((pre ++ [x]).length : Nat) : Int) = (pre.length : Int) + 1 := by simp
    have hlm : (pre.map pr).length = pre.length := List.length_map _
    have R1 : RAt w.heap.size bases ((pre.length : Int) + 1) false (W.setCell ⟨w.heap.size + 1 + 1 + 1, 0, none⟩ (.int .i64 ((pre.length : Int) + 1))) := ⟨blk_other hat.1 n5 0 _, blk_other hat.2.1 n4 0 _, blk_set hat.2.2 0 _⟩
    have B1 := hB.setCell (p := ⟨w.heap.size + 1 + 1 + 1, 0, none⟩) (by show w.heap.size ≤ w.heap.size + 1 + 1 + 1; omega) (.int .i64 ((pre.length : Int) + 1))
    have R2 : RAt w.heap.size bases ((pre.length : Int) + 1) false ((W.setCell ⟨w.heap.size + 1 + 1 + 1, 0, none⟩ (.int .i64 ((pre.length : Int) + 1))).setCell ⟨w.heap.size + 1 + 1, 0, none⟩ (.bool false)) := ⟨blk_other R1.1 n7 0 _, blk_set R1.2.1 0 _, blk_other R1.2.2 n1 0 _⟩
    have B2 := B1.setCell (p := ⟨w.heap.size + 1 + 1, 0, none⟩) (by show w.heap.size ≤ w.heap.size + 1 + 1; omega) (.bool false)
    have E3 := hide e3
    have HF := hide (And.intro R2 B2)
    have KP : KpC (fun x => x = w.heap.size + 2 ∨ x = w.heap.size + 3) W (W.setCell ⟨w.heap.size + 1 + 1 + 1, 0, none⟩ (.int .i64 ((pre.length : Int) + 1))) := KpC.of_chg ((Chg.refl _ _).setCell (Or.inl (Or.inr rfl)) _)
    have HG := hide (And.intro (And.intro R1 B1) KP)
    have HP := hide (And.intro hg hlm)
    clear hat hbx R1 R2 B1 B2 KP hB hg e3
    obtain ⟨x0, ⟨xa, xl, xc⟩, x2⟩ := x
    dsimp only at d0 d1 hx0 ⊢
    by_cases h1 : 60 < (x0 : Int)
    · have wy : goodN bases (pr (x0, (xa, xl, xc), x2)) = false := by unfold goodN pr; rw [decide_eq_false (show ¬ x0 ≤ 60 by omega), Bool.false_and]
      have WY := hide wy
      clear wy
      gi_wp2
      exact ⟨((KeepsOthers.setCell _ _ _).trans (KeepsOthers.setCell _ _ _)).from _, ⟨rfl, by rw [List.map_append]; exact goodL_bad (Or.inr WY.out), by rw [E3.out]; exact HF.out.1⟩, HF.out.2⟩
    by_cases h2 : 1000 < (pre.length : Int) + 1
    · have WY : Hid (¬ (pre.map pr).length + 1 ≤ 1000) := hide (by rw [HP.out.2]; omega)
      gi_wp2
      exact ⟨((KeepsOthers.setCell _ _ _).trans (KeepsOthers.setCell _ _ _)).from _, ⟨rfl, by rw [List.map_append]; exact goodL_bad (Or.inl WY.out), by rw [E3.out]; exact HF.out.1⟩, HF.out.2⟩
    by_cases h3 : x2 < 0
    · have WY : Hid (goodN bases (pr (x0, (xa, xl, xc), x2)) = false) := hide (by unfold goodN pr; rw [decide_eq_false (show ¬ 0 ≤ x2 by omega), Bool.false_and, Bool.and_false])
      gi_wp2
      exact ⟨((KeepsOthers.setCell _ _ _).trans (KeepsOthers.setCell _ _ _)).from _, ⟨rfl, by rw [List.map_append]; exact goodL_bad (Or.inr WY.out), by rw [E3.out]; exact HF.out.1⟩, HF.out.2⟩
    by_cases h4 : bases ≤ x2
    · have WY : Hid (goodN bases (pr (x0, (xa, xl, xc), x2)) = false) := hide (by unfold goodN pr; rw [decide_eq_false (show ¬ x2 < bases by omega), Bool.and_false, Bool.and_false])
      gi_wp2
      exact ⟨((KeepsOthers.setCell _ _ _).trans (KeepsOthers.setCell _ _ _)).from _, ⟨rfl, by rw [List.map_append]; exact goodL_bad (Or.inr WY.out), by rw [E3.out]; exact HF.out.1⟩, HF.out.2⟩
    have WY : Hid (goodN bases (pr (x0, (xa, xl, xc), x2)) = true) := hide (by unfold goodN pr; rw [decide_eq_true (show x0 ≤ 60 by omega), decide_eq_true (show 0 ≤ x2 by omega), decide_eq_true (show x2 < bases by omega)]; rfl)
    have WL : Hid ((pre.map pr).length + 1 ≤ 1000) := hide (by rw [HP.out.2]; omega)
    gi_wp2
    exact ⟨(KeepsOthers.setCell _ _ _).from _, HG.out.2, ⟨by rw [List.map_append]; exact goodL_good HP.out.1 WL.out WY.out, by rw [E3.out]; exact HG.out.1.1⟩, HG.out.1.2⟩
  case done =>
    rintro D ys W hD hys ⟨⟨hg, hat⟩, hB⟩ hK
    have c2 := blk_cell hat.2.1 0
    have f2 := blk_free hat.2.1 0
    simp only [List.getElem?_toArray, List.getElem?_cons_zero, List.getElem?_cons_succ] at c2
    have HG := hide hg
    have T2 := hide (blk_set hat.2.1 0 (.bool true))
    have HB2 := hide (hB.setCell (p := ⟨w.heap.size + 1 + 1, 0, none⟩) (by show w.heap.size ≤ w.heap.size + 1 + 1; omega) (.bool true))
    have hD' : ¬ D = w.heap.size + 1 + 1 := by omega
    have HK := hide (blk_other hK hD' 0 (.bool true))
    clear hat hg hB hK
    gi_wp2
    refine ⟨by simp, .inl ⟨_, _, rfl, run_takeDeferred HK.out, ?_⟩⟩
    have k2 := blk_cell (blk_kept T2.out (grownBy_putObj' _ D (.deferred none)) (fun r e => by cases e; exact ⟨_, HK.out, rfl⟩)) 0
    have k2' : ((W.setCell ⟨w.heap.size + 1 + 1, 0, none⟩ (.bool true)).putObj D (.deferred none)).cell? ⟨w.heap.size + 1 + 1, 0, none⟩ = some (.bool true) := k2
    refine ⟨.bool true, ?_, by rw [← hys, HG.out], HB2.out.trans (belowK_b (w := w) (Nat.le_refl _) _ D _ _ (by omega) HK.out rfl rfl)⟩
    simp [results, Tryd.f30, go_sem, k2']
  case stop =>
    rintro D c pre W hD hpre ⟨⟨rfl, hg, hat⟩, hB⟩ hK
    have HG := hide hg
    gi_wp2
    refine ⟨by simp, .inl ⟨_, _, rfl, run_takeDeferred hK, ?_⟩⟩
    have k2 := blk_cell (blk_kept hat.2.1 (grownBy_putObj' _ D (.deferred none)) (fun r e => by cases e; exact ⟨_, hK, rfl⟩)) 0
    simp only [List.getElem?_toArray, List.getElem?_cons_zero, List.getElem?_cons_succ] at k2
    refine ⟨.bool false, ?_, by rw [goodL_pre hpre HG.out], hB.trans (belowK_b (w := w) (Nat.le_refl _) W D _ _ (by omega) hK rfl rfl)⟩
    simp [results, Tryd.f30, go_sem, k2]

theorem right_any (f : Fs) (hf : f.size ≤ 1000000) (v : Value) (b bases : Int) (X : Nat → Prop) (w : World) (hX : ∀ x, X x → x < w.heap.size) (hv : Ts w X v f) :
    Calls Tryd.prog 30 #[.agg #[v, .int .i64 b], .int .i64 bases] w fun e W' =>
      e = .returned (.bool (goodL bases ((1, b) :: nodes 2 f))) ∧ Chg (fun _ => False) w W' :=
  (callsIn_wide.1 (right_in f hf v b bases X w hX hv)).mono fun e W' ⟨h1, h2⟩ => ⟨h1, (Chg.of_below h2).mono (fun k hk h => by omega)⟩
end Go.Proofs.YtdoohocdaacnaaaDoor
