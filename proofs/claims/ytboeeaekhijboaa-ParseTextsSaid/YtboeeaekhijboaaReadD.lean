/- lex's readers: Place, Fail, New. -/
import Derived.Test.YtboeeaekhijboaaReadC
namespace Go.Proofs.Ytboeeaekhijboaa
open Go.RowKit
set_option linter.unusedVariables false
set_option linter.unusedSimpArgs false

theorem Chg.ofB {w w' : World} (h : Below w.heap.size w w') : Chg (fun _ => False) w w' := (Chg.of_below h).mono (fun k hk h => by omega)

theorem tokAt_le {ts : List Tok} {s : ByteArray} (hat : ∀ t ∈ ts, t.2.2 ≤ s.size) (k : Nat) (n : Int) : (tokAt ts s k n).2.2 ≤ s.size := by
  unfold tokAt
  split
  · exact Nat.le_refl _
  · by_cases h : k + n.toNat < ts.length
    · simp only [List.getD_eq_getElem?_getD, List.getElem?_eq_getElem h, Option.getD_some]
      exact hat _ (List.getElem_mem h)
    · simp only [List.getD_eq_getElem?_getD, List.getElem?_eq_none (Nat.le_of_not_lt h), Option.getD_none]
      exact Nat.le_refl _

set_option maxRecDepth 100000 in
theorem field46_1 (a b c : Value) (w : World) : Sem.run Try.prog (Instr.field 75 (.agg #[a, b, c]) 1) w = .ok b w := rfl
set_option maxRecDepth 100000 in
theorem field46_2 (a b c : Value) (w : World) : Sem.run Try.prog (Instr.field 75 (.agg #[a, b, c]) 2) w = .ok c w := rfl
theorem Chg.blk {w w' : World} (g : Chg (fun _ => False) w w') {A : Nat} {o : Obj} (h : w.heap[A]? = some o) : w'.heap[A]? = some o := (g.block A (Array.getElem?_eq_some_iff.1 h).1 (fun h => h)).trans h
theorem chg_new {w w' : World} {o : Obj} (g : Chg (fun _ => False) (w.alloc o) w') : w'.heap[w.heap.size]? = some o := g.blk (blk_new w o)
theorem al (w : World) (o : Obj) : Chg (fun _ => False) w (w.alloc o) := (Chg.refl _ _).alloc _

theorem lay0 {w w2 : World} {A : Nat} {o a : Obj} (g : Chg (fun _ => False) w w2) (hA : w2.heap[A]? = some a) :
    (w2.alloc o).heap[w2.heap.size]? = some o ∧ (w2.alloc o).heap[A]? = some a ∧ Chg (fun _ => False) w (w2.alloc o) ∧ A ≠ w2.heap.size :=
  ⟨blk_new w2 o, (al w2 o).blk hA, g.trans (al w2 o), Nat.ne_of_lt (Array.getElem?_eq_some_iff.1 hA).1⟩

theorem lay1 {w w2 : World} {A D : Nat} {x y : Value} {T : TypeId} {a : Obj} (g : Chg (fun _ => False) w w2) (hA : w2.heap[A]? = some a) (hD : w2.heap[D]? = some (.cells #[x, y] T)) (hw : w.heap.size ≤ D) (hne : A ≠ D) (u v : Value) :
    ((w2.setCell ⟨D, 0, none⟩ u).setCell ⟨D, 1, none⟩ v).heap[D]? = some (.cells #[u, v] T) ∧ ((w2.setCell ⟨D, 0, none⟩ u).setCell ⟨D, 1, none⟩ v).heap[A]? = some a ∧
    Chg (fun _ => False) w ((w2.setCell ⟨D, 0, none⟩ u).setCell ⟨D, 1, none⟩ v) ∧ A ≠ D := by
  have h0 : Chg (fun b => b = D) w2 w2 := Chg.refl _ _
  have h1 := h0.setCell (p := ⟨D, 0, none⟩) (Or.inl rfl) u
  have h2 := h1.setCell (p := ⟨D, 1, none⟩) (Or.inl rfl) v
  refine ⟨blk_set (blk_set hD 0 u) 1 v, (h2.block A (Array.getElem?_eq_some_iff.1 hA).1 hne).trans hA, ?_, hne⟩
  have hf : Chg (fun b => b = D) w ((w2.setCell ⟨D, 0, none⟩ u).setCell ⟨D, 1, none⟩ v) := (Chg.none g).trans h2
  exact hf.mono (fun b hb h => by omega)

theorem two_fin {w W : World} {A : Nat} {x y : Value} {T : TypeId} (g : Chg (fun _ => False) w W) (hA : W.heap[A]? = some (.cells #[x, y] T)) (hw : w.heap.size ≤ A) (u v : Value) :
    ((W.setCell ⟨A, 0, none⟩ u).setCell ⟨A, 1, none⟩ v).heap[A]? = some (.cells #[u, v] T) ∧ Chg (fun _ => False) w ((W.setCell ⟨A, 0, none⟩ u).setCell ⟨A, 1, none⟩ v) := by
  have h0 : Chg (fun b => b = A) W W := Chg.refl _ _
  have h1 := h0.setCell (p := ⟨A, 0, none⟩) (Or.inl rfl) u
  have h2 := h1.setCell (p := ⟨A, 1, none⟩) (Or.inl rfl) v
  refine ⟨blk_set (blk_set hA 0 u) 1 v, ?_⟩
  have hf : Chg (fun b => b = A) w ((W.setCell ⟨A, 0, none⟩ u).setCell ⟨A, 1, none⟩ v) := (Chg.none g).trans h2
  exact hf.mono (fun b hb h => by omega)

/-- where a reader stands -/
def markAt (ts : List Tok) (s : ByteArray) (k : Nat) : Int × Int := markOf (s.data.toList.take (tokAt ts s k 0).2.2)

set_option maxRecDepth 100000 in
set_option maxHeartbeats 8000000 in
theorem place_some (R B : Nat) (v : Value) (ts : List Tok) (s : ByteArray) (k : Nat) (hk : k ≤ ts.length) (hl : ts.length ≤ 1000000) (hs : s.size ≤ 1000000) (hat : ∀ t ∈ ts, t.2.2 ≤ s.size) (w : World)
    (h : Rd w R 106 v s k) (hv : Tks w B v ts) :
    Calls Try.prog 91 #[.pointer (some ⟨R, 0, none⟩)] w fun e w' => e = .returned (.agg #[.int .i64 (markAt ts s k).1, .int .i64 (markAt ts s k).2]) ∧ Chg (fun _ => False) w w' := by
  obtain ⟨t, ht⟩ : ∃ t, t = tokAt ts s k 0 := ⟨_, rfl⟩
  have hle := tokAt_le hat k 0
  have hM : markAt ts s k = markOf (s.data.toList.take (tokAt ts s k 0).2.2) := rfl
  rw [← ht] at hle hM
  have po := hide (fun w' => of_any s hs t.2.2 hle w')
  rw [← hM] at po
  have pk := hide (fun w' h1 h2 => peek_some R B v ts s k 0 hk hl hs w' h1 h2)
  rw [← ht] at pk
  clear hM ht
  obtain ⟨t0, t1, t2⟩ := t
  have etv : tokV (t0, t1, t2) = .agg #[.int .i64 t0, .string t1, .int .i64 (t2 : Int)] := rfl
  rw [etv] at pk
  dsimp only at po hle ⊢
  have lR0 := blk_lt h
  have Hh := hide h
  have Hv := hide hv
  clear h hv etv hat
  go_enter Try.func91, Try.ntmps91
  go_wp2_with fail
  have g0 : Chg (fun _ => False) w (w.alloc (.cells #[.int .i64 0, .int .i64 0] 25)) := (Chg.refl _ _).alloc _
  have a0 := blk_new w (.cells #[.int .i64 0, .int .i64 0] 25)
  obtain ⟨W, hW⟩ : ∃ W, W = w.alloc (.cells #[.int .i64 0, .int .i64 0] 25) := ⟨_, rfl⟩
  obtain ⟨A, hA⟩ : ∃ A, A = w.heap.size := ⟨_, rfl⟩
  rw [← hW] at g0 a0 ⊢
  rw [← hA] at a0 ⊢
  have lA0 : w.heap.size ≤ A := by omega
  clear hW
  have q1 := hide (Hh.out.chg g0.drew (fun h => h))
  have q2 := hide (Hv.out.chg g0.drew (fun _ _ h => h))
  have c1 : W.cell? ⟨R, 1, none⟩ = some (.string s) := q1.out.cells.2.1
  have dRA : R ≠ A := by omega
  clear hA
  have hfl := field46_2 (.int .i64 t0) (.string t1) (.int .i64 (t2 : Int))
  have nR0 := World.new_ne _ _ c1
  have HG := hide g0.drew
  have LA := hide (blk_lt a0)
  clear g0
  have c1a : ∀ o, (W.drew.alloc o).cell? ⟨R, 1, none⟩ = some (.string s) := fun o => (al _ o).cell (fun h => h) c1
  have q1a := hide (fun o => q1.out.chg (al W.drew o) (fun h => h))
  have q2a := hide (fun o => q2.out.chg (al W.drew o) (fun _ _ h => h))
  have aA := hide (a0 : W.drew.heap[A]? = _)
  go_region_held3 (fun w' => w'.cell? ⟨R, 1, none⟩ = some (.string s))
    (go_keep)
    (first
      | (go_at_call 32; first | (refine (pk.out W.drew q1.out q2.out).mono ?_) | (refine (pk.out _ (q1a.out _) (q2a.out _)).mono ?_)
         rintro e w1 ⟨rfl, g1⟩
         first | (have d1 : w1.cell? ⟨R, 1, none⟩ = some (.string s) := g1.cell (fun h => h) c1) | (have d1 : w1.cell? ⟨R, 1, none⟩ = some (.string s) := g1.cell (fun h => h) (c1a _))
         first | (have aA1 := hide (g1.blk aA.out)) | (have aA1 := hide (g1.blk ((al _ _).blk aA.out)))
         first | (have GG1 : Hid (Chg (fun _ => False) W.drew w1) := hide g1) | (have GG1 : Hid (Chg (fun _ => False) W.drew w1) := hide ((al _ _).trans g1))
         first | (have aD := hide (chg_new g1)) | skip
         have nR1 := World.new_ne _ _ d1
         have d1a : ∀ o, (w1.alloc o).cell? ⟨R, 1, none⟩ = some (.string s) := fun o => (al _ o).cell (fun h => h) d1)
      | (go_at_call 84; refine (po.out _).mono ?_
         rintro e w2 ⟨rfl, g2'⟩
         have g2 := Chg.ofB g2'
         first | (have d2 : w2.cell? ⟨R, 1, none⟩ = some (.string s) := g2.cell (fun h => h) d1) | (have d2 : w2.cell? ⟨R, 1, none⟩ = some (.string s) := g2.cell (fun h => h) (d1a _))
         first | (have aA2 := hide (g2.blk aA1.out)) | (have aA2 := hide (g2.blk ((al _ _).blk aA1.out)))
         first | (have GG2 : Hid (Chg (fun _ => False) W.drew w2) := hide (GG1.out.trans g2)) | (have GG2 : Hid (Chg (fun _ => False) W.drew w2) := hide (GG1.out.trans ((al _ _).trans g2)))
         first | (have aD2 : w2.heap[w1.heap.size]? = _ := chg_new g2) | (have aD2 : w2.heap[W.heap.size]? = _ := g2.blk aD.out) | skip
         first | (have cD0 := blk_cell aD2 0; have cD1 := blk_cell aD2 1; have fD0 := blk_free aD2 0; have fD1 := blk_free aD2 1; have lD := blk_lt aD2) | skip
         have nR2 := World.new_ne _ _ d2
         have d2a : ∀ o, (w2.alloc o).cell? ⟨R, 1, none⟩ = some (.string s) := fun o => (al _ o).cell (fun h => h) d2))
  all_goals
    have lw1 : w.heap.size ≤ w1.heap.size := Nat.le_trans HG.out.size GG1.out.size
    have lw0 : w.heap.size ≤ W.heap.size := HG.out.size
    have lAW : A < W.heap.size := LA.out
    have lA1 : A < w1.heap.size := Nat.lt_of_lt_of_le lAW GG1.out.size
    first
      | (obtain ⟨bD, bA, gF, nAD⟩ := lay1 (D := w1.heap.size) (HG.out.trans GG2.out) aA2.out aD2 lw1 (Nat.ne_of_lt lA1) (.int .i64 (markAt ts s k).1) (.int .i64 (markAt ts s k).2)
         generalize (w2.setCell ⟨w1.heap.size, 0, none⟩ (.int .i64 (markAt ts s k).1)).setCell ⟨w1.heap.size, 1, none⟩ (.int .i64 (markAt ts s k).2) = W3 at *
         generalize w1.heap.size = D at *)
      | (obtain ⟨bD, bA, gF, nAD⟩ := lay1 (D := W.heap.size) (HG.out.trans GG2.out) aA2.out aD2 lw0 (Nat.ne_of_lt lAW) (.int .i64 (markAt ts s k).1) (.int .i64 (markAt ts s k).2)
         generalize (w2.setCell ⟨W.heap.size, 0, none⟩ (.int .i64 (markAt ts s k).1)).setCell ⟨W.heap.size, 1, none⟩ (.int .i64 (markAt ts s k).2) = W3 at *
         generalize W.heap.size = D at *)
      | (obtain ⟨bD, bA, gF, nAD⟩ := lay0 (o := .cells #[.int .i64 (markAt ts s k).1, .int .i64 (markAt ts s k).2] 25) (HG.out.trans GG2.out) aA2.out
         generalize (w2.alloc (.cells #[.int .i64 (markAt ts s k).1, .int .i64 (markAt ts s k).2] 25)) = W3 at *
         generalize w2.heap.size = D at *)
  all_goals
    have D0 : W3.cell? ⟨D, 0, none⟩ = some (.int .i64 (markAt ts s k).1) := blk_cell bD 0
    have D1 : W3.cell? ⟨D, 1, none⟩ = some (.int .i64 (markAt ts s k).2) := blk_cell bD 1
    have A0 : W3.cell? ⟨A, 0, none⟩ = some (.int .i64 0) := blk_cell bA 0
    have A1 : W3.cell? ⟨A, 1, none⟩ = some (.int .i64 0) := blk_cell bA 1
    have fA0 := blk_free bA 0
    have fA1 := blk_free bA 1
    have nDA : D ≠ A := Ne.symm nAD
    obtain ⟨aF, gE⟩ := two_fin gF bA lA0 (.int .i64 (markAt ts s k).1) (.int .i64 (markAt ts s k).2)
    have GE := hide gE
    clear gE gF
    go_wp2_with fail
    generalize (W3.setCell ⟨A, 0, none⟩ (.int .i64 (markAt ts s k).1)).setCell ⟨A, 1, none⟩ (.int .i64 (markAt ts s k).2) = WF at *
    have r0 : WF.cell? ⟨A, 0, none⟩ = some (.int .i64 (markAt ts s k).1) := blk_cell aF 0
    have r1 : WF.cell? ⟨A, 1, none⟩ = some (.int .i64 (markAt ts s k).2) := blk_cell aF 1
    exact bodyPost_ret (v := .agg #[.int .i64 (markAt ts s k).1, .int .i64 (markAt ts s k).2]) (by simp [results, Try.results91, go_sem, r0, r1]) rfl ⟨rfl, GE.out⟩

theorem place_nil (w : World) :
    Calls Try.prog 91 #[.pointer none] w fun e w' => e = .returned (.agg #[.int .i64 1, .int .i64 1]) ∧ Chg (fun _ => False) w w' := by
  go_enter Try.func91, Try.ntmps91
  go_wp2_with fail
  exact bodyPost_ret (v := .agg #[.int .i64 1, .int .i64 1]) (by simp [results, Try.results91, go_sem]) rfl ⟨rfl, al _ _⟩

end Go.Proofs.Ytboeeaekhijboaa
