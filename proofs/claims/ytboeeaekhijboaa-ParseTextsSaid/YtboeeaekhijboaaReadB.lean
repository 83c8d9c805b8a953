/- lex's readers: Next, Take, Place, Fail, New. -/
import Derived.Test.YtboeeaekhijboaaReader
import Derived.Test.YtboeeaekhijboaaLines
import Derived.Deep.RegionHeld3
namespace Go.Proofs.Ytboeeaekhijboaa
open Go.RowKit
set_option linter.unusedVariables false
set_option linter.unusedSimpArgs false

theorem Rd.cells {w : World} {R : Nat} {T : TypeId} {v : Value} {s : ByteArray} {k : Nat} (h : Rd w R T v s k) :
    w.cell? ⟨R, 0, none⟩ = some v ∧ w.cell? ⟨R, 1, none⟩ = some (.string s) ∧ w.cell? ⟨R, 2, none⟩ = some (.int .i64 (k : Int)) ∧ w.frozen? ⟨R, 2, none⟩ = false ∧ R < w.heap.size :=
  ⟨blk_cell h 0, blk_cell h 1, blk_cell h 2, blk_free h 2, blk_lt h⟩
theorem Rd.set {w : World} {R : Nat} {T : TypeId} {v : Value} {s : ByteArray} {k : Nat} (h : Rd w R T v s k) (j : Nat) (z : Int) (hz : z = (j : Int)) : Rd (w.setCell ⟨R, 2, none⟩ (.int .i64 z)) R T v s j := by subst hz; exact blk_set h 2 _
theorem Chg.none {S : Nat → Prop} {w w' : World} (h : Chg (fun _ => False) w w') : Chg S w w' := h.mono (fun _ _ h => h.elim)

theorem set3 (W : World) (A : Nat) (x y z : Value) : Chg (fun b => b = A) W (((W.setCell ⟨A, 0, none⟩ x).setCell ⟨A, 1, none⟩ y).setCell ⟨A, 2, none⟩ z).drew := by
  have h0 : Chg (fun b => b = A) W W := Chg.refl _ _
  have h1 := h0.setCell (p := ⟨A, 0, none⟩) (Or.inl rfl) x
  have h2 := h1.setCell (p := ⟨A, 1, none⟩) (Or.inl rfl) y
  have h3 := h2.setCell (p := ⟨A, 2, none⟩) (Or.inl rfl) z
  exact h3.drew

theorem next_fin (w W : World) (R A : Nat) (T el : TypeId) (v o0 o1 o2 x y z : Value) (s : ByteArray) (k : Nat) (q : Rd W R T v s k) (a1 : W.heap[A]? = some (.cells #[o0, o1, o2] el)) (ne : R ≠ A)
    (G : Chg (fun _ => False) w W) (lA : w.heap.size ≤ A) :
    (((W.setCell ⟨A, 0, none⟩ x).setCell ⟨A, 1, none⟩ y).setCell ⟨A, 2, none⟩ z).drew.heap[A]? = some (.cells #[x, y, z] el) ∧
    Rd (((W.setCell ⟨A, 0, none⟩ x).setCell ⟨A, 1, none⟩ y).setCell ⟨A, 2, none⟩ z).drew R T v s k ∧
    Chg (fun _ => False) w (((W.setCell ⟨A, 0, none⟩ x).setCell ⟨A, 1, none⟩ y).setCell ⟨A, 2, none⟩ z).drew := by
  have h3 := set3 W A x y z
  refine ⟨blk_set (blk_set (blk_set a1 0 x) 1 y) 2 z, q.chg h3 ne, ?_⟩
  have hf : Chg (fun b => w.heap.size ≤ b) w (((W.setCell ⟨A, 0, none⟩ x).setCell ⟨A, 1, none⟩ y).setCell ⟨A, 2, none⟩ z).drew := (Chg.none G).trans (h3.mono (fun b _ h => by omega))
  exact hf.mono (fun b hb h => by omega)

theorem next_fin1 (w W : World) (R A : Nat) (T el : TypeId) (v o0 o1 o2 x y z : Value) (s : ByteArray) (k : Nat) (q : Rd W R T v s k) (a1 : W.heap[A]? = some (.cells #[o0, o1, o2] el)) (ne : R ≠ A)
    (G : Chg (fun _ => False) w W) (lA : w.heap.size ≤ A) (c : Int) (hc : c = ((k + 1 : Nat) : Int)) :
    ((((W.setCell ⟨R, 2, none⟩ (.int .i64 c)).setCell ⟨A, 0, none⟩ x).setCell ⟨A, 1, none⟩ y).setCell ⟨A, 2, none⟩ z).drew.heap[A]? = some (.cells #[x, y, z] el) ∧
    Rd ((((W.setCell ⟨R, 2, none⟩ (.int .i64 c)).setCell ⟨A, 0, none⟩ x).setCell ⟨A, 1, none⟩ y).setCell ⟨A, 2, none⟩ z).drew R T v s (k + 1) ∧
    Chg (fun b => b = R) w ((((W.setCell ⟨R, 2, none⟩ (.int .i64 c)).setCell ⟨A, 0, none⟩ x).setCell ⟨A, 1, none⟩ y).setCell ⟨A, 2, none⟩ z).drew := by
  have hr : Chg (fun b => b = R) W W := Chg.refl _ _
  have h0 := hr.setCell (p := ⟨R, 2, none⟩) (Or.inl rfl) (.int .i64 c)
  have q1 := q.set (k + 1) c hc
  have a2 := blk_other a1 (Ne.symm ne) 2 (.int .i64 c)
  have h3 := set3 (W.setCell ⟨R, 2, none⟩ (.int .i64 c)) A x y z
  refine ⟨blk_set (blk_set (blk_set a2 0 x) 1 y) 2 z, q1.chg h3 ne, ?_⟩
  have hf : Chg (fun b => b = R ∨ w.heap.size ≤ b) w ((((W.setCell ⟨R, 2, none⟩ (.int .i64 c)).setCell ⟨A, 0, none⟩ x).setCell ⟨A, 1, none⟩ y).setCell ⟨A, 2, none⟩ z).drew :=
    (Chg.none G).trans ((h0.mono (fun b _ h => Or.inl h)).trans (h3.mono (fun b _ h => by omega)))
  exact hf.mono (fun b hb h => by omega)

/-- the reader's place behind a Next -/
def on (ts : List Tok) (k : Nat) : Nat := if k < ts.length then k + 1 else k
theorem on_le {ts : List Tok} {k : Nat} (h : k ≤ ts.length) : on ts k ≤ ts.length := by unfold on; split <;> omega

set_option maxRecDepth 100000 in
set_option maxHeartbeats 4000000 in
theorem next_some (R B : Nat) (v : Value) (ts : List Tok) (s : ByteArray) (k : Nat) (hk : k ≤ ts.length) (hl : ts.length ≤ 1000000) (hs : s.size ≤ 1000000) (w : World)
    (h : Rd w R 106 v s k) (hv : Tks w B v ts) :
    Calls Try.prog 52 #[.pointer (some ⟨R, 0, none⟩)] w fun e w' => e = .returned (tokV (tokAt ts s k 0)) ∧ Rd w' R 106 v s (on ts k) ∧ Chg (fun b => b = R) w w' := by
  have lR0 := blk_lt h
  obtain ⟨va, vc, rfl, hr⟩ := id hv
  clear hr
  obtain ⟨t, ht⟩ : ∃ t, t = tokAt ts s k 0 := ⟨_, rfl⟩
  have pk := hide (fun w' h1 h2 => peek_some R B (.slice va ts.length vc) ts s k 0 hk hl hs w' h1 h2)
  have Hh := hide h
  have Hv := hide hv
  obtain ⟨kk, hkk⟩ : ∃ kk, kk = on ts k := ⟨_, rfl⟩
  rw [← hkk, ← ht]
  rw [← ht] at pk
  have HK := hide hkk
  clear h hv hkk ht
  go_enter Try.func52, Try.ntmps52
  go_wp2_with fail
  have g0 : Chg (fun _ => False) w (w.alloc (.cells #[.int .i64 0, .string ⟨#[]⟩, .int .i64 0] 75)) := (Chg.refl _ _).alloc _
  refine (pk.out _ (Hh.out.chg g0 (fun h => h)) (Hv.out.chg g0 (fun _ _ h => h))).mono ?_
  rintro e w1 ⟨rfl, g1⟩
  obtain ⟨t0, t1, t2⟩ := t
  have a0 : w1.heap[w.heap.size]? = some (.cells #[.int .i64 0, .string ⟨#[]⟩, .int .i64 0] 75) := (g1.block _ (by simp) (fun h => h)).trans (blk_new w _)
  have lA := blk_lt a0
  have G := hide ((g0.trans g1).alloc (.cells #[.int .i64 t0, .string t1, .int .i64 (t2 : Int)] 75))
  have q1 := hide (Hh.out.chg G.out (fun h => h))
  have a1 : (w1.alloc (.cells #[.int .i64 t0, .string t1, .int .i64 (t2 : Int)] 75)).heap[w.heap.size]? = some (.cells #[.int .i64 0, .string ⟨#[]⟩, .int .i64 0] 75) := (Below.heap_alloc _ _ _ lA).trans a0
  have b1 : (w1.alloc (.cells #[.int .i64 t0, .string t1, .int .i64 (t2 : Int)] 75)).heap[w1.heap.size]? = some (.cells #[.int .i64 t0, .string t1, .int .i64 (t2 : Int)] 75) := blk_new _ _
  obtain ⟨W, hW⟩ : ∃ W, W = w1.alloc (.cells #[.int .i64 t0, .string t1, .int .i64 (t2 : Int)] 75) := ⟨_, rfl⟩
  have dAB : w.heap.size ≠ w1.heap.size := by omega
  have dRA : R ≠ w.heap.size := by omega
  have dRB : R ≠ w1.heap.size := by omega
  have etv : tokV (t0, t1, t2) = .agg #[.int .i64 t0, .string t1, .int .i64 (t2 : Int)] := rfl
  rw [etv]
  go_wp2_with fail
  rw [← hW] at G q1 a1 b1 ⊢
  clear hW
  clear a0 g0 g1 lA pk Hh Hv
  obtain ⟨A, hA⟩ : ∃ A, A = w.heap.size := ⟨_, rfl⟩
  obtain ⟨D, hD⟩ : ∃ D, D = w1.heap.size := ⟨_, rfl⟩
  rw [← hA] at dAB dRA a1
  have lA0 : w.heap.size ≤ A := by omega
  rw [← hD] at dAB dRB b1
  have ca := blk_cell a1 0
  have cb0 : W.cell? ⟨D, 0, none⟩ = some (.int .i64 t0) := blk_cell b1 0
  have cb1 : W.cell? ⟨D, 1, none⟩ = some (.string t1) := blk_cell b1 1
  have cb2 : W.cell? ⟨D, 2, none⟩ = some (.int .i64 (t2 : Int)) := blk_cell b1 2
  have fa0 := blk_free a1 0
  have fa1 := blk_free a1 1
  have fa2 := blk_free a1 2
  have ca1 := blk_cell a1 1
  have ca2 := blk_cell a1 2
  obtain ⟨c0, c1, c2, f2, lR⟩ := q1.out.cells
  by_cases hlt : k < ts.length
  · have q2 : decide ((k : Int) < (ts.length : Int)) = true := by simp; omega
    have eon : kk = k + 1 := HK.out.trans (by unfold on; rw [if_pos hlt])
    subst eon
    rw [← hA, ← hD]
    clear hA hD
    go_region
    go_wp2_with fail
    obtain ⟨aF, rF, gF⟩ := next_fin1 w W R A 106 75 _ _ _ _ (.int .i64 t0) (.string t1) (.int .i64 (t2 : Int)) s k q1.out a1 dRA G.out lA0 ((k : Int) + 1) (by omega)
    generalize ((((W.setCell ⟨R, 2, none⟩ (.int .i64 ((k : Int) + 1))).setCell ⟨A, 0, none⟩ (.int .i64 t0)).setCell ⟨A, 1, none⟩ (.string t1)).setCell ⟨A, 2, none⟩ (.int .i64 (t2 : Int))).drew = Wf at *
    have r0 : Wf.cell? ⟨A, 0, none⟩ = some (.int .i64 t0) := blk_cell aF 0
    have r1 : Wf.cell? ⟨A, 1, none⟩ = some (.string t1) := blk_cell aF 1
    have r2 : Wf.cell? ⟨A, 2, none⟩ = some (.int .i64 (t2 : Int)) := blk_cell aF 2
    exact bodyPost_ret (v := tokV (t0, t1, t2)) (by simp [results, Try.results52, go_sem, tokV, r0, r1, r2]) rfl ⟨rfl, rF, gF⟩
  · have q2 : decide ((k : Int) < (ts.length : Int)) = false := by simp; omega
    have eon : k = kk := Eq.symm (HK.out.trans (by unfold on; rw [if_neg hlt]))
    subst eon
    rw [← hA, ← hD]
    clear hA hD
    go_region
    go_wp2_with fail
    obtain ⟨aF, rF, gF⟩ := next_fin w W R A 106 75 _ _ _ _ (.int .i64 t0) (.string t1) (.int .i64 (t2 : Int)) s k q1.out a1 dRA G.out lA0
    generalize (((W.setCell ⟨A, 0, none⟩ (.int .i64 t0)).setCell ⟨A, 1, none⟩ (.string t1)).setCell ⟨A, 2, none⟩ (.int .i64 (t2 : Int))).drew = Wf at *
    have r0 : Wf.cell? ⟨A, 0, none⟩ = some (.int .i64 t0) := blk_cell aF 0
    have r1 : Wf.cell? ⟨A, 1, none⟩ = some (.string t1) := blk_cell aF 1
    have r2 : Wf.cell? ⟨A, 2, none⟩ = some (.int .i64 (t2 : Int)) := blk_cell aF 2
    exact bodyPost_ret (v := tokV (t0, t1, t2)) (by simp [results, Try.results52, go_sem, tokV, r0, r1, r2]) rfl ⟨rfl, rF, gF.none⟩

theorem next_nil (w : World) :
    Calls Try.prog 52 #[.pointer none] w fun e w' => e = .returned (tokV (4, ⟨#[]⟩, 0)) ∧ Chg (fun _ => False) w w' := by
  have pk := hide (fun w => peek_nil 0 w)
  go_enter Try.func52, Try.ntmps52
  go_wp2_with fail
  refine (pk.out _).mono ?_
  rintro e w1 ⟨rfl, g1⟩
  have g0 : Chg (fun _ => False) w (w.alloc (.cells #[.int .i64 0, .string ⟨#[]⟩, .int .i64 0] 75)) := (Chg.refl _ _).alloc _
  have a0 : w1.heap[w.heap.size]? = some (.cells #[.int .i64 0, .string ⟨#[]⟩, .int .i64 0] 75) := (g1.block _ (by simp) (fun h => h)).trans (blk_new w _)
  have lA := blk_lt a0
  have G := hide ((g0.trans g1).alloc (.cells #[.int .i64 4, .string ⟨#[]⟩, .int .i64 0] 75))
  have a1 : (w1.alloc (.cells #[.int .i64 4, .string ⟨#[]⟩, .int .i64 0] 75)).heap[w.heap.size]? = some (.cells #[.int .i64 0, .string ⟨#[]⟩, .int .i64 0] 75) := (Below.heap_alloc _ _ _ lA).trans a0
  have b1 : (w1.alloc (.cells #[.int .i64 4, .string ⟨#[]⟩, .int .i64 0] 75)).heap[w1.heap.size]? = some (.cells #[.int .i64 4, .string ⟨#[]⟩, .int .i64 0] 75) := blk_new _ _
  obtain ⟨W, hW⟩ : ∃ W, W = w1.alloc (.cells #[.int .i64 4, .string ⟨#[]⟩, .int .i64 0] 75) := ⟨_, rfl⟩
  have dAB : w.heap.size ≠ w1.heap.size := by omega
  have etv : tokV (4, ⟨#[]⟩, 0) = .agg #[.int .i64 4, .string ⟨#[]⟩, .int .i64 0] := rfl
  rw [etv]
  go_wp2_with fail
  rw [← hW] at G a1 b1 ⊢
  clear hW
  clear a0 g0 g1 lA pk
  obtain ⟨A, hA⟩ : ∃ A, A = w.heap.size := ⟨_, rfl⟩
  obtain ⟨D, hD⟩ : ∃ D, D = w1.heap.size := ⟨_, rfl⟩
  rw [← hA] at dAB a1
  have lA0 : w.heap.size ≤ A := by omega
  rw [← hD] at dAB b1
  have ca : W.cell? ⟨A, 0, none⟩ = some (.int .i64 0) := blk_cell a1 0
  have ca1 : W.cell? ⟨A, 1, none⟩ = some (.string ⟨#[]⟩) := blk_cell a1 1
  have ca2 : W.cell? ⟨A, 2, none⟩ = some (.int .i64 0) := blk_cell a1 2
  have cb0 : W.cell? ⟨D, 0, none⟩ = some (.int .i64 4) := blk_cell b1 0
  have cb1 : W.cell? ⟨D, 1, none⟩ = some (.string ⟨#[]⟩) := blk_cell b1 1
  have cb2 : W.cell? ⟨D, 2, none⟩ = some (.int .i64 0) := blk_cell b1 2
  have fa0 := blk_free a1 0
  have fa1 := blk_free a1 1
  have fa2 := blk_free a1 2
  rw [← hA, ← hD]
  clear hA hD
  go_region
  go_wp2_with fail
  have hf : Chg (fun b => w.heap.size ≤ b) w (((W.setCell ⟨A, 0, none⟩ (.int .i64 4)).setCell ⟨A, 1, none⟩ (.string ⟨#[]⟩)).setCell ⟨A, 2, none⟩ (.int .i64 0)).drew := (((G.out.none.setCell (p := ⟨A, 0, none⟩) (Or.inr lA0) _).setCell (p := ⟨A, 1, none⟩) (Or.inr lA0) _).setCell (p := ⟨A, 2, none⟩) (Or.inr lA0) _).drew
  have aF : (((W.setCell ⟨A, 0, none⟩ (.int .i64 4)).setCell ⟨A, 1, none⟩ (.string ⟨#[]⟩)).setCell ⟨A, 2, none⟩ (.int .i64 0)).drew.heap[A]? = some (.cells #[.int .i64 4, .string ⟨#[]⟩, .int .i64 0] 75) := blk_set (blk_set (blk_set a1 0 (.int .i64 4)) 1 (.string ⟨#[]⟩)) 2 (.int .i64 0)
  generalize (((W.setCell ⟨A, 0, none⟩ (.int .i64 4)).setCell ⟨A, 1, none⟩ (.string ⟨#[]⟩)).setCell ⟨A, 2, none⟩ (.int .i64 0)).drew = Wf at *
  have r0 : Wf.cell? ⟨A, 0, none⟩ = some (.int .i64 4) := blk_cell aF 0
  have r1 : Wf.cell? ⟨A, 1, none⟩ = some (.string ⟨#[]⟩) := blk_cell aF 1
  have r2 : Wf.cell? ⟨A, 2, none⟩ = some (.int .i64 0) := blk_cell aF 2
  exact bodyPost_ret (v := tokV (4, ⟨#[]⟩, 0)) (by simp [results, Try.results52, go_sem, tokV, r0, r1, r2]) rfl ⟨rfl, hf.mono (fun k hk h => by omega)⟩
end Go.Proofs.Ytboeeaekhijboaa
