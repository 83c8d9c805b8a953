/- lex's readers, the program's and the document's: what each call does to their memory. -/
import Derived.Test.YtboeeaekhijboaaSame
import Derived.Test.YtboeeaekhijboaaToks
import Derived.Deep.QuietTactic
namespace Go.Proofs.Ytboeeaekhijboaa
open Go.RowKit
set_option linter.unusedVariables false
set_option linter.unusedSimpArgs false

/-- The block R holds a reader: its tokens, its text, its place. -/
def Rd (w : World) (R : Nat) (T : TypeId) (v : Value) (s : ByteArray) (k : Nat) : Prop :=
  w.heap[R]? = some (.cells #[v, .string s, .int .i64 (k : Int)] T)

theorem Chg.cell {S : Nat → Prop} {w w' : World} (h : Chg S w w') {g i : Nat} {v : Value} (hn : ¬ S g) (hc : w.cell? ⟨g, i, none⟩ = some v) : w'.cell? ⟨g, i, none⟩ = some v :=
  (World.cell?_of_block (w := w) (a := ⟨g, i, none⟩) (h.block g (World.block_lt_of_cell? w _ hc) hn)).trans hc

theorem Rd.chg {w w' : World} {R : Nat} {T : TypeId} {v : Value} {s : ByteArray} {k : Nat} (h : Rd w R T v s k) {S : Nat → Prop} (g : Chg S w w') (hn : ¬ S R) : Rd w' R T v s k := by
  unfold Rd at *
  rw [g.block R (blk_lt h) hn]
  exact h

/-- A slice value that reads as these tokens, in a block below B. -/
def Tks (w : World) (B : Nat) (v : Value) (ts : List Tok) : Prop :=
  ∃ a cap, v = .slice a ts.length cap ∧ (ts = [] ∨ ∃ g, a = some ⟨g, 0, none⟩ ∧ g < B ∧ TokRow w g ts)

theorem Tks.chg {w w' : World} {B : Nat} {v : Value} {ts : List Tok} (h : Tks w B v ts) {S : Nat → Prop} (g : Chg S w w') (hn : ∀ k, k < B → ¬ S k) : Tks w' B v ts := by
  obtain ⟨a, cap, rfl, h1⟩ := h
  refine ⟨a, cap, rfl, ?_⟩
  rcases h1 with h1 | ⟨b, rfl, hb, hr⟩
  · exact Or.inl h1
  · refine Or.inr ⟨b, rfl, hb, fun i hi => ?_⟩
    obtain ⟨x, y, z⟩ := hr i hi
    exact ⟨g.cell (hn b hb) x, g.cell (hn b hb) y, g.cell (hn b hb) z⟩

/-- The token so far on; behind the last one: the end. -/
def tokAt (ts : List Tok) (s : ByteArray) (k : Nat) (n : Int) : Tok :=
  if n < 0 ∨ (ts.length : Int) - k ≤ n then (4, ⟨#[]⟩, s.size) else ts.getD (k + n.toNat) (4, ⟨#[]⟩, s.size)
def tokV (t : Tok) : Value := .agg #[.int .i64 t.1, .string t.2.1, .int .i64 (t.2.2 : Int)]

theorem tokAt_end {ts : List Tok} {s : ByteArray} {k : Nat} {n : Int} (h : n < 0 ∨ (ts.length : Int) - k ≤ n) : tokAt ts s k n = (4, ⟨#[]⟩, s.size) := by unfold tokAt; rw [if_pos h]
theorem tokAt_in {ts : List Tok} {s : ByteArray} {k : Nat} {n : Int} (h0 : 0 ≤ n) (h1 : n < (ts.length : Int) - k) (hj : k + n.toNat < ts.length) : tokAt ts s k n = ts[k + n.toNat] := by
  unfold tokAt
  rw [if_neg (by omega)]
  simp [List.getD, hj]


set_option maxRecDepth 100000 in
set_option maxHeartbeats 2000000 in
theorem peek_some (R B : Nat) (v : Value) (ts : List Tok) (s : ByteArray) (k : Nat) (n : Int) (hk : k ≤ ts.length) (hl : ts.length ≤ 1000000) (hs : s.size ≤ 1000000) (w : World)
    (h : Rd w R 106 v s k) (hv : Tks w B v ts) :
    Calls Try.prog 32 #[.pointer (some ⟨R, 0, none⟩), .int .i64 n] w fun e w' => e = .returned (tokV (tokAt ts s k n)) ∧ Chg (fun _ => False) w w' := by
  obtain ⟨a, cap, rfl, hr⟩ := hv
  have c0 : w.cell? ⟨R, 0, none⟩ = some (.slice a ts.length cap) := blk_cell h 0
  have c1 : w.cell? ⟨R, 1, none⟩ = some (.string s) := blk_cell h 1
  have c2 : w.cell? ⟨R, 2, none⟩ = some (.int .i64 (k : Int)) := blk_cell h 2
  have lR := blk_lt h
  clear h
  by_cases h1 : n < 0
  · rw [tokAt_end (Or.inl h1)]
    clear hr
    go_enter Try.func32, Try.ntmps32
    go_wp2_with fail
    go_region
    go_wp2_with fail
    refine bodyPost_ret (v := tokV (4, ⟨#[]⟩, s.size)) (by simp [results, Try.results32, go_sem, tokV]) rfl ⟨rfl, ?_⟩
    exact ((Chg.refl _ _).alloc _).drew
  · have q1 : decide (n < 0) = false := by simp; omega
    by_cases h2 : (ts.length : Int) - (k : Int) ≤ n
    · rw [tokAt_end (Or.inr h2)]
      have q2 : decide ((ts.length : Int) - (k : Int) ≤ n) = true := by simp; omega
      have e1 : IntKind.i64.wrap ((ts.length : Int) - (k : Int)) = (ts.length : Int) - (k : Int) := IntWalk.i64_in _ (by omega)
      clear hr
      go_enter Try.func32, Try.ntmps32
      go_wp2_with fail
      go_region
      go_wp2_with fail
      refine bodyPost_ret (v := tokV (4, ⟨#[]⟩, s.size)) (by simp [results, Try.results32, go_sem, tokV]) rfl ⟨rfl, ?_⟩
      exact ((Chg.refl _ _).alloc _).drew
    · have hj : k + n.toNat < ts.length := by omega
      have q2 : decide ((ts.length : Int) - (k : Int) ≤ n) = false := by simp; omega
      rw [tokAt_in (by omega) (by omega) hj]
      have e1 : IntKind.i64.wrap ((ts.length : Int) - (k : Int)) = (ts.length : Int) - (k : Int) := IntWalk.i64_in _ (by omega)
      have e2 : IntKind.i64.wrap ((k : Int) + n) = (k : Int) + n := IntWalk.i64_in _ (by omega)
      have e3 : (0 : Int) ≤ (k : Int) + n := by omega
      have e4 : (k : Int) + n < (ts.length : Int) := by omega
      have e5 : ((k : Int) + n).toNat = k + n.toNat := by omega
      rcases hr with rfl | ⟨g, rfl, hg, hr⟩
      · simp at hj
      · obtain ⟨b0, b1, b2⟩ := hr _ hj
        generalize ts[k + n.toNat] = t at *
        generalize k + n.toNat = j at *
        obtain ⟨t0, t1, t2⟩ := t
        clear hr
        have lg : g < w.heap.size := World.block_lt_of_cell? w _ b0
        dsimp only at b0 b1 b2
        go_enter Try.func32, Try.ntmps32
        go_wp2_with fail
        go_region
        go_wp2_with fail
        go_region
        go_wp2_with fail
        refine bodyPost_ret (v := tokV (t0, t1, t2)) (by simp [results, Try.results32, go_sem, tokV]) rfl ⟨rfl, ?_⟩
        exact ((Chg.refl _ _).alloc _).drew.drew

theorem peek_nil (n : Int) (w : World) :
    Calls Try.prog 32 #[.pointer none, .int .i64 n] w fun e w' => e = .returned (tokV (4, ⟨#[]⟩, 0)) ∧ Chg (fun _ => False) w w' := by
  go_enter Try.func32, Try.ntmps32
  go_wp2_with fail
  refine bodyPost_ret (v := tokV (4, ⟨#[]⟩, 0)) (by simp [results, Try.results32, go_sem, tokV]) rfl ⟨rfl, ?_⟩
  exact (Chg.refl _ _).alloc _
end Go.Proofs.Ytboeeaekhijboaa
