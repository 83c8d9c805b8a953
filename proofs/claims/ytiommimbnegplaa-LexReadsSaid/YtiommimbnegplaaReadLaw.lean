/- The two readers side by side: what the law's rounds keep. -/
import Derived.Test.YtiommimbnegplaaReadE
namespace Go.Proofs.Ytiommimbnegplaa
open Go.RowKit
set_option linter.unusedVariables false

theorem lexG_bd (s : ByteArray) : ∀ f k b, k ≤ s.size → ∀ t ∈ (lexG s f k b).1, t.2.2 ≤ s.size ∧ t.2.1.size ≤ s.size := by
  intro f
  induction f with
  | zero => intro k b h t ht; simp [lexG] at ht
  | succ f ih =>
    intro k b h t ht
    simp only [lexG] at ht
    have hsl := skipLen_le (s.data.toList.drop k) b
    simp only [List.length_drop] at hsl
    rw [show s.data.toList.length = s.size by simp] at hsl
    have hfl := firstOf_le (s.data.toList.drop (k + skipLen (s.data.toList.drop k) b))
    simp only [List.length_drop] at hfl
    rw [show s.data.toList.length = s.size by simp] at hfl
    split at ht
    · simp at ht
    · split at ht
      · simp at ht
      · split at ht
        · simp at ht
        · rcases List.mem_cons.1 ht with rfl | ht
          · refine ⟨by dsimp only; omega, ?_⟩
            dsimp only
            rw [ByteArray.size_extract]
            omega
          · exact ih _ _ (by omega) t ht

theorem toks_bd (s : ByteArray) : ∀ t ∈ toksOf (lexG s (s.size + 1) 0 false), t.2.2 ≤ s.size ∧ t.2.1.size ≤ s.size := by
  intro t ht
  unfold toksOf at ht
  split at ht
  · exact lexG_bd s _ _ _ (Nat.zero_le _) t ht
  · cases ht

/-- What every round keeps. -/
structure LS (w0 W : World) (R Q : Nat) (v u : Value) (ts : List Tok) (s : ByteArray) (k : Nat) : Prop where
  rd : Rd W R 85 v s k
  rq : Rd W Q 54 u s k
  tv : Tks W R v ts
  tu : Tks W R u ts
  lt : R < Q
  base : w0.heap.size ≤ R
  le : k ≤ ts.length
  chg : Chg (fun b => w0.heap.size ≤ b) w0 W

theorem LS.keep {w0 W W' : World} {R Q : Nat} {v u : Value} {ts : List Tok} {s : ByteArray} {k : Nat} (h : LS w0 W R Q v u ts s k) (g : Chg (fun _ => False) W W') : LS w0 W' R Q v u ts s k where
  rd := h.rd.chg g (fun h => h)
  rq := h.rq.chg g (fun h => h)
  tv := h.tv.chg g (fun _ _ h => h)
  tu := h.tu.chg g (fun _ _ h => h)
  lt := h.lt
  base := h.base
  le := h.le
  chg := h.chg.trans g.none

theorem LS.step {w0 W W1 W2 : World} {R Q : Nat} {v u : Value} {ts : List Tok} {s : ByteArray} {k j : Nat} (h : LS w0 W R Q v u ts s k) (r1 : Rd W1 R 85 v s j) (g1 : Chg (fun b => b = R) W W1)
    (r2 : Rd W2 Q 54 u s j) (g2 : Chg (fun b => b = Q) W1 W2) (hj : j ≤ ts.length) : LS w0 W2 R Q v u ts s j where
  rd := r1.chg g2 (by have := h.lt; omega)
  rq := r2
  tv := (h.tv.chg g1 (fun b hb e => by omega)).chg g2 (fun b hb e => by have := h.lt; omega)
  tu := (h.tu.chg g1 (fun b hb e => by omega)).chg g2 (fun b hb e => by have := h.lt; omega)
  lt := h.lt
  base := h.base
  le := hj
  chg := (h.chg.trans (g1.mono (fun b _ e => by have := h.base; omega))).trans (g2.mono (fun b _ e => by have := h.base; have := h.lt; omega))

theorem LS.below {w0 W : World} {R Q : Nat} {v u : Value} {ts : List Tok} {s : ByteArray} {k : Nat} (h : LS w0 W R Q v u ts s k) : Below w0.heap.size w0 W := h.chg.below (Nat.le_refl _) (fun _ h => h)

theorem takes_le (ts : List Tok) (s : ByteArray) (k : Nat) (hk : k ≤ ts.length) : ∀ (xs : List ByteArray) (i : Nat), k + i ≤ ts.length → takes (fun i => tokAt ts s k i) i xs = true → k + i + xs.length ≤ ts.length := by
  intro xs
  induction xs with
  | nil => intro i h _; simpa using h
  | cons x r ih =>
    intro i h ht
    simp only [takes, Bool.and_eq_true] at ht
    have h1 : k + i < ts.length := by
      refine Nat.lt_of_not_le fun hn => ?_
      have e : tokAt ts s k (i : Int) = (4, ⟨#[]⟩, s.size) := tokAt_end (Or.inr (by omega))
      have h0 := ht.1
      simp only [e] at h0
      simp [okTok] at h0
    have := ih (i + 1) (by omega) ht.2
    simp only [List.length_cons]
    omega

theorem Txs.up {w : World} {B B' : Nat} {a : Option Addr} {xs : List ByteArray} (h : Txs w B a xs) (hb : B ≤ B') : Txs w B' a xs := by
  rcases h with h | ⟨g, off, e, hg, hr⟩
  · exact Or.inl h
  · exact Or.inr ⟨g, off, e, by omega, hr⟩

/-- A row of acts: kind, number, texts. -/
structure RAct where
  kind : Int
  n : Int
  a : Option Addr
  len : Nat
  cap : Nat
  xs : List ByteArray

def RActOk (w : World) (f : RAct) : Prop :=
  f.len ≤ f.cap ∧ f.cap ≤ 9223372036854775807 ∧ (f.a = none → f.len = 0 ∧ f.cap = 0) ∧ f.xs.length = min f.len 5 ∧ Txs w w.heap.size f.a f.xs

def RRow (w : World) (g off : Nat) (fs : List RAct) : Prop :=
  ∀ i (h : i < fs.length), w.cell? ⟨g, off + i * 3, none⟩ = some (.int .i64 (fs[i]'h).kind) ∧ w.cell? ⟨g, off + i * 3 + 1, none⟩ = some (.int .i64 (fs[i]'h).n) ∧
    w.cell? ⟨g, off + i * 3 + 2, none⟩ = some (.slice (fs[i]'h).a (fs[i]'h).len (fs[i]'h).cap) ∧ RActOk w (fs[i]'h)

end Go.Proofs.Ytiommimbnegplaa
