/- Rows of types, cut: f[n:] and f[:n:n]. -/
import Derived.Test.YtnpcapdlgcaniaaDoorRefAll
import Derived.Test.YtnpcapdlgcaniaaDoorFew
namespace Go.Proofs.YtnpcapdlgcaniaaDoor
open Go.RowKit
set_option linter.unusedVariables false
set_option linter.unusedSimpArgs false

/-- the first n types of a row -/
def Fs.to (f : Fs) (n : Nat) : Fs := Fs.ofL (f.toL.take n)
theorem Fs.to_len (f : Fs) (n : Nat) (h : n ≤ f.len) : (f.to n).len = n := by
  rw [← Fs.toL_len, Fs.to, Fs.toL_ofL, List.length_take, Fs.toL_len]; omega
theorem Fs.from_len (f : Fs) (n : Nat) : (f.from n).len = f.len - n := by
  rw [← Fs.toL_len, Fs.from, Fs.toL_ofL, List.length_drop, Fs.toL_len]
theorem lies_from {w : World} {X : Nat → Prop} {f : Fs} {g off : Nat} (h : Lies w X f g off) (n : Nat) : Lies w X (f.from n) g (off + n * 2) := by
  refine lies_mk (fun i hi => ?_)
  have e : (f.from n).toL = f.toL.drop n := Fs.toL_ofL _
  have hi2 : n + i < f.toL.length := by rw [e, List.length_drop] at hi; omega
  have := lies_get h (n + i) hi2
  simp only [e, List.getElem_drop]
  rw [show off + n * 2 + i * 2 = off + (n + i) * 2 by omega]
  exact this
theorem lies_to {w : World} {X : Nat → Prop} {f : Fs} {g off : Nat} (h : Lies w X f g off) (n : Nat) : Lies w X (f.to n) g off := by
  refine lies_mk (fun i hi => ?_)
  have e : (f.to n).toL = f.toL.take n := Fs.toL_ofL _
  have hi2 : i < f.toL.length := by rw [e, List.length_take] at hi; omega
  have := lies_get h i hi2
  simp only [e, List.getElem_take]
  exact this
/-- where f[n:] lies -/
def dropA (a : Option Addr) (cap n : Nat) : Option Addr := if cap = n then a else a.map (·.add (n * 2))
theorem ts_from {w : World} {X : Nat → Prop} {a : Option Addr} {cap : Nat} {f : Fs} (h : Ts w X (.slice a f.len cap) f) (hc : f.len ≤ cap) (n : Nat) (hn : n ≤ f.len) : Ts w X (.slice (dropA a cap n) (f.len - n) (cap - n)) (f.from n) := by
  refine ⟨dropA a cap n, cap - n, by rw [Fs.from_len], ?_⟩
  by_cases e : f.len - n = 0
  · exact Or.inl (Fs.len_nil (by rw [Fs.from_len]; exact e))
  · obtain ⟨a', c', ev, hl⟩ := h
    injection ev with e1 e2 e3
    subst e1
    rcases hl with rfl | ⟨g, off, rfl, hg, hl⟩
    · exact absurd (by simp [Fs.len]) e
    · right
      unfold dropA
      rw [if_neg (by omega)]
      exact ⟨g, off + n * 2, by simp [add_at], hg, lies_from hl n⟩
theorem ts_to {w : World} {X : Nat → Prop} {a : Option Addr} {cap : Nat} {f : Fs} (h : Ts w X (.slice a f.len cap) f) (n m : Nat) (hn : n ≤ f.len) : Ts w X (.slice a n m) (f.to n) := by
  refine ⟨a, m, by rw [Fs.to_len f n hn], ?_⟩
  obtain ⟨a', c', ev, hl⟩ := h
  injection ev with e1 e2 e3
  subst e1
  rcases hl with rfl | ⟨g, off, rfl, hg, hl⟩
  · exact Or.inl (by unfold Fs.to; simp [Fs.toL, Fs.ofL])
  · exact Or.inr ⟨g, off, rfl, hg, lies_to hl n⟩
theorem size73 : (Tryd.prog.info? 73).map (fun i => (i.zero, i.size, i.bytes)) = some (some (.agg #[.slice none 0 0, .int .i64 0]), 2, 32) := by kernel_rfl
theorem size92 : (Tryd.prog.info? 92).map (fun i => (i.zero, i.size, i.bytes)) = some (some (.agg #[.slice none 0 0, .int .i64 0]), 2, 32) := by kernel_rfl
theorem run_from31 (a : Option Addr) (len cap n : Nat) (hc : len ≤ cap) (hn : n ≤ len) (w : World) : (Instr.slice 31 (.slice a len cap) (some (.int .i64 n)) none none).run Tryd.prog w = .ok (.slice (dropA a cap n) (len - n) (cap - n)) w := by
  have q2 : ¬ (len < n) := by omega
  obtain ⟨i0, hi0, hz0, hz1, hz2⟩ := info_parts size73
  simp [Instr.slice, Instr.sliceBounds, Instr.sliceBound, run_underlying Tryd.underlying31, asIntOf, sizeOf, typeInfo, hi0, hz1, go_sem, q2, dropA]
theorem run_to31 (a : Option Addr) (len cap n : Nat) (hc : n ≤ cap) (w : World) : (Instr.slice 31 (.slice a len cap) none (some (.int .i64 n)) (some (.int .i64 n))).run Tryd.prog w = .ok (.slice a n n) w := by
  have q2 : ¬ (cap < n) := by omega
  obtain ⟨i0, hi0, hz0, hz1, hz2⟩ := info_parts size73
  simp [Instr.slice, Instr.sliceBounds, Instr.sliceBound, run_underlying Tryd.underlying31, asIntOf, sizeOf, typeInfo, hi0, hz1, go_sem, q2]
theorem run_from22 (a : Option Addr) (len cap n : Nat) (hn : n ≤ len) (w : World) : (Instr.slice 22 (.slice a len cap) (some (.int .i64 n)) none none).run Tryd.prog w = .ok (.slice (dropA a cap n) (len - n) (cap - n)) w := by
  have q2 : ¬ (len < n) := by omega
  obtain ⟨i0, hi0, hz0, hz1, hz2⟩ := info_parts size92
  simp [Instr.slice, Instr.sliceBounds, Instr.sliceBound, run_underlying Tryd.underlying22, asIntOf, sizeOf, typeInfo, hi0, hz1, go_sem, q2, dropA]
end Go.Proofs.YtnpcapdlgcaniaaDoor
