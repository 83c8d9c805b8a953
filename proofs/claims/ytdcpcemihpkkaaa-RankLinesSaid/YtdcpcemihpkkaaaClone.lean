/- slices.Clone of rows of twos. -/
import Derived.Test.YtdcpcemihpkkaaaOuts
import Derived.Lib.SliceRun
import Derived.Deep.AppendLies
import Derived.OwnWalk
namespace Go.Proofs.Ytdcpcemihpkkaaa
open Go.RowKit
set_option linter.unusedVariables false
set_option linter.unusedSimpArgs false

def cells2 (l : List (Int × Int)) : List Value := l.flatMap fun p => [.int .i64 p.1, .int .i64 p.2]
theorem cells2_cons (p : Int × Int) (r : List (Int × Int)) : cells2 (p :: r) = [.int .i64 p.1, .int .i64 p.2] ++ cells2 r := rfl
theorem cells2_len (l : List (Int × Int)) : (cells2 l).length = l.length * 2 := by
  induction l with
  | nil => rfl
  | cons p r ih => rw [cells2_cons, List.length_append, ih]; simp; omega
theorem cells2_app (l r : List (Int × Int)) : cells2 (l ++ r) = cells2 l ++ cells2 r := by simp [cells2]

theorem cells2_get (l : List (Int × Int)) (i : Nat) (h : i < l.length) : (cells2 l)[i * 2]? = some (.int .i64 l[i].1) ∧ (cells2 l)[i * 2 + 1]? = some (.int .i64 l[i].2) := by
  induction l generalizing i with
  | nil => simp at h
  | cons p r ih =>
    cases i with
    | zero => rw [cells2_cons]; simp
    | succ i =>
      obtain ⟨a, b⟩ := ih i (by simpa using h)
      have l2 : ([.int .i64 p.1, .int .i64 p.2] : List Value).length = 2 := rfl
      rw [cells2_cons, List.getElem?_append_right (by rw [l2]; omega), List.getElem?_append_right (by rw [l2]; omega), l2]
      rw [show (i + 1) * 2 - 2 = i * 2 by omega, show (i + 1) * 2 + 1 - 2 = i * 2 + 1 by omega]
      simpa using ⟨a, b⟩

theorem cells2_at (l : List (Int × Int)) (j : Nat) (u : Value) (h : (cells2 l)[j]? = some u) : ∃ i, ∃ hi : i < l.length, (j = i * 2 ∧ u = .int .i64 l[i].1) ∨ (j = i * 2 + 1 ∧ u = .int .i64 l[i].2) := by
  have hj : j < l.length * 2 := by
    have := (List.getElem?_eq_some_iff.1 h).1
    rw [cells2_len] at this
    exact this
  have hi : j / 2 < l.length := by omega
  obtain ⟨a, b⟩ := cells2_get l (j / 2) hi
  refine ⟨j / 2, hi, ?_⟩
  have hr : j % 2 = 0 ∨ j % 2 = 1 := by omega
  rcases hr with hr | hr
  · rw [show j / 2 * 2 = j by omega] at a
    exact Or.inl ⟨by omega, Option.some.inj (h.symm.trans a)⟩
  · rw [show j / 2 * 2 + 1 = j by omega] at b
    exact Or.inr ⟨by omega, Option.some.inj (h.symm.trans b)⟩

theorem cells2_one (l : List (Int × Int)) : ∀ u ∈ cells2 l, u.oneCell' = true := by
  intro u hu
  obtain ⟨j, hj⟩ := List.mem_iff_getElem?.1 hu
  obtain ⟨i, hi, ⟨_, rfl⟩ | ⟨_, rfl⟩⟩ := cells2_at l j u hj <;> rfl

theorem add_at (g off j : Nat) : (⟨g, off, none⟩ : Addr).add j = ⟨g, off + j, none⟩ := by unfold Addr.add; split <;> simp_all

theorem irow_news {w : World} {B : Nat} {a : Option Addr} {cap : Nat} {l : List (Int × Int)} {ad : Addr} (h : IRow w B (.slice (some ad) l.length cap) l) : ∀ j u, (cells2 l)[j]? = some u → w.cell? (ad.add j) = some u := by
  obtain ⟨a, c, e, h1⟩ := h
  intro j u hu
  rcases h1 with h1 | ⟨g, off, e1, h2, h3⟩
  · subst h1; cases hu
  · subst e1
    cases e
    obtain ⟨i, hi, ⟨rfl, rfl⟩ | ⟨rfl, rfl⟩⟩ := cells2_at l j u hu
    · rw [add_at]; exact (h3 i hi).1
    · rw [add_at, ← Nat.add_assoc]; exact (h3 i hi).2

theorem irow_own {w : World} {base : Nat} {e : TypeId} {v : Value} {l : List (Int × Int)} (h : w.ownsRow base e 2 v l.length (cells2 l)) : IRow w w.heap.size v l := by
  obtain ⟨h1, h2⟩ := id h
  rcases h2 with ⟨rfl, h3⟩ | ⟨g, cap, cur, rfl, h3⟩
  · exact ⟨none, 0, by rw [h3], Or.inl (List.eq_nil_of_length_eq_zero h3)⟩
  · refine ⟨_, cap, rfl, Or.inr ⟨g, 0, rfl, (h.lt g rfl).2, fun i hi => ?_⟩⟩
    obtain ⟨a, b⟩ := cells2_get l i hi
    have hc := h.cells (g := g) rfl
    have ha := hc _ _ a
    have hb := hc _ _ b
    rw [add_at] at ha hb
    rw [Nat.zero_add] at ha hb
    exact ⟨by rw [Nat.zero_add]; exact ha, by rw [Nat.zero_add]; exact hb⟩

theorem own_empty (w : World) (T : TypeId) (n : Nat) : (w.alloc (.cells #[] T)).ownsRow w.heap.size T n (.slice (some ⟨w.heap.size, 0, none⟩) 0 0) 0 [] :=
  ⟨by simp, Or.inr ⟨w.heap.size, 0, #[], rfl, Nat.le_refl _, blk_new w _, Nat.le_refl _, Nat.zero_le _, by simp, by simp⟩⟩

theorem grown_no {w w' : World} {o : Obj} (h : (w.alloc o).grownBy w' (some w.heap.size)) : Chg (fun _ => False) w w' :=
  ((al w o).grown (S := fun _ => False) h (fun r e => Or.inr (by cases e; exact Nat.le_refl _)))

theorem info43 : (Try.prog.info? 43).map (fun i => (i.zero, i.size, i.bytes)) = some (some (.agg #[.int .i64 0, .int .i64 0]), 2, 16) := by kernel_rfl
theorem info52 : (Try.prog.info? 52).map (fun i => (i.zero, i.size, i.bytes)) = some (some (.agg #[.int .i64 0, .int .i64 0]), 2, 16) := by kernel_rfl

theorem clone_pairs_none (cap : Nat) (w : World) :
    Calls Try.prog 36 #[.slice none 0 cap] w fun e w' => e = .returned (.slice none 0 0) ∧ Chg (fun _ => False) w w' := by
  have he : (binOp .eql 22 (.slice none 0 cap) (.slice none 0 0)).run Try.prog w = .ok (.bool true) w := by
    rw [Lib.run_eql_slice_nil w 22 43 _ _ _ _ _ Try.underlying22]; rfl
  go_enter Try.func36, Try.ntmps36
  go_wp2_with fail
  go_ret
  exact ⟨rfl, Chg.refl _ _⟩

set_option maxRecDepth 100000 in
set_option maxHeartbeats 4000000 in
theorem clone_pairs_some (ad : Addr) (cap : Nat) (l : List (Int × Int)) (hl : l.length ≤ 1000000) (w : World) (hn : ∀ j u, (cells2 l)[j]? = some u → (w.alloc (.cells #[] 43)).cell? (ad.add j) = some u) :
    Calls Try.prog 36 #[.slice (some ad) l.length cap] w fun e w' => (∃ v, e = .returned v ∧ IRow w' w'.heap.size v l) ∧ Chg (fun _ => False) w w' := by
  have he : (binOp .eql 22 (.slice (some ad) l.length cap) (.slice none 0 0)).run Try.prog w = .ok (.bool false) w := by
    rw [Lib.run_eql_slice_nil w 22 43 _ _ _ _ _ Try.underlying22]; rfl
  obtain ⟨i0, hi0, hz0, hz1, hz2⟩ := info_parts info43
  have own := hide (own_empty w 43 2)
  have hlen := cells2_len l
  have hone := cells2_one l
  have N := hide hn
  have fin : ∀ v' w1, w1.ownsRow w.heap.size 43 2 v' (0 + l.length) ([] ++ cells2 l) → (w.alloc (.cells #[] 43)).grownBy w1 (some w.heap.size) → IRow w1 w1.heap.size v' l ∧ Chg (fun _ => False) w w1 := by
    intro v' w1 h1 h2
    rw [Nat.zero_add, List.nil_append] at h1
    exact ⟨irow_own h1, grown_no h2⟩
  have Fin := hide fin
  clear fin hn
  go_enter Try.func36, Try.ntmps36
  go_wp2_with (at_builtin; refine wpList_append_own _ rfl _ _ 22 rfl w.heap.size 43 i0 (.agg #[.int .i64 0, .int .i64 0]) 2 16 Try.underlying22 hi0 hz0 hz1 hz2 rfl (by decide) _ 0 [] rfl own.out ad l.length cap (cells2 l) rfl hlen N.out hone (by simp [maxLen]; omega) (by omega) (by simp) ?_; intro v' w1 hown1 hgrow _)
  have F := hide (Fin.out v' w1 hown1 hgrow)
  clear hown1 hgrow
  go_wp2_with fail
  go_ret
  exact ⟨⟨v', rfl, F.out.1⟩, F.out.2⟩

theorem clone_pairs_any (v : Value) (l : List (Int × Int)) (hl : l.length ≤ 1000000) (B : Nat) (w : World) (hv : IRow w B v l) :
    Calls Try.prog 36 #[v] w fun e w' => (∃ v, e = .returned v ∧ IRow w' w'.heap.size v l) ∧ Chg (fun _ => False) w w' := by
  have hv' := hv
  obtain ⟨a, cap, rfl, h⟩ := hv
  cases a with
  | none =>
    have h0 : l = [] := by
      rcases h with h | ⟨g, off, hg, _⟩
      · exact h
      · cases hg
    subst h0
    exact (clone_pairs_none cap w).mono fun e w' ⟨he, hc⟩ => ⟨⟨_, he, none, 0, rfl, Or.inl rfl⟩, hc⟩
  | some ad =>
    refine clone_pairs_some ad cap l hl w ?_
    intro j u hu
    have h1 := irow_news (a := none) hv' j u hu
    rcases h with h | ⟨g, off, hg, _⟩
    · subst h; cases hu
    cases hg
    rw [add_at] at h1 ⊢
    exact (al w _).cell (fun h => h) h1

theorem clone_stats_none (cap : Nat) (w : World) :
    Calls Try.prog 37 #[.slice none 0 cap] w fun e w' => e = .returned (.slice none 0 0) ∧ Chg (fun _ => False) w w' := by
  have he : (binOp .eql 49 (.slice none 0 cap) (.slice none 0 0)).run Try.prog w = .ok (.bool true) w := by
    rw [Lib.run_eql_slice_nil w 49 52 _ _ _ _ _ Try.underlying49]; rfl
  go_enter Try.func37, Try.ntmps37
  go_wp2_with fail
  go_ret
  exact ⟨rfl, Chg.refl _ _⟩

set_option maxRecDepth 100000 in
set_option maxHeartbeats 4000000 in
theorem clone_stats_some (ad : Addr) (cap : Nat) (l : List (Int × Int)) (hl : l.length ≤ 1000000) (w : World) (hn : ∀ j u, (cells2 l)[j]? = some u → (w.alloc (.cells #[] 52)).cell? (ad.add j) = some u) :
    Calls Try.prog 37 #[.slice (some ad) l.length cap] w fun e w' => (∃ v, e = .returned v ∧ IRow w' w'.heap.size v l) ∧ Chg (fun _ => False) w w' := by
  have he : (binOp .eql 49 (.slice (some ad) l.length cap) (.slice none 0 0)).run Try.prog w = .ok (.bool false) w := by
    rw [Lib.run_eql_slice_nil w 49 52 _ _ _ _ _ Try.underlying49]; rfl
  obtain ⟨i0, hi0, hz0, hz1, hz2⟩ := info_parts info52
  have own := hide (own_empty w 52 2)
  have hlen := cells2_len l
  have hone := cells2_one l
  have N := hide hn
  have fin : ∀ v' w1, w1.ownsRow w.heap.size 52 2 v' (0 + l.length) ([] ++ cells2 l) → (w.alloc (.cells #[] 52)).grownBy w1 (some w.heap.size) → IRow w1 w1.heap.size v' l ∧ Chg (fun _ => False) w w1 := by
    intro v' w1 h1 h2
    rw [Nat.zero_add, List.nil_append] at h1
    exact ⟨irow_own h1, grown_no h2⟩
  have Fin := hide fin
  clear fin hn
  go_enter Try.func37, Try.ntmps37
  go_wp2_with (at_builtin; refine wpList_append_own _ rfl _ _ 49 rfl w.heap.size 52 i0 (.agg #[.int .i64 0, .int .i64 0]) 2 16 Try.underlying49 hi0 hz0 hz1 hz2 rfl (by decide) _ 0 [] rfl own.out ad l.length cap (cells2 l) rfl hlen N.out hone (by simp [maxLen]; omega) (by omega) (by simp) ?_; intro v' w1 hown1 hgrow _)
  have F := hide (Fin.out v' w1 hown1 hgrow)
  clear hown1 hgrow
  go_wp2_with fail
  go_ret
  exact ⟨⟨v', rfl, F.out.1⟩, F.out.2⟩

theorem clone_stats_any (v : Value) (l : List (Int × Int)) (hl : l.length ≤ 1000000) (B : Nat) (w : World) (hv : IRow w B v l) :
    Calls Try.prog 37 #[v] w fun e w' => (∃ v, e = .returned v ∧ IRow w' w'.heap.size v l) ∧ Chg (fun _ => False) w w' := by
  have hv' := hv
  obtain ⟨a, cap, rfl, h⟩ := hv
  cases a with
  | none =>
    have h0 : l = [] := by
      rcases h with h | ⟨g, off, hg, _⟩
      · exact h
      · cases hg
    subst h0
    exact (clone_stats_none cap w).mono fun e w' ⟨he, hc⟩ => ⟨⟨_, he, none, 0, rfl, Or.inl rfl⟩, hc⟩
  | some ad =>
    refine clone_stats_some ad cap l hl w ?_
    intro j u hu
    have h1 := irow_news (a := none) hv' j u hu
    rcases h with h | ⟨g, off, hg, _⟩
    · subst h; cases hu
    cases hg
    rw [add_at] at h1 ⊢
    exact (al w _).cell (fun h => h) h1

end Go.Proofs.Ytdcpcemihpkkaaa
