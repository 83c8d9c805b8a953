/- slices.Clone of a row of strings. -/
import Derived.Test.YtdoohocdaacnaaaDoorCheckT
import Derived.Lib.SliceRun
namespace Go.Proofs.YtdoohocdaacnaaaDoor
open Go.RowKit Go.Maps
set_option linter.unusedVariables false
set_option linter.unusedSimpArgs false

theorem info9 : (Tryd.prog.info? 9).map (fun i => (i.zero, i.size, i.bytes)) = some (some (.string ⟨#[]⟩), 1, 16) := by kernel_rfl
theorem own_empty (w : World) (T : TypeId) (n : Nat) : (w.alloc (.cells #[] T)).ownsRow w.heap.size T n (.slice (some ⟨w.heap.size, 0, none⟩) 0 0) 0 [] :=
  ⟨by simp, Or.inr ⟨w.heap.size, 0, #[], rfl, Nat.le_refl _, blk_new w _, Nat.le_refl _, Nat.zero_le _, by simp, by simp⟩⟩
theorem grown_no {w w' : World} {o : Obj} (h : (w.alloc o).grownBy w' (some w.heap.size)) : Chg (fun _ => False) w w' :=
  ((al w o).grown (S := fun _ => False) h (fun r e => Or.inr (by cases e; exact Nat.le_refl _)))

/-- An own row of strings is a row of strings. -/
theorem strs_own {w : World} {base : Nat} {v : Value} {l : List ByteArray} (hl : ∀ s ∈ l, s.size ≤ maxLen) (h : w.ownsRow base 9 1 v l.length (l.map Value.string)) {X : Nat → Prop} (hX : ∀ r, v.ownBlock = some r → X r) : Strs w X v l := by
  refine ⟨hl, ?_⟩
  obtain ⟨h1, h2⟩ := id h
  rcases h2 with ⟨rfl, h3⟩ | ⟨g, cap, cur, rfl, h3⟩
  · exact ⟨none, 0, by rw [h3], Or.inl (List.eq_nil_of_length_eq_zero h3)⟩
  · refine ⟨_, cap, rfl, Or.inr ⟨g, 0, rfl, hX g rfl, fun i hi => ?_⟩⟩
    have hc := h.cells (g := g) rfl i (.string l[i]) (by simp [hi])
    rw [add_at] at hc
    exact hc

theorem clone_none (cap : Nat) (w : World) : Calls Tryd.prog 48 #[.slice none 0 cap] w fun e w' => e = .returned (.slice none 0 0) ∧ Chg (fun _ => False) w w' := by
  have he : (binOp .eql 23 (.slice none 0 cap) (.slice none 0 0)).run Tryd.prog w = .ok (.bool true) w := by
    rw [Lib.run_eql_slice_nil w 23 9 _ _ _ _ _ Tryd.underlying23]; rfl
  go_enter Tryd.func48, Tryd.ntmps48
  go_wp2_with fail
  go_ret
  exact ⟨rfl, Chg.refl _ _⟩

set_option maxRecDepth 100000 in
set_option maxHeartbeats 4000000 in
theorem clone_some (ad : Addr) (cap : Nat) (l : List ByteArray) (hl : l.length ≤ 1000000) (hs : ∀ s ∈ l, s.size ≤ maxLen) (w : World) (hn : ∀ j u, (l.map Value.string)[j]? = some u → (w.alloc (.cells #[] 9)).cell? (ad.add j) = some u) :
    Calls Tryd.prog 48 #[.slice (some ad) l.length cap] w fun e w' => (∃ v, e = .returned v ∧ Strs w' (fun x => w.heap.size ≤ x ∧ x < w'.heap.size) v l) ∧ Chg (fun _ => False) w w' := by
  have he : (binOp .eql 23 (.slice (some ad) l.length cap) (.slice none 0 0)).run Tryd.prog w = .ok (.bool false) w := by
    rw [Lib.run_eql_slice_nil w 23 9 _ _ _ _ _ Tryd.underlying23]; rfl
  obtain ⟨i0, hi0, hz0, hz1, hz2⟩ := info_parts info9
  have own := hide (own_empty w 9 1)
  have hlen : (l.map Value.string).length = l.length * 1 := by simp
  have hone : ∀ u ∈ l.map Value.string, u.oneCell' = true := fun u hu => by obtain ⟨s, _, rfl⟩ := List.mem_map.1 hu; rfl
  have N := hide hn
  have fin : ∀ v' w1, w1.ownsRow w.heap.size 9 1 v' (0 + l.length) ([] ++ l.map Value.string) → (w.alloc (.cells #[] 9)).grownBy w1 (some w.heap.size) → Strs w1 (fun x => w.heap.size ≤ x ∧ x < w1.heap.size) v' l ∧ Chg (fun _ => False) w w1 := by
    intro v' w1 h1 h2
    rw [Nat.zero_add, List.nil_append] at h1
    exact ⟨strs_own hs h1 (fun r e => World.ownsRow.lt h1 r e), grown_no h2⟩
  have Fin := hide fin
  clear fin hn hs
  go_enter Tryd.func48, Tryd.ntmps48
  go_wp2_with (at_builtin; refine wpList_append_own _ rfl _ _ 23 rfl w.heap.size 9 i0 (.string ⟨#[]⟩) 1 16 Tryd.underlying23 hi0 hz0 hz1 hz2 rfl (by decide) _ 0 [] rfl own.out ad l.length cap (l.map Value.string) rfl hlen N.out hone (by simp [maxLen]; omega) (by omega) (by simp) ?_; intro v' w1 hown1 hgrow _)
  have F := hide (Fin.out v' w1 hown1 hgrow)
  clear hown1 hgrow
  go_wp2_with fail
  go_ret
  exact ⟨⟨v', rfl, F.out.1⟩, F.out.2⟩

theorem clone_any (v : Value) (l : List ByteArray) (hl : l.length ≤ 1000000) (X : Nat → Prop) (w : World) (hv : Strs w X v l) :
    Calls Tryd.prog 48 #[v] w fun e w' => (∃ v, e = .returned v ∧ Strs w' (fun x => w.heap.size ≤ x ∧ x < w'.heap.size) v l) ∧ Chg (fun _ => False) w w' := by
  obtain ⟨hs, a, cap, rfl, h⟩ := hv
  cases a with
  | none =>
    have h0 : l = [] := by
      rcases h with h | ⟨g, off, hg, _⟩
      · exact h
      · cases hg
    subst h0
    exact (clone_none cap w).mono fun e w' ⟨he, hc⟩ => ⟨⟨_, he, hs, none, 0, rfl, Or.inl rfl⟩, hc⟩
  | some ad =>
    refine clone_some ad cap l hl hs w ?_
    intro j u hu
    rcases h with h | ⟨g, off, hg, _, h3⟩
    · subst h; cases hu
    cases hg
    rw [add_at]
    have hj : j < l.length := by
      have := (List.getElem?_eq_some_iff.1 hu).1
      simpa using this
    rw [List.getElem?_map, List.getElem?_eq_getElem hj] at hu
    cases hu
    exact (al w _).cell (fun h => h) (h3 j hj)
end Go.Proofs.YtdoohocdaacnaaaDoor
