/- The places of a term: each is ahead of the next, and what is told of each is what is there. -/
import Derived.Test.YtnpcapdlgcaniaaDoorRefAll
import Derived.Test.YtnpcapdlgcaniaaDoorRefAt
namespace Go.Proofs.YtnpcapdlgcaniaaDoor
open Go.RowKit
set_option linter.unusedVariables false
set_option linter.unusedSimpArgs false

theorem cmpL_app : ∀ (p a b : List Int), cmpL (p ++ a) (p ++ b) = cmpL a b
  | [], a, b => rfl
  | x :: p, a, b => by
    simp only [List.cons_append, cmpL]
    rw [if_neg (Int.lt_irrefl x), if_neg (Int.lt_irrefl x)]
    exact cmpL_app p a b
theorem cmpL_more (p : List Int) (x : Int) (q : List Int) : cmpL p (p ++ x :: q) = -1 := by
  have h := cmpL_app p [] (x :: q)
  rw [List.append_nil] at h
  rw [h]
  rfl
theorem cmpL_lt (p : List Int) {x y : Int} (h : x < y) (q r : List Int) : cmpL (p ++ x :: q) (p ++ y :: r) = -1 := by
  rw [cmpL_app]
  simp only [cmpL]
  rw [if_pos h]
theorem kids_form (f : Tms) : ∀ (p : List Int) (i : Nat) (e : List Int × Tm), e ∈ kidsP p i f → ∃ (j : Nat) (q : List Int), i ≤ j ∧ e.1 = p ++ (j : Int) :: q := by
  induction f with
  | nil => intro p i e h; cases h
  | cons b k j a r ih1 ih2 =>
    intro p i e h
    simp only [kidsP, List.mem_cons, List.mem_append] at h
    rcases h with rfl | h | h
    · exact ⟨i, [], Nat.le_refl _, rfl⟩
    · obtain ⟨j', q, _, e1⟩ := ih1 _ _ e h
      exact ⟨i, (j' : Int) :: q, Nat.le_refl _, by rw [e1]; simp⟩
    · obtain ⟨j', q, h1, e1⟩ := ih2 _ _ e h
      exact ⟨j', q, by omega, e1⟩
theorem kids_sorted (f : Tms) : ∀ (p : List Int) (i : Nat), (kidsP p i f).Pairwise (fun x y => cmpL x.1 y.1 = -1) := by
  induction f with
  | nil => intro p i; exact List.Pairwise.nil
  | cons b k j a r ih1 ih2 =>
    intro p i
    simp only [kidsP]
    refine List.pairwise_cons.2 ⟨fun e he => ?_, List.pairwise_append.2 ⟨ih1 _ _, ih2 _ _, fun x hx y hy => ?_⟩⟩
    · rcases List.mem_append.1 he with he | he
      · obtain ⟨j', q, _, e1⟩ := kids_form a _ _ e he
        show cmpL (p ++ [(i : Int)]) e.1 = -1
        rw [e1]
        exact cmpL_more _ _ _
      · obtain ⟨j', q, h1, e1⟩ := kids_form r _ _ e he
        show cmpL (p ++ [(i : Int)]) e.1 = -1
        rw [e1]
        exact cmpL_lt p (by omega) _ _
    · obtain ⟨j1, q1, _, e1⟩ := kids_form a _ _ x hx
      obtain ⟨j2, q2, h2, e2⟩ := kids_form r _ _ y hy
      rw [e1, e2, List.append_assoc]
      exact cmpL_lt p (by omega) _ _
theorem places_sorted (p : List Int) (t : Tm) : (placesP p t).Pairwise (fun x y => cmpL x.1 y.1 = -1) := by
  unfold placesP
  refine List.pairwise_cons.2 ⟨fun e he => ?_, kids_sorted _ _ _⟩
  obtain ⟨j', q, _, e1⟩ := kids_form t.ag _ _ e he
  show cmpL p e.1 = -1
  rw [e1]
  exact cmpL_more _ _ _
theorem places_next (t : Tm) (i : Nat) (h : i + 1 < (placesP [] t).length) : cmpL ((placesP [] t)[i]).1 ((placesP [] t)[i + 1]).1 = -1 :=
  List.pairwise_iff_getElem.1 (places_sorted [] t) i (i + 1) (by omega) h (by omega)
theorem kids_at (f : Tms) : ∀ (p : List Int) (i : Nat) (e : List Int × Tm), e ∈ kidsP p i f → ∃ (m : Nat) (hm : m < f.toL.length) (q : List Int), e.1 = p ++ ((i + m : Nat) : Int) :: q ∧ ∃ l, atR f.toL[m] q = some (e.2, l) := by
  induction f with
  | nil => intro p i e h; cases h
  | cons b k j a r ih1 ih2 =>
    intro p i e h
    simp only [kidsP, List.mem_cons, List.mem_append] at h
    rcases h with rfl | h | h
    · exact ⟨0, by simp [Tms.toL], [], rfl, _, rfl⟩
    · obtain ⟨m, hm, q, e1, l, e2⟩ := ih1 _ _ e h
      refine ⟨0, by simp [Tms.toL], ((0 + m : Nat) : Int) :: q, by rw [e1]; simp, b.app l, ?_⟩
      simp only [Tms.toL, List.getElem_cons_zero, atR, Nat.zero_add]
      rw [Tm.sub_some (t := (b, k, j, a)) hm]
      show (atR a.toL[m] q).map _ = _
      rw [e2]
      rfl
    · obtain ⟨m, hm, q, e1, l, e2⟩ := ih2 _ _ e h
      refine ⟨m + 1, by simpa [Tms.toL] using hm, q, by rw [e1, show i + 1 + m = i + (m + 1) by omega], l, ?_⟩
      simp only [Tms.toL, List.getElem_cons_succ]
      exact e2
theorem places_at (t : Tm) (e : List Int × Tm) (h : e ∈ placesP [] t) : ∃ l, atR t e.1 = some (e.2, l) := by
  unfold placesP at h
  rcases List.mem_cons.1 h with rfl | h
  · exact ⟨_, rfl⟩
  · obtain ⟨m, hm, q, e1, l, e2⟩ := kids_at t.ag _ _ e h
    rw [e1, List.nil_append, Nat.zero_add]
    simp only [atR]
    rw [Tm.sub_some hm]
    exact ⟨_, by show (atR t.ag.toL[m] q).map _ = _; rw [e2]; rfl⟩
/-- the n-th told is the n-th place -/
theorem prefix_at {α : Type} {l m : List α} {x : α} (h : l ++ [x] <+: m) : ∃ h : l.length < m.length, m[l.length] = x := by
  obtain ⟨r, hr⟩ := h
  subst hr
  exact ⟨by simp, by simp⟩
end Go.Proofs.YtnpcapdlgcaniaaDoor
