/- Ranks in plain words: what is above what, by paths; Warshall's rows and the document's rounds come to it. -/
import Derived.Test.YtdcpcemihpkkaaaBase
namespace Go.Proofs.Ytdcpcemihpkkaaa
set_option linter.unusedVariables false

/-- pairs -/
abbrev Pairs := List (Nat × Nat)

/-- i is above j, by a path whose inner places lie below k -/
inductive Path (ps : Pairs) (k : Nat) : Nat → Nat → Prop
  | edge {i j : Nat} : (i, j) ∈ ps → Path ps k i j
  | trans {i m j : Nat} : m < k → Path ps k i m → Path ps k m j → Path ps k i j

/-- i is above j -/
inductive Reach (ps : Pairs) : Nat → Nat → Prop
  | edge {i j : Nat} : (i, j) ∈ ps → Reach ps i j
  | trans {i m j : Nat} : Reach ps i m → Reach ps m j → Reach ps i j

theorem Path.mono {ps : Pairs} {k l : Nat} (h : k ≤ l) {i j : Nat} (p : Path ps k i j) : Path ps l i j := by
  induction p with
  | edge h => exact .edge h
  | trans hm _ _ ih1 ih2 => exact .trans (by omega) ih1 ih2

theorem path_zero {ps : Pairs} {i j : Nat} : Path ps 0 i j ↔ (i, j) ∈ ps := by
  constructor
  · intro p
    cases p with
    | edge h => exact h
    | trans hm _ _ => omega
  · exact .edge

theorem path_succ {ps : Pairs} {k i j : Nat} : Path ps (k + 1) i j ↔ Path ps k i j ∨ (Path ps k i k ∧ Path ps k k j) := by
  constructor
  · intro p
    induction p with
    | edge h => exact .inl (.edge h)
    | @trans i m j hm _ _ ih1 ih2 =>
      by_cases e : m = k
      · subst e
        have a : Path ps m i m := by rcases ih1 with h | ⟨h, _⟩ <;> exact h
        have b : Path ps m m j := by rcases ih2 with h | ⟨_, h⟩ <;> exact h
        exact .inr ⟨a, b⟩
      · have hm' : m < k := by omega
        rcases ih1 with h1 | ⟨h1, h1'⟩ <;> rcases ih2 with h2 | ⟨h2, h2'⟩
        · exact .inl (.trans hm' h1 h2)
        · exact .inr ⟨.trans hm' h1 h2, h2'⟩
        · exact .inr ⟨h1, .trans hm' h1' h2⟩
        · exact .inr ⟨h1, h2'⟩
  · rintro (h | ⟨h1, h2⟩)
    · exact h.mono (by omega)
    · exact .trans (Nat.lt_succ_self k) (h1.mono (by omega)) (h2.mono (by omega))

theorem Path.reach {ps : Pairs} {k i j : Nat} (p : Path ps k i j) : Reach ps i j := by
  induction p with
  | edge h => exact .edge h
  | trans _ _ _ ih1 ih2 => exact .trans ih1 ih2

/-- all pairs are of places below n -/
def Bd (ps : Pairs) (n : Nat) : Prop := ∀ p ∈ ps, p.1 < n ∧ p.2 < n

theorem Reach.bd {ps : Pairs} {n : Nat} (hb : Bd ps n) {i j : Nat} (r : Reach ps i j) : i < n ∧ j < n := by
  induction r with
  | edge h => exact hb _ h
  | trans _ _ ih1 ih2 => exact ⟨ih1.1, ih2.2⟩

theorem path_reach {ps : Pairs} {n : Nat} (hb : Bd ps n) {i j : Nat} : Path ps n i j ↔ Reach ps i j := by
  constructor
  · exact Path.reach
  · intro r
    induction r with
    | edge h => exact .edge h
    | @trans i m j r1 r2 ih1 ih2 => exact .trans (r1.bd hb).2 ih1 ih2

/-! The document's rounds. -/
def has (u : List Nat) (c : Nat) : Bool := u.any (· == c)
theorem has_iff {u : List Nat} {c : Nat} : has u c = true ↔ c ∈ u := by
  simp [has]

/-- one step of a round: the pair p is looked at -/
def step1 (a : Nat) (u : List Nat) (p : Nat × Nat) : List Nat :=
  if ((p.1 == a) || has u p.1) && !has u p.2 then u ++ [p.2] else u
def round (a : Nat) (ps : Pairs) (u : List Nat) : List Nat := ps.foldl (step1 a) u
def rounds (a : Nat) (ps : Pairs) : Nat → List Nat → List Nat
  | 0, u => u
  | r + 1, u => rounds a ps r (round a ps u)

theorem rounds_last (a : Nat) (ps : Pairs) : ∀ (r : Nat) (u : List Nat), rounds a ps (r + 1) u = round a ps (rounds a ps r u) := by
  intro r
  induction r with
  | zero => intro u; rfl
  | succ r ih => intro u; exact ih (round a ps u)

def above (ps : Pairs) (a b : Nat) : Bool := has (rounds a ps (ps.length + 1) []) b

theorem step1_sub (a : Nat) (u : List Nat) (p : Nat × Nat) : ∀ c ∈ u, c ∈ step1 a u p := by
  intro c hc
  unfold step1
  split
  · exact List.mem_append_left _ hc
  · exact hc

theorem round_sub (a : Nat) : ∀ (ps : Pairs) (u : List Nat), ∀ c ∈ u, c ∈ round a ps u := by
  intro ps
  induction ps with
  | nil => intro u c hc; exact hc
  | cons p r ih => intro u c hc; exact ih (step1 a u p) c (step1_sub a u p c hc)

/-- what is found is reached -/
theorem step1_sound {ps : Pairs} {a : Nat} {u : List Nat} {p : Nat × Nat} (hp : p ∈ ps) (h : ∀ c ∈ u, Reach ps a c) : ∀ c ∈ step1 a u p, Reach ps a c := by
  intro c hc
  unfold step1 at hc
  split at hc
  · rename_i hq
    rcases List.mem_append.1 hc with hc | hc
    · exact h c hc
    · obtain rfl : c = p.2 := by simpa using hc
      simp only [Bool.and_eq_true, Bool.or_eq_true, beq_iff_eq, has_iff] at hq
      rcases hq.1 with e | e
      · exact .edge (by rw [← e]; exact hp)
      · exact .trans (h _ e) (.edge hp)
  · exact h c hc

theorem round_sound {ps : Pairs} {a : Nat} : ∀ (qs : Pairs) (u : List Nat), (∀ p ∈ qs, p ∈ ps) → (∀ c ∈ u, Reach ps a c) → ∀ c ∈ round a qs u, Reach ps a c := by
  intro qs
  induction qs with
  | nil => intro u _ h; exact h
  | cons p r ih => intro u hq h; exact ih _ (fun q hq' => hq q (List.mem_cons_of_mem _ hq')) (step1_sound (hq p List.mem_cons_self) h)

theorem rounds_sound {ps : Pairs} {a : Nat} : ∀ (r : Nat) (u : List Nat), (∀ c ∈ u, Reach ps a c) → ∀ c ∈ rounds a ps r u, Reach ps a c := by
  intro r
  induction r with
  | zero => intro u h; exact h
  | succ r ih => intro u h; exact ih _ (round_sound ps u (fun _ h => h) h)

/-- nothing is to be added -/
def Closed (ps : Pairs) (a : Nat) (u : List Nat) : Prop := ∀ p ∈ ps, (p.1 = a ∨ p.1 ∈ u) → p.2 ∈ u

theorem closed_all {ps : Pairs} {a : Nat} {u : List Nat} (h : Closed ps a u) {i c : Nat} (r : Reach ps i c) : (i = a ∨ i ∈ u) → c ∈ u := by
  induction r with
  | edge he => exact h _ he
  | trans _ _ ih1 ih2 => intro hi; exact ih2 (.inr (ih1 hi))

theorem step1_closed {ps : Pairs} {a : Nat} {u : List Nat} (h : Closed ps a u) {p : Nat × Nat} (hp : p ∈ ps) : step1 a u p = u := by
  unfold step1
  rw [if_neg]
  simp only [Bool.and_eq_true, Bool.or_eq_true, beq_iff_eq, has_iff, Bool.not_eq_true', not_and, Bool.not_eq_false]
  intro hq
  exact h p hp hq

theorem round_closed {ps : Pairs} {a : Nat} {u : List Nat} (h : Closed ps a u) : ∀ qs : Pairs, (∀ p ∈ qs, p ∈ ps) → round a qs u = u := by
  intro qs
  induction qs with
  | nil => intro _; rfl
  | cons p r ih =>
    intro hq
    show round a r (step1 a u p) = u
    rw [step1_closed h (hq p List.mem_cons_self)]
    exact ih (fun q h' => hq q (List.mem_cons_of_mem _ h'))

/-- how many pairs lead to what was found -/
def cnt (ps : Pairs) (u : List Nat) : Nat := (ps.filter (fun p => has u p.2)).length
theorem cnt_le (ps : Pairs) (u : List Nat) : cnt ps u ≤ ps.length := List.length_filter_le _ _

theorem filter_mono {α : Type} (l : List α) (p q : α → Bool) (h : ∀ x ∈ l, p x = true → q x = true) : (l.filter p).length ≤ (l.filter q).length := by
  induction l with
  | nil => simp
  | cons x r ih =>
    have ih' := ih (fun y hy => h y (List.mem_cons_of_mem _ hy))
    simp only [List.filter_cons]
    by_cases hp : p x = true
    · rw [if_pos hp, if_pos (h x List.mem_cons_self hp)]
      simp only [List.length_cons]
      omega
    · rw [if_neg hp]
      split
      · simp only [List.length_cons]; omega
      · exact ih'

theorem filter_lt {α : Type} (l : List α) (p q : α → Bool) (h : ∀ x ∈ l, p x = true → q x = true) (y : α) (hy : y ∈ l) (h1 : p y = false) (h2 : q y = true) : (l.filter p).length < (l.filter q).length := by
  induction l with
  | nil => cases hy
  | cons x r ih =>
    have hr := fun z hz => h z (List.mem_cons_of_mem x hz)
    have hm := filter_mono r p q hr
    simp only [List.filter_cons]
    rcases List.mem_cons.1 hy with rfl | hy
    · rw [if_neg (by rw [h1]; decide), if_pos h2]
      simp only [List.length_cons]
      omega
    · have := ih hr hy
      by_cases hp : p x = true
      · rw [if_pos hp, if_pos (h x List.mem_cons_self hp)]
        simp only [List.length_cons]
        omega
      · rw [if_neg hp]
        split
        · simp only [List.length_cons]; omega
        · exact this

theorem cnt_mono (ps : Pairs) {u v : List Nat} (h : ∀ c ∈ u, c ∈ v) : cnt ps u ≤ cnt ps v :=
  filter_mono ps _ _ (fun p _ hp => by rw [has_iff] at *; exact h _ hp)

theorem step1_grows {ps : Pairs} {a : Nat} {u : List Nat} {p : Nat × Nat} (hp : p ∈ ps) (h : step1 a u p ≠ u) : cnt ps u < cnt ps (step1 a u p) := by
  unfold step1 at h ⊢
  split at h
  · rename_i hq
    rw [if_pos hq]
    simp only [Bool.and_eq_true, Bool.not_eq_true'] at hq
    exact filter_lt ps _ _ (fun q _ h => by rw [has_iff] at *; exact List.mem_append_left _ h) p hp hq.2 (by rw [has_iff]; simp)
  · exact absurd rfl h

theorem round_grows {ps : Pairs} {a : Nat} : ∀ (qs : Pairs) (u : List Nat), (∀ p ∈ qs, p ∈ ps) → (round a qs u = u ∧ ∀ p ∈ qs, step1 a u p = u) ∨ cnt ps u < cnt ps (round a qs u) := by
  intro qs
  induction qs with
  | nil => intro u _; exact .inl ⟨rfl, fun p hp => by cases hp⟩
  | cons p r ih =>
    intro u hq
    have hr := fun q h' => hq q (List.mem_cons_of_mem p h')
    show (round a r (step1 a u p) = u ∧ _) ∨ cnt ps u < cnt ps (round a r (step1 a u p))
    by_cases e : step1 a u p = u
    · rw [e]
      rcases ih u hr with ⟨h1, h2⟩ | h
      · refine .inl ⟨h1, fun q hq' => ?_⟩
        rcases List.mem_cons.1 hq' with rfl | hq'
        · exact e
        · exact h2 q hq'
      · exact .inr h
    · refine .inr ?_
      have h1 := step1_grows (hq p List.mem_cons_self) e
      have h2 := cnt_mono ps (round_sub a r (step1 a u p))
      omega

theorem closed_of {ps : Pairs} {a : Nat} {u : List Nat} (h : ∀ p ∈ ps, step1 a u p = u) : Closed ps a u := by
  intro p hp hi
  have hs := h p hp
  unfold step1 at hs
  by_cases hc : (((p.1 == a) || has u p.1) && !has u p.2) = true
  · rw [if_pos hc] at hs
    have := congrArg List.length hs
    simp at this
  · simp only [Bool.and_eq_true, Bool.or_eq_true, beq_iff_eq, has_iff, Bool.not_eq_true', not_and, Bool.not_eq_false] at hc
    exact hc hi

theorem rounds_grow {ps : Pairs} {a : Nat} (u : List Nat) : ∀ r : Nat, Closed ps a (rounds a ps r u) ∨ r ≤ cnt ps (rounds a ps r u) := by
  intro r
  induction r with
  | zero => exact .inr (Nat.zero_le _)
  | succ r ih =>
    rw [rounds_last]
    rcases ih with h | h
    · rw [round_closed h ps (fun _ h => h)]
      exact .inl h
    · rcases round_grows ps (rounds a ps r u) (fun _ h => h) (a := a) with ⟨h1, h2⟩ | h2
      · rw [h1]
        exact .inl (closed_of h2)
      · exact .inr (by omega)

theorem above_iff (ps : Pairs) (a b : Nat) : above ps a b = true ↔ Reach ps a b := by
  unfold above
  rw [has_iff]
  constructor
  · exact fun h => rounds_sound _ [] (fun c hc => by cases hc) b h
  · intro h
    rcases rounds_grow (ps := ps) (a := a) [] (ps.length + 1) with hc | hc
    · exact closed_all hc h (.inl rfl)
    · have := cnt_le ps (rounds a ps (ps.length + 1) [])
      omega

end Go.Proofs.Ytdcpcemihpkkaaa
