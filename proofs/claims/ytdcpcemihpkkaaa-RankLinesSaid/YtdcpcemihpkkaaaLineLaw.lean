/- Plain law: the line of a rank is the document's. -/
import Derived.Test.YtdcpcemihpkkaaaFacts
import Derived.Test.YtdcpcemihpkkaaaRefAbove
namespace Go.Proofs.Ytdcpcemihpkkaaa
open Go.RowKit Go.Maps
set_option linter.unusedVariables false
set_option linter.unusedSimpArgs false

abbrev Ab := Nat → Nat → Bool
/-- a rank's relation -/
def abN (n : Nat) (ps : Pairs) : Ab := fun a c => abv n ps (a : Int) (c : Int)
/-- may c come next? -/
def mayN (n : Nat) (A : Ab) (acc : List Nat) (c : Nat) : Bool := !has acc c && (List.range n).all fun a => has acc a || !A a c
/-- the line, step by step -/
def lineR (n : Nat) (A : Ab) : Nat → List Nat → Option (List Nat)
  | 0, _ => some []
  | r + 1, acc => match (List.range n).find? (mayN n A acc) with
    | none => none
    | some c => (lineR n A r (acc ++ [c])).map fun l => c :: l

theorem has_app (u v : List Nat) (c : Nat) : has (u ++ v) c = (has u c || has v c) := by unfold has; rw [List.any_append]
theorem has_one (x c : Nat) : has [x] c = (x == c) := by unfold has; simp
theorem has_nil (c : Nat) : has [] c = false := rfl

def cnt1 (n : Nat) (p : Nat → Bool) : Nat := ((List.range n).filter p).length
theorem cnt1_succ (n : Nat) (p : Nat → Bool) : cnt1 (n + 1) p = cnt1 n p + (if p n then 1 else 0) := by
  unfold cnt1
  rw [List.range_succ, List.filter_append, List.length_append]
  congr 1
  cases h : p n <;> simp [h]
theorem cnt1_congr {n : Nat} {p q : Nat → Bool} (h : ∀ i, i < n → p i = q i) : cnt1 n p = cnt1 n q := by
  unfold cnt1
  rw [List.filter_congr (fun x hx => h x (List.mem_range.1 hx))]
/-- all but c -/
theorem cnt1_but (n : Nat) (p : Nat → Bool) (c : Nat) : cnt1 n p = cnt1 n (fun x => p x && !(c == x)) + (if c < n ∧ p c = true then 1 else 0) := by
  induction n with
  | zero => simp [cnt1]
  | succ n ih =>
    rw [cnt1_succ, cnt1_succ, ih]
    by_cases e : c = n
    · subst e
      rw [beq_self_eq_true, Bool.not_true, Bool.and_false]
      cases h : p c <;> simp
    · rw [beq_eq_false_iff_ne.2 e, Bool.not_false, Bool.and_true]
      by_cases h : c < n
      · simp [h, show c < n + 1 by omega]; omega
      · simp [h, show ¬ c < n + 1 by omega]
theorem cnt1_one (n c : Nat) (p : Nat → Bool) (h : c < n) : cnt1 n (fun x => p x && (x == c)) = if p c then 1 else 0 := by
  rw [cnt1_but n _ c]
  have h0 : cnt1 n (fun x => (p x && (x == c)) && !(c == x)) = 0 := by
    unfold cnt1
    rw [List.length_eq_zero_iff, List.filter_eq_nil_iff]
    intro x _
    by_cases e : x = c
    · subst e; simp
    · simp [e]
  rw [h0]
  simp [h]
theorem cnt1_zero {n : Nat} {p : Nat → Bool} : cnt1 n p = 0 ↔ ∀ i, i < n → p i = false := by
  unfold cnt1
  rw [List.length_eq_zero_iff, List.filter_eq_nil_iff]
  constructor
  · intro h i hi
    have := h i (List.mem_range.2 hi)
    simpa using this
  · intro h x hx
    rw [h x (List.mem_range.1 hx)]; decide

/-- how many of those under a stand at c -/
theorem cntI_under (n : Nat) (ps : Pairs) (a c : Nat) (hc : c < n) : cntI (underF n ps (a : Int) n) c = if abN n ps a c then 1 else 0 := by
  unfold cntI underF
  rw [List.filter_map, List.length_map, List.filter_filter]
  have e : ((List.range n).filter fun (x : Nat) => ((fun (y : Int) => y == (c : Int)) ∘ fun (x : Nat) => (x : Int)) x && abv n ps (a : Int) (x : Int)).length = cnt1 n (fun x => abN n ps a x && (x == c)) := by
    unfold cnt1
    congr 1
    apply List.filter_congr
    intro x hx
    simp only [Function.comp]
    rw [Bool.and_comm]
    congr 1
    by_cases e : x = c
    · subst e; simp
    · rw [beq_eq_false_iff_ne.2 e, beq_eq_false_iff_ne.2 (by omega)]
  rw [e, cnt1_one n c _ hc]
  split <;> rfl
theorem cntP_map (k : Nat) (u : List Int) (c : Nat) : cntP (u.map fun x => ((k : Int), x)) c = cntI u c := by
  unfold cntP cntI
  rw [List.filter_map, List.length_map]
  rfl
theorem cntP_app (l r : List (Int × Int)) (c : Nat) : cntP (l ++ r) c = cntP l c + cntP r c := by
  unfold cntP
  rw [List.filter_append, List.length_append]
  omega
theorem cntP_pairs (n : Nat) (ps : Pairs) (c : Nat) (hc : c < n) (k : Nat) : cntP (pairsF n ps k) c = (cnt1 k (fun a => abN n ps a c) : Int) := by
  induction k with
  | zero => rfl
  | succ k ih =>
    rw [pairsF_succ, cntP_app, ih, cntP_map, cntI_under n ps k c hc, cnt1_succ]
    split <;> omega

/-- what stands in 'over' -/
def Inv (n : Nat) (A : Ab) (acc : List Nat) (f : Nat → Int) : Prop :=
  ∀ c, c < n → (has acc c = true → f c < 0) ∧ (has acc c = false → f c = (cnt1 n (fun a => A a c && !has acc a) : Int))

theorem inv_start (n : Nat) (ps : Pairs) : Inv n (abN n ps) [] (cntP (pairsF n ps n)) := by
  intro c hc
  refine ⟨fun h => (by cases h), fun _ => ?_⟩
  rw [cntP_pairs n ps c hc n]
  congr 1
  exact cnt1_congr (fun i _ => by rw [has_nil, Bool.not_false, Bool.and_true])

theorem inv_step {n : Nat} {ps : Pairs} {acc : List Nat} {f : Nat → Int} (h : Inv n (abN n ps) acc f) {c : Nat} (hc : c < n) (hn : has acc c = false) :
    Inv n (abN n ps) (acc ++ [c]) (decF (up f c (-1)) (underF n ps (c : Int) n)) := by
  intro i hi
  unfold decF
  rw [cntI_under n ps c i hi]
  by_cases e : i = c
  · subst e
    rw [up_at]
    refine ⟨fun _ => by split <;> omega, fun h => ?_⟩
    rw [has_app, has_one, beq_self_eq_true, Bool.or_true] at h
    cases h
  · rw [up_ne _ _ e]
    have e' : ¬ c = i := fun h => e h.symm
    obtain ⟨h1, h2⟩ := h i hi
    rw [has_app, has_one, beq_eq_false_iff_ne.2 e', Bool.or_false]
    refine ⟨fun h => by have := h1 h; split <;> omega, fun h => ?_⟩
    rw [h2 h]
    have hb := cnt1_but n (fun a => abN n ps a i && !has acc a) c
    have e2 : cnt1 n (fun x => (abN n ps x i && !has acc x) && !(c == x)) = cnt1 n (fun a => abN n ps a i && !has (acc ++ [c]) a) := cnt1_congr (fun x _ => by
      rw [has_app, has_one, Bool.not_or, Bool.and_assoc])
    rw [e2] at hb
    rw [hb]
    rw [hn, Bool.not_false, Bool.and_true]
    cases abN n ps c i <;> simp [hc]

theorem inv_may {n : Nat} {A : Ab} {acc : List Nat} {f : Nat → Int} (h : Inv n A acc f) {c : Nat} (hc : c < n) : (f c == 0) = mayN n A acc c := by
  obtain ⟨h1, h2⟩ := h c hc
  unfold mayN
  cases hh : has acc c
  · rw [Bool.not_false, Bool.true_and, h2 hh]
    by_cases z : cnt1 n (fun a => A a c && !has acc a) = 0
    · rw [z]
      have hz := cnt1_zero.1 z
      rw [show (List.range n).all (fun a => has acc a || !A a c) = true by
        rw [List.all_eq_true]
        intro a ha
        have := hz a (List.mem_range.1 ha)
        cases h3 : A a c <;> cases h4 : has acc a <;> simp_all]
      rfl
    · rw [beq_eq_false_iff_ne.2 (show ((cnt1 n (fun a => A a c && !has acc a) : Nat) : Int) ≠ 0 by omega)]
      symm
      rw [Bool.eq_false_iff]
      intro h3
      rw [List.all_eq_true] at h3
      apply z
      rw [cnt1_zero]
      intro i hi
      have := h3 i (List.mem_range.2 hi)
      cases h5 : A i c <;> cases h4 : has acc i <;> simp_all
  · rw [Bool.not_true, Bool.false_and]
    exact beq_eq_false_iff_ne.2 (by have := h1 hh; omega)

theorem idxF_range (f : Nat → Int) (x : Int) (m : Nat) : ∀ s, idxF ((List.range' s m).map f) x = ((List.range' s m).find? (fun c => f c == x)).map (· - s) := by
  induction m with
  | zero => intro s; rfl
  | succ m ih =>
    intro s
    rw [List.range'_succ, List.map_cons, List.find?_cons]
    simp only [idxF]
    by_cases e : f s = x
    · rw [if_pos e, show (f s == x) = true by simp [e]]
      simp
    · rw [if_neg e, show (f s == x) = false by simp [e], ih (s + 1)]
      cases hf : (List.range' (s + 1) m).find? (fun c => f c == x) with
      | none => rfl
      | some c =>
        have hm := List.mem_of_find?_eq_some hf
        rw [List.mem_range'_1] at hm
        simp only [Option.map_some]
        congr 1
        omega

theorem idxF_list (n : Nat) (f : Nat → Int) : idxF (listN n f) 0 = (List.range n).find? (fun c => f c == 0) := by
  unfold listN
  rw [List.range_eq_range', idxF_range]
  cases (List.range' 0 n).find? (fun c => f c == 0) <;> simp

theorem find_congr {l : List Nat} {p q : Nat → Bool} (h : ∀ x ∈ l, p x = q x) : l.find? p = l.find? q := by
  induction l with
  | nil => rfl
  | cons x r ih =>
    rw [List.find?_cons, List.find?_cons, h x List.mem_cons_self, ih (fun y hy => h y (List.mem_cons_of_mem _ hy))]

theorem line_same (n : Nat) (ps : Pairs) : ∀ (r : Nat) (acc : List Nat) (f : Nat → Int), Inv n (abN n ps) acc f → lineG n ps r f = (lineR n (abN n ps) r acc).map natI := by
  intro r
  induction r with
  | zero => intro acc f _; rfl
  | succ r ih =>
    intro acc f hI
    unfold lineG lineR
    rw [idxF_list, find_congr (fun x hx => inv_may hI (List.mem_range.1 hx))]
    cases hf : (List.range n).find? (mayN n (abN n ps) acc) with
    | none => rfl
    | some c =>
      have hc : c < n := List.mem_range.1 (List.mem_of_find?_eq_some hf)
      have hm := List.find?_some hf
      have hn : has acc c = false := by unfold mayN at hm; rw [Bool.and_eq_true] at hm; simpa using hm.1
      dsimp only
      rw [ih _ _ (inv_step hI hc hn)]
      cases lineR n (abN n ps) r (acc ++ [c]) <;> rfl

/-- how many are free -/
def free (n : Nat) (acc : List Nat) : Nat := cnt1 n (fun c => !has acc c)
theorem free_step {n : Nat} {acc : List Nat} {c : Nat} (hc : c < n) (hn : has acc c = false) : free n acc = free n (acc ++ [c]) + 1 := by
  unfold free
  rw [cnt1_but n _ c, if_pos ⟨hc, by rw [hn]; rfl⟩]
  congr 1
  exact cnt1_congr (fun x _ => by rw [has_app, has_one, Bool.not_or])

theorem min_free {n : Nat} {A : Ab} (tr : ∀ x y z, A x y = true → A y z = true → A x z = true) (ir : ∀ x, A x x = false) (acc : List Nat) :
    ∀ (m c : Nat), cnt1 n (fun a => A a c && !has acc a) = m → c < n → has acc c = false → ∃ d, d < n ∧ mayN n A acc d = true := by
  intro m
  induction m using Nat.strongRecOn with
  | ind m ih =>
    intro c hm hc hn
    by_cases z : m = 0
    · refine ⟨c, hc, ?_⟩
      rw [z, cnt1_zero] at hm
      unfold mayN
      rw [hn, Bool.not_false, Bool.true_and, List.all_eq_true]
      intro a ha
      have := hm a (List.mem_range.1 ha)
      cases h5 : A a c <;> cases h4 : has acc a <;> simp_all
    · have hex : ∃ a, a < n ∧ (A a c && !has acc a) = true := by
        rcases Classical.em (∃ a, a < n ∧ (A a c && !has acc a) = true) with h | h
        · exact h
        · exfalso
          apply z
          rw [← hm, cnt1_zero]
          intro i hi
          cases h5 : (A i c && !has acc i)
          · rfl
          · exact absurd ⟨i, hi, h5⟩ h
      obtain ⟨a, ha, h2⟩ := hex
      rw [Bool.and_eq_true] at h2
      refine ih (cnt1 n (fun x => A x a && !has acc x)) ?_ a rfl ha (by simpa using h2.2)
      rw [← hm]
      unfold cnt1
      refine filter_lt _ _ _ (fun x _ hx => ?_) a (List.mem_range.2 ha) (by rw [ir a]; rfl) (by rw [Bool.and_eq_true]; exact h2)
      rw [Bool.and_eq_true] at hx ⊢
      exact ⟨tr _ _ _ hx.1 h2.1, hx.2⟩

theorem lineR_some {n : Nat} {A : Ab} (tr : ∀ x y z, A x y = true → A y z = true → A x z = true) (ir : ∀ x, A x x = false) : ∀ (r : Nat) (acc : List Nat), free n acc = r → ∃ l, lineR n A r acc = some l := by
  intro r
  induction r with
  | zero => intro acc _; exact ⟨[], rfl⟩
  | succ r ih =>
    intro acc hf
    have hex : ∃ c, c < n ∧ has acc c = false := by
      rcases Classical.em (∃ c, c < n ∧ has acc c = false) with h | h
      · exact h
      · exfalso
        have : free n acc = 0 := by
          unfold free
          rw [cnt1_zero]
          intro i hi
          cases h5 : has acc i
          · exact absurd ⟨i, hi, h5⟩ h
          · rfl
        omega
    obtain ⟨c0, hc0, hn0⟩ := hex
    obtain ⟨d, hd, hmd⟩ := min_free tr ir acc _ c0 rfl hc0 hn0
    unfold lineR
    cases hfd : (List.range n).find? (mayN n A acc) with
    | none =>
      rw [List.find?_eq_none] at hfd
      exact absurd hmd (hfd d (List.mem_range.2 hd))
    | some c =>
      have hc : c < n := List.mem_range.1 (List.mem_of_find?_eq_some hfd)
      have hm := List.find?_some hfd
      have hn : has acc c = false := by unfold mayN at hm; rw [Bool.and_eq_true] at hm; simpa using hm.1
      have h1 := free_step hc hn
      obtain ⟨l, hl⟩ := ih (acc ++ [c]) (by omega)
      dsimp only
      rw [hl]
      exact ⟨c :: l, rfl⟩

theorem lineR_len {n : Nat} {A : Ab} : ∀ (r : Nat) (acc l : List Nat), lineR n A r acc = some l → l.length = r := by
  intro r
  induction r with
  | zero => intro acc l h; cases h; rfl
  | succ r ih =>
    intro acc l h
    unfold lineR at h
    cases hfd : (List.range n).find? (mayN n A acc) with
    | none => rw [hfd] at h; cases h
    | some c =>
      rw [hfd] at h
      dsimp only at h
      obtain ⟨l2, hl2, rfl⟩ := Option.map_eq_some_iff.1 h
      rw [List.length_cons, ih _ _ hl2]

/-- each one may come where it stands -/
theorem lineR_may {n : Nat} {A : Ab} : ∀ (r : Nat) (acc l : List Nat), lineR n A r acc = some l → ∀ i (hi : i < l.length), l[i] < n ∧ mayN n A (acc ++ l.take i) l[i] = true := by
  intro r
  induction r with
  | zero => intro acc l h i hi; cases h; exact absurd hi (Nat.not_lt_zero _)
  | succ r ih =>
    intro acc l h i hi
    unfold lineR at h
    cases hfd : (List.range n).find? (mayN n A acc) with
    | none => rw [hfd] at h; cases h
    | some c =>
      rw [hfd] at h
      dsimp only at h
      obtain ⟨l2, hl2, rfl⟩ := Option.map_eq_some_iff.1 h
      cases i with
      | zero =>
        rw [List.take_zero, List.append_nil, List.getElem_cons_zero]
        exact ⟨List.mem_range.1 (List.mem_of_find?_eq_some hfd), List.find?_some hfd⟩
      | succ i =>
        have h3 := ih _ _ hl2 i (by simpa using hi)
        rw [List.append_assoc, List.singleton_append] at h3
        rw [List.take_succ_cons, List.getElem_cons_succ]
        exact h3

theorem line_order {n : Nat} {A : Ab} {l : List Nat} (h : lineR n A n [] = some l) {i k : Nat} (hi : i < l.length) (hk : k < i) : A l[i] l[k] = false := by
  obtain ⟨hin, hmi⟩ := lineR_may n [] l h i hi
  obtain ⟨hkn, hmk⟩ := lineR_may n [] l h k (by omega)
  rw [List.nil_append] at hmi hmk
  unfold mayN at hmi hmk
  rw [Bool.and_eq_true] at hmi hmk
  have h1 := hmi.1
  have h2 := hmk.2
  rw [List.all_eq_true] at h2
  have h3 := h2 l[i] (List.mem_range.2 hin)
  have h4 : has (l.take k) l[i] = false := by
    rw [Bool.eq_false_iff]
    intro h5
    rw [has_iff] at h5
    have h6 : l[i] ∈ l.take i := by
      have : l.take k = (l.take i).take k := by rw [List.take_take, Nat.min_eq_left (by omega)]
      rw [this] at h5
      exact List.mem_of_mem_take h5
    rw [← has_iff] at h6
    rw [h6] at h1
    cases h1
  rw [h4, Bool.false_or] at h3
  simpa using h3

theorem abN_trans {n : Nat} {ps : Pairs} (x y z : Nat) (h1 : abN n ps x y = true) (h2 : abN n ps y z = true) : abN n ps x z = true := abv_trans h1 h2
theorem abN_irr {n : Nat} {ps : Pairs} (h : cyc n ps = false) (x : Nat) : abN n ps x x = false := abv_irr h x

/-- The line of a rank that may be. -/
theorem line_law {n : Nat} {ps : Pairs} (h : cyc n ps = false) : ∃ l, lineR n (abN n ps) n [] = some l ∧ lineG n ps n (cntP (pairsF n ps n)) = some (natI l) ∧ l.length = n ∧ ∀ i (hi : i < l.length) k (hk : k < i), abv n ps (l[i] : Int) (l[k] : Int) = false := by
  have hf : free n [] = n := by
    have e : (List.range n).filter (fun c => !has [] c) = List.range n := List.filter_eq_self.2 (fun x _ => rfl)
    unfold free cnt1
    rw [e, List.length_range]
  obtain ⟨l, hl⟩ := lineR_some (abN_trans (n := n) (ps := ps)) (abN_irr h) n [] hf
  refine ⟨l, hl, ?_, lineR_len n [] l hl, fun i hi k hk => line_order hl hi hk⟩
  rw [line_same n ps n [] _ (inv_start n ps), hl]
  rfl

/-- those above which there is none -/
def topB (n : Nat) (ps : Pairs) (c k : Nat) : Bool := (List.range k).all fun a => !abN n ps a c
def topsN (n : Nat) (ps : Pairs) (k : Nat) : List Nat := (List.range k).filter fun c => topB n ps c n
theorem top_may {n : Nat} {ps : Pairs} {c : Nat} (hc : c < n) : (cntP (pairsF n ps n) c == 0) = topB n ps c n := by
  rw [inv_may (inv_start n ps) hc]
  unfold mayN topB
  rw [has_nil, Bool.not_false, Bool.true_and]
  congr 1
theorem topsN_succ (n : Nat) (ps : Pairs) (k : Nat) : topsN n ps (k + 1) = topsN n ps k ++ (if topB n ps k n = true then [k] else []) := by
  unfold topsN
  rw [List.range_succ, List.filter_append]
  congr 1
  cases h : topB n ps k n <;> simp [h]
theorem topB_succ (n : Nat) (ps : Pairs) (c k : Nat) : topB n ps c (k + 1) = (topB n ps c k && !abN n ps k c) := by
  unfold topB
  rw [List.range_succ, List.all_append]
  simp
theorem topsN_len (n : Nat) (ps : Pairs) (k : Nat) : (topsN n ps k).length ≤ k := by
  unfold topsN
  exact Nat.le_trans (List.length_filter_le _ _) (by simp)
end Go.Proofs.Ytdcpcemihpkkaaa
