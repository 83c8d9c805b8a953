/- Plain laws of tries and names. -/
import Derived.Test.YtdoohocdaacnaaaDoorFresh
import Derived.Test.YtdoohocdaacnaaaDoorRSame
namespace Go.Proofs.YtdoohocdaacnaaaDoor
open Go.RowKit
set_option linter.unusedVariables false
set_option linter.unusedSimpArgs false

theorem eB_iff (bs : List ByteArray) (s : ByteArray) : ∀ k, k ≤ bs.length → ((eB bs k s).isSome = true ↔ s ∈ bs.take k) := by
  intro k
  induction k with
  | zero => intro _; simp [eB]
  | succ k ih =>
    intro hk
    have hk' : k < bs.length := by omega
    rw [List.take_succ_eq_append_getElem hk', List.mem_append, ← ih (by omega)]
    have e : bs.getD k ByteArray.empty = bs[k] := by simp [List.getD, hk']
    simp only [eB, e, List.mem_singleton]
    by_cases h : s = bs[k]
    · simp [h]
    · simp [h]
theorem eC_iff (bs : List ByteArray) (cs : List Cn) (s : ByteArray) : ∀ k, k ≤ cs.length → ((eC bs cs k s).isSome = true ↔ s ∈ bs ∨ s ∈ (cs.take k).map (·.1)) := by
  intro k
  induction k with
  | zero => intro _; simp only [eC]; rw [eB_iff bs s bs.length (Nat.le_refl _), List.take_length]; simp
  | succ k ih =>
    intro hk
    have hk' : k < cs.length := by omega
    have ih' := ih (by omega)
    rw [List.take_succ_eq_append_getElem hk', List.map_append, List.mem_append, ← or_assoc, ← ih']
    have e : cs.getD k (ByteArray.empty, Fs.nil, 0) = cs[k] := by simp [List.getD, hk']
    simp only [eC, e, List.map_cons, List.map_nil, List.mem_singleton]
    by_cases h : s = cs[k].1
    · simp [h]
    · simp [h]
theorem isN_iff (bs : List ByteArray) (cs : List Cn) (s : ByteArray) : isN bs cs s = true ↔ s ∈ bs ∨ s ∈ cs.map (·.1) := by
  unfold isN
  rw [eC_iff bs cs s cs.length (Nat.le_refl _), List.take_length]
theorem posL_or (s : ByteArray) : ∀ (l : List ByteArray) (i : Nat), (posL s l i = -1 ∧ s ∉ l) ∨ ((i : Int) ≤ posL s l i ∧ s ∈ l) := by
  intro l
  induction l with
  | nil => intro i; exact Or.inl ⟨rfl, by simp⟩
  | cons x r ih =>
    intro i
    by_cases h : x = s
    · exact Or.inr ⟨by simp [posL, h], by simp [h]⟩
    · rcases ih (i + 1) with ⟨h1, h2⟩ | ⟨h1, h2⟩
      · exact Or.inl ⟨by simp [posL, h, h1], by simp [h2, Ne.symm h]⟩
      · refine Or.inr ⟨?_, by simp [h2]⟩
        simp only [posL, if_neg h]
        omega
theorem posL_iff (s : ByteArray) (l : List ByteArray) : 0 ≤ posL s l 0 ↔ s ∈ l := by
  rcases posL_or s l 0 with ⟨h1, h2⟩ | ⟨h1, h2⟩
  · rw [h1]; exact ⟨fun h => absurd h (by decide), fun h => absurd h h2⟩
  · exact ⟨fun _ => h2, fun _ => by omega⟩

theorem nodup_lenT {α : Type} [BEq α] [LawfulBEq α] : ∀ (l L : List α), l.Nodup → (∀ x ∈ l, x ∈ L) → l.length ≤ L.length := by
  intro l
  induction l with
  | nil => intro L _ _; exact Nat.zero_le _
  | cons a r ih =>
    intro L hn hs
    obtain ⟨h1, h2⟩ := List.nodup_cons.1 hn
    have ha : a ∈ L := hs a (by simp)
    have h3 := ih (L.erase a) h2 (fun x hx => by
      have hne : x ≠ a := fun e => h1 (e ▸ hx)
      exact (List.mem_erase_of_ne hne).2 (hs x (by simp [hx])))
    have h4 := List.length_erase_of_mem ha
    have h5 : 0 < L.length := List.length_pos_of_mem ha
    simp only [List.length_cons]
    omega

theorem bytes_inj {a b : ByteArray} (h : a.data.toList = b.data.toList) : a = b := ByteArray.ext (Array.toList_inj.1 h)
theorem nodup_len (l L : List ByteArray) (h : l.Nodup) (hs : ∀ x ∈ l, x ∈ L) : l.length ≤ L.length := by
  have h1 := nodup_lenT (l.map fun x => x.data.toList) (L.map fun x => x.data.toList) (by
    unfold List.Nodup at h ⊢
    rw [List.pairwise_map]
    exact h.imp fun hab e => hab (bytes_inj e)) (fun x hx => by
    obtain ⟨y, hy, rfl⟩ := List.mem_map.1 hx
    exact List.mem_map_of_mem (hs y hy))
  simpa using h1
theorem dec_inj : ∀ i j, i < 61 → j < 61 → Lib.decDigits i = Lib.decDigits j → i = j := by
  have hc : ((List.range 61).all fun i => (List.range 61).all fun j => decide (i = j) || decide (Lib.decDigits i ≠ Lib.decDigits j)) = true := by kernel_rfl
  intro i j hi hj h
  rw [List.all_eq_true] at hc
  have h1 := hc i (List.mem_range.2 hi)
  rw [List.all_eq_true] at h1
  have h2 := h1 j (List.mem_range.2 hj)
  simp only [Bool.or_eq_true, decide_eq_true_eq] at h2
  rcases h2 with h2 | h2
  · exact h2
  · exact absurd h h2
theorem dec_ne : ∀ i, i < 61 → Lib.decDigits i ≠ [] := by
  have hc : ((List.range 61).all fun i => decide (Lib.decDigits i ≠ [])) = true := by kernel_rfl
  intro i hi
  rw [List.all_eq_true] at hc
  simpa using hc i (List.mem_range.2 hi)
theorem tryF_inj (s : ByteArray) (i j : Nat) (hi : i < 61) (hj : j < 61) (h : tryF s i = tryF s j) : i = j := by
  have e : ∀ k, (tryF s k).data.toList = s.data.toList ++ (if k = 0 then [] else Lib.decDigits k) := by
    intro k
    unfold tryF
    split <;> simp
  have h1 : (tryF s i).data.toList = (tryF s j).data.toList := by rw [h]
  rw [e, e, List.append_right_inj] at h1
  by_cases h2 : i = 0
  · by_cases h3 : j = 0
    · omega
    · rw [if_pos h2, if_neg h3] at h1
      exact absurd h1.symm (dec_ne j hj)
  · by_cases h3 : j = 0
    · rw [if_neg h2, if_pos h3] at h1
      exact absurd h1 (dec_ne i hi)
    · rw [if_neg h2, if_neg h3] at h1
      exact dec_inj i j hi hj h1
theorem least (p : Nat → Bool) : ∀ k, (∃ n, n ≤ k ∧ p n = false) → ∃ n, n ≤ k ∧ p n = false ∧ ∀ j, j < n → p j = true := by
  intro k
  induction k with
  | zero =>
    rintro ⟨n, hn, hp⟩
    have : n = 0 := by omega
    subst this
    exact ⟨0, Nat.le_refl _, hp, fun j hj => absurd hj (Nat.not_lt_zero _)⟩
  | succ k ih =>
    rintro ⟨n, hn, hp⟩
    by_cases h : ∃ m, m ≤ k ∧ p m = false
    · obtain ⟨m, h1, h2, h3⟩ := ih h
      exact ⟨m, by omega, h2, h3⟩
    · have hk : n = k + 1 := by
        by_cases h4 : n ≤ k
        · exact absurd ⟨n, h4, hp⟩ h
        · omega
      subst hk
      refine ⟨k + 1, Nat.le_refl _, hp, fun j hj => ?_⟩
      cases hq : p j with
      | true => rfl
      | false => exact absurd ⟨j, by omega, hq⟩ h
/-- Some try is no name. -/
theorem some_try (bs : List ByteArray) (cs : List Cn) (hbl : bs.length ≤ 30) (hcl : cs.length ≤ 30) (s : ByteArray) : ∃ n, n ≤ 60 ∧ isN bs cs (tryF s n) = false ∧ ∀ j, j < n → isN bs cs (tryF s j) = true := by
  apply least (fun n => isN bs cs (tryF s n)) 60
  refine Classical.byContradiction fun hno => ?_
  have hall : ∀ n, n ≤ 60 → isN bs cs (tryF s n) = true := by
    intro n hn
    cases h : isN bs cs (tryF s n) with
    | true => rfl
    | false => exact absurd ⟨n, hn, h⟩ hno
  have hnd : ((List.range 61).map (tryF s)).Nodup := by
    unfold List.Nodup
    rw [List.pairwise_map]
    have hp : (List.range 61).Pairwise (fun a b => a ≠ b) := List.nodup_range
    refine List.Pairwise.imp_of_mem (fun {a b} ha hb hab => ?_) hp
    exact fun e => hab (tryF_inj s a b (List.mem_range.1 ha) (List.mem_range.1 hb) e)
  have hle := nodup_len _ (bs ++ cs.map (·.1)) hnd (fun x hx => by
    obtain ⟨n, hn, rfl⟩ := List.mem_map.1 hx
    have := (isN_iff bs cs (tryF s n)).1 (hall n (by have := List.mem_range.1 hn; omega))
    exact List.mem_append.2 this)
  simp at hle
  omega
end Go.Proofs.YtdoohocdaacnaaaDoor
