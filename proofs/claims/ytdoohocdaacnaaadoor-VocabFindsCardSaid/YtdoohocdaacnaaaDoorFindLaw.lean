/- Plain laws: what is found in a right table. -/
import Derived.Test.YtdoohocdaacnaaaDoorTryLaw
import Derived.Test.YtdoohocdaacnaaaDoorRCheck
namespace Go.Proofs.YtdoohocdaacnaaaDoor
open Go.RowKit
set_option linter.unusedVariables false
set_option linter.unusedSimpArgs false

theorem look_not {l : List ByteArray} {s : ByteArray} (h : lookC l s = 0) : s ∉ l := by
  unfold lookC at h
  split at h
  · exact absurd h (by decide)
  · split at h
    · exact absurd h (by decide)
    · rename_i h2
      exact fun hm => h2 (inN_iff.2 hm)
theorem chkI_nodup : ∀ (x : List (ByteArray × Bool)) (l : List ByteArray), chkI l x = 0 → (x.map (·.1)).Nodup ∧ ∀ a ∈ x.map (·.1), a ∉ l := by
  intro x
  induction x with
  | nil => intro l _; exact ⟨List.nodup_nil, fun a h => by cases h⟩
  | cons y r ih =>
    intro l h
    simp only [chkI] at h
    split at h
    · rename_i h1
      split at h
      · obtain ⟨h2, h3⟩ := ih _ h
        have h4 := look_not h1
        refine ⟨List.nodup_cons.2 ⟨fun hm => h3 _ hm (by simp), h2⟩, fun a ha => ?_⟩
        rcases List.mem_cons.1 ha with e | ha
        · rw [e]; exact h4
        · exact fun hm => h3 a ha (by simp [hm])
      · exact absurd h (by decide)
    · rename_i h1
      exact absurd h h1
theorem checkT_nodup (bs : List ByteArray) (cs : List Cn) (h1 : bs.length ≤ 100) (h2 : cs.length ≤ 100) (h : checkT bs cs = 0) : (bs ++ cs.map (·.1)).Nodup := by
  rw [checkT_items bs cs h1 h2] at h
  have := (chkI_nodup _ _ h).1
  have e : (itemsT bs cs).map (·.1) = bs ++ cs.map (·.1) := by simp [itemsT, Function.comp_def]
  rw [e] at this
  exact this
theorem posL_get (s : ByteArray) (l : List ByteArray) (k : Nat) (h : k < l.length) (hk : l[k] = s) (hn : l.Nodup) : posL s l 0 = k := by
  have gen : ∀ d i, i + d = k → posL s (l.drop i) i = k := by
    intro d
    induction d with
    | zero =>
      intro i hi
      have : i = k := by omega
      subst this
      rw [posL_at s l i h, if_pos hk]
    | succ d ih =>
      intro i hi
      have hil : i < l.length := by omega
      have hne : ¬ l[i] = s := by
        intro e
        rw [← hk] at e
        have := (List.getElem_inj hn).1 e
        omega
      rw [posL_at s l i hil, if_neg hne]
      exact ih (i + 1) (by omega)
  simpa using gen k 0 (by omega)
open Classical in
theorem eB_val (bs : List ByteArray) (hn : bs.Nodup) (s : ByteArray) : ∀ k, k ≤ bs.length → eB bs k s = if s ∈ bs.take k then some (true, posL s bs 0) else none := by
  intro k
  induction k with
  | zero => intro _; simp [eB]
  | succ k ih =>
    intro hk
    have hk' : k < bs.length := by omega
    have e : bs.getD k ByteArray.empty = bs[k] := by simp [List.getD, hk']
    simp only [eB, e]
    rw [List.take_succ_eq_append_getElem hk', List.mem_append]
    by_cases h : s = bs[k]
    · rw [if_pos h, if_pos (Or.inr (by simp [h])), posL_get s bs k hk' h.symm hn]
    · rw [if_neg h, ih (by omega)]
      by_cases h2 : s ∈ bs.take k
      · rw [if_pos h2, if_pos (Or.inl h2)]
      · rw [if_neg h2, if_neg (by simp [h2, h])]
open Classical in
theorem eC_val (bs : List ByteArray) (cs : List Cn) (hn : (cs.map (·.1)).Nodup) (s : ByteArray) : ∀ k, k ≤ cs.length → eC bs cs k s = if s ∈ (cs.take k).map (·.1) then some (false, posL s (cs.map (·.1)) 0) else eB bs bs.length s := by
  intro k
  induction k with
  | zero => intro _; simp [eC]
  | succ k ih =>
    intro hk
    have hk' : k < cs.length := by omega
    have e : cs.getD k (ByteArray.empty, Fs.nil, 0) = cs[k] := by simp [List.getD, hk']
    simp only [eC, e]
    rw [List.take_succ_eq_append_getElem hk', List.map_append, List.mem_append]
    by_cases h : s = cs[k].1
    · rw [if_pos h, if_pos (Or.inr (by simp [h])), posL_get s (cs.map (·.1)) k (by simpa using hk') (by simp [h]) hn]
    · rw [if_neg h, ih (by omega)]
      by_cases h2 : s ∈ (cs.take k).map (·.1)
      · rw [if_pos h2, if_pos (Or.inl h2)]
      · rw [if_neg h2, if_neg]
        rintro (h3 | h3)
        · exact h2 h3
        · exact h (by simpa using h3)
theorem findV_val (bs : List ByteArray) (cs : List Cn) (hn : (bs ++ cs.map (·.1)).Nodup) (s : ByteArray) :
    findV bs cs s true = (if 0 ≤ posL s bs 0 then (posL s bs 0, 0) else (0, 10)) ∧ findV bs cs s false = (if 0 ≤ posL s (cs.map (·.1)) 0 then (posL s (cs.map (·.1)) 0, 0) else (0, 10)) := by
  obtain ⟨n1, n2, n3⟩ := List.nodup_append.1 hn
  unfold findV
  rw [eC_val bs cs n2 s cs.length (Nat.le_refl _), List.take_length, eB_val bs n1 s bs.length (Nat.le_refl _), List.take_length]
  by_cases h1 : s ∈ cs.map (·.1)
  · have h2 : s ∉ bs := fun h => n3 s h s h1 rfl
    have h3 : ¬ 0 ≤ posL s bs 0 := fun h => h2 ((posL_iff s bs).1 h)
    rw [if_pos h1, if_neg h3, if_pos ((posL_iff s _).2 h1)]
    exact ⟨rfl, rfl⟩
  · have h3 : ¬ 0 ≤ posL s (cs.map (·.1)) 0 := fun h => h1 ((posL_iff s _).1 h)
    rw [if_neg h1, if_neg h3]
    by_cases h4 : s ∈ bs
    · rw [if_pos h4, if_pos ((posL_iff s _).2 h4)]
      exact ⟨rfl, rfl⟩
    · rw [if_neg h4, if_neg (fun h => h4 ((posL_iff s bs).1 h))]
      exact ⟨rfl, rfl⟩
end Go.Proofs.YtdoohocdaacnaaaDoor
