/- What Check says of a table of many words. -/
import Derived.Test.YtdoohocdaacnaaaDoorWordI
namespace Go.Proofs.YtdoohocdaacnaaaDoor
open Go.RowKit Go.Maps
set_option linter.unusedVariables false
set_option linter.unusedSimpArgs false

theorem lookC_zero {l : List ByteArray} {s : ByteArray} (h1 : wordB s = true) (h2 : ¬ s ∈ l) : lookC l s = 0 := by
  have h3 : ¬ inN l s = true := fun h => h2 (inN_iff.1 h)
  unfold lookC
  rw [if_neg (by rw [h1]; decide), if_neg h3]
theorem chkB_zero : ∀ (bs p : List ByteArray), (∀ s ∈ bs, wordB s = true) → (p ++ bs).Nodup → chkB p bs = 0
  | [], p, _, _ => rfl
  | s :: r, p, hw, hd => by
    have h1 : ¬ s ∈ p := fun h => by
      have := (List.nodup_append.1 hd).2.2 s h s (by simp)
      exact this rfl
    unfold chkB
    rw [if_pos (lookC_zero (hw s (by simp)) h1)]
    exact chkB_zero r (p ++ [s]) (fun x hx => hw x (by simp [hx])) (by rw [List.append_assoc]; exact hd)
theorem chkC_zero (n : Int) : ∀ (cs : List Cn) (p : List ByteArray), (∀ c ∈ cs, wordB c.1 = true ∧ goodL n ((1, c.2.2) :: nodes 2 c.2.1) = true) → (p ++ cs.map (·.1)).Nodup → chkC n p cs = 0
  | [], p, _, _ => rfl
  | c :: r, p, hw, hd => by
    rw [List.map_cons] at hd
    have h1 : ¬ c.1 ∈ p := fun h => by
      have := (List.nodup_append.1 hd).2.2 c.1 h c.1 (by simp)
      exact this rfl
    unfold chkC
    rw [if_pos (lookC_zero (hw c (by simp)).1 h1), if_pos (hw c (by simp)).2]
    exact chkC_zero n r (p ++ [c.1]) (fun x hx => hw x (by simp [hx])) (by rw [List.append_assoc]; exact hd)

/-- the bases, and the constants -/
def bsW (n : Nat) : List ByteArray := (List.range n).map wd
def csW (n m : Nat) : List Cn := (List.range m).map fun i => (wd (n + i), Fs.nil, 0)
theorem bsW_len (n : Nat) : (bsW n).length = n := by simp [bsW]
theorem csW_len (n m : Nat) : (csW n m).length = m := by simp [csW]
theorem bsW_snoc (n : Nat) : bsW (n + 1) = bsW n ++ [wd n] := by simp [bsW, List.range_succ]
theorem csW_snoc (n m : Nat) : csW n (m + 1) = csW n m ++ [(wd (n + m), Fs.nil, 0)] := by simp [csW, List.range_succ]
theorem csW_fst (n : Nat) : ∀ m, bsW n ++ (csW n m).map (·.1) = bsW (n + m)
  | 0 => by simp [csW]
  | m + 1 => by
    rw [csW_snoc, List.map_append, ← List.append_assoc, csW_fst n m]
    show bsW (n + m) ++ [wd (n + m)] = bsW (n + m + 1)
    rw [bsW_snoc]
theorem bsW_nodup (n : Nat) (h : n ≤ 17576) : (bsW n).Nodup := by
  unfold bsW List.Nodup
  rw [List.pairwise_map]
  refine List.Pairwise.imp_of_mem ?_ List.pairwise_lt_range
  intro a b ha hb hab e
  have := wd_inj (Nat.lt_of_lt_of_le (List.mem_range.1 ha) h) (Nat.lt_of_lt_of_le (List.mem_range.1 hb) h) e
  omega
theorem bsW_word {n : Nat} {s : ByteArray} (h : s ∈ bsW n) : wordB s = true := by
  unfold bsW at h
  obtain ⟨i, _, rfl⟩ := List.mem_map.1 h
  exact wd_word i
theorem good_one {n : Int} (h : 0 < n) : goodL n ((1, 0) :: nodes 2 .nil) = true := by
  unfold goodL goodN
  simp [nodes]
  omega
theorem good_none : goodL 0 ((1, 0) :: nodes 2 .nil) = false := by kernel_rfl

theorem long_many {n m : Nat} (h : 1000 < n + m) : checkT (bsW n) (csW n m) = 2 := by
  unfold checkT
  rw [bsW_len, csW_len, if_pos (by omega)]
theorem long_none {m : Nat} (h : m ≤ 1000) (h0 : 0 < m) : checkT (bsW 0) (csW 0 m) = 5 := by
  unfold checkT
  rw [bsW_len, csW_len, if_neg (by omega)]
  obtain ⟨k, rfl⟩ : ∃ k, m = k + 1 := ⟨m - 1, by omega⟩
  have e : csW 0 (k + 1) = (wd 0, Fs.nil, 0) :: ((List.range k).map Nat.succ).map fun i => (wd (0 + i), Fs.nil, 0) := by
    unfold csW; rw [List.range_succ_eq_map]; rfl
  rw [if_pos (show chkB [] (bsW 0) = 0 from rfl), e]
  unfold chkC
  rw [if_pos (lookC_zero (wd_word 0) (by simp [bsW]))]
  rw [if_neg (by show ¬ goodL ((0 : Nat) : Int) _ = true; rw [show ((0 : Nat) : Int) = 0 from rfl, good_none]; decide)]
theorem long_some {n m : Nat} (h : n + m ≤ 1000) (h0 : 0 < n) : checkT (bsW n) (csW n m) = 0 := by
  unfold checkT
  rw [bsW_len, csW_len, if_neg (by omega), if_pos (chkB_zero _ _ (fun s hs => bsW_word hs) (by rw [List.nil_append]; exact bsW_nodup n (by omega)))]
  refine chkC_zero _ _ _ (fun c hc => ?_) (by rw [csW_fst]; exact bsW_nodup _ (by omega))
  unfold csW at hc
  obtain ⟨i, _, rfl⟩ := List.mem_map.1 hc
  exact ⟨wd_word _, good_one (by omega)⟩
end Go.Proofs.YtdoohocdaacnaaaDoor
