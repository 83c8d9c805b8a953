/- What the tokens of a text are like. -/
import Derived.Test.YtboeeaekhijboaaPrst
import Derived.Test.YtboeeaekhijboaaPitems
namespace Go.Proofs.Ytboeeaekhijboaa
open Go.RowKit
set_option linter.unusedVariables false
set_option linter.unusedSimpArgs false

/-- a token of a text -/
def TokIs (s : ByteArray) (t : Tok) : Prop :=
 ∃ a n, a + n ≤ s.size ∧ n ≠ 0 ∧ firstOf (s.data.toList.drop a) = (t.1, n) ∧ tooLong (t.1, n) = false ∧ t.2.1 = s.extract a (a + n) ∧ t.2.2 = a
theorem lexG_tokIs (s : ByteArray) : ∀ f k b, k ≤ s.size → ∀ t ∈ (lexG s f k b).1, TokIs s t := by
 intro f
 induction f with
 | zero => intro k b _ t ht; simp [lexG] at ht
 | succ f ih =>
   intro k b hk t ht
   simp only [lexG] at ht
   have hsl := skipLen_le (s.data.toList.drop k) b
   simp only [List.length_drop] at hsl
   rw [show s.data.toList.length = s.size by simp] at hsl
   have hfl := firstOf_le (s.data.toList.drop (k + skipLen (s.data.toList.drop k) b))
   simp only [List.length_drop] at hfl
   rw [show s.data.toList.length = s.size by simp] at hfl
   split at ht
   ·
    cases ht
   ·
    split at ht
    ·
     cases ht
    ·
     split at ht
     ·
      cases ht
     ·
      rename_i h1 h2 h3
      rcases List.mem_cons.1 ht with rfl | ht
      ·
       exact ⟨_, _, by omega, h2, rfl, by simpa using h3, rfl, rfl⟩
      ·
       exact ih _ false (by omega) t ht
theorem ext_list (s : ByteArray) (a n : Nat) : (s.extract a (a + n)).data.toList = (s.data.toList.drop a).take n := by
 simp [List.take_drop]
theorem TokIs.size {s : ByteArray} {t : Tok} (h : TokIs s t) : t.2.1.size ≤ s.size ∧ t.2.2 ≤ s.size := by
 obtain ⟨a, n, h1, h2, h3, h4, h5, h6⟩ := h
 rw [h5, h6, ByteArray.size_extract]
 omega
theorem TokIs.kind {s : ByteArray} {t : Tok} (h : TokIs s t) : t.1 = 1 ∨ t.1 = 2 ∨ t.1 = 3 := by
 obtain ⟨a, n, h1, h2, h3, h4, h5, h6⟩ := h
 have := firstOf_kind (s.data.toList.drop a)
 rw [h3] at this
 exact this
theorem TokIs.word {s : ByteArray} {t : Tok} (h : TokIs s t) (h1 : t.1 = 1) : t.2.1.data.toList.head?.any isLetter = true := by
 obtain ⟨a, n, h1', h2, h3, h4, h5, h6⟩ := h
 rw [h5, ext_list]
 cases e : s.data.toList.drop a with
 | nil => rw [e] at h3; simp only [firstOf] at h3; have := congrArg Prod.fst h3; dsimp only at this; rw [h1] at this; exact absurd this (by decide)
 | cons c r =>
   rw [e] at h3
   simp only [firstOf] at h3
   split at h3
   ·
    rename_i hc
    cases n with
    | zero => exact absurd rfl h2
    | succ n => simp [hc]
   ·
    split at h3
    ·
     have := congrArg Prod.fst h3; dsimp only at this; rw [h1] at this; exact absurd this (by decide)
    ·
     have := congrArg Prod.fst h3; dsimp only at this; rw [h1] at this; exact absurd this (by decide)
theorem runLen_take (p : UInt8 → Bool) : ∀ l : List UInt8, runLen p (l.take (runLen p l)) = runLen p l := by
 intro l
 induction l with
 | nil => rfl
 | cons c r ih =>
   simp only [runLen]
   split
   ·
    rename_i h
    simp only [List.take_succ_cons, runLen, if_pos h, ih]
   ·
    rfl
theorem TokIs.num {s : ByteArray} {t : Tok} (h : TokIs s t) (h1 : t.1 = 2) : numB t.2.1 = true := by
 obtain ⟨a, n, h1', h2, h3, h4, h5, h6⟩ := h
 have hsz : t.2.1.size = n := by rw [h5, ByteArray.size_extract]; omega
 have hl : runLen isDigit (s.data.toList.drop a) = n := by
  cases e : s.data.toList.drop a with
  | nil => rw [e] at h3; simp only [firstOf] at h3; have := congrArg Prod.fst h3; dsimp only at this; rw [h1] at this; exact absurd this (by decide)
  | cons c r =>
    rw [e] at h3
    simp only [firstOf] at h3
    split at h3
    ·
     have := congrArg Prod.fst h3; dsimp only at this; rw [h1] at this; exact absurd this (by decide)
    ·
     split at h3
     ·
      exact congrArg Prod.snd h3
     ·
      have := congrArg Prod.fst h3; dsimp only at this; rw [h1] at this; exact absurd this (by decide)
 have h9 : n ≤ 9 := by
  unfold tooLong at h4
  rw [h1] at h4
  simp at h4
  omega
 have hr : runLen isDigit t.2.1.data.toList = n := by
  rw [h5, ext_list, ← hl, runLen_take]
 unfold numB
 rw [hr, hsz]
 simp
 omega
/-- the tokens of a text -/
def lexT (s : ByteArray) : List Tok := (lexG s (s.size + 1) 0 false).1
def lexF (s : ByteArray) : Option Flt := (lexG s (s.size + 1) 0 false).2
theorem lexT_is (s : ByteArray) : ∀ t ∈ lexT s, TokIs s t := lexG_tokIs s _ _ _ (Nat.zero_le _)
theorem lexT_len (s : ByteArray) : (lexT s).length ≤ s.size := by
 have := lexG_len s (s.size + 1) 0 false (Nat.zero_le _)
 unfold lexT
 omega
theorem lexT_env {s : ByteArray} (hs : s.size ≤ 20000) {rb pb : Nat} (h : rb < pb) : Env rb pb (lexT s) s :=
 ⟨h, by have := lexT_len s; omega, hs, fun t ht => (lexT_is s t ht).size.2, fun t ht => by have := (lexT_is s t ht).size.1; omega⟩
theorem lexT_renv {s : ByteArray} (hs : s.size ≤ 20000) : Renv (lexT s) s :=
 ⟨by have := lexT_len s; omega, hs, fun t ht h1 => (lexT_is s t ht).word h1⟩
theorem lexT_4 (s : ByteArray) : ∀ t ∈ lexT s, t.1 ≠ 4 := fun t ht e => by
 rcases (lexT_is s t ht).kind with h | h | h <;> rw [h] at e <;> exact absurd e (by decide)
end Go.Proofs.Ytboeeaekhijboaa
