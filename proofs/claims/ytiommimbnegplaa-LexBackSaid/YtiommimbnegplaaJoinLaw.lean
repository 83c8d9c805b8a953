/- Tokens that a text has, printed one behind the other, are a text that has them again: plain laws of layer 3. -/
import Derived.Test.YtiommimbnegplaaPlain
import Derived.Test.YtiommimbnegplaaRsplit
import Derived.Lib.Join
namespace Go.Proofs.Ytiommimbnegplaa
open Go.RowKit

def Ends (r : List UInt8) : Prop := r = [] ∨ ∃ r', r = 32 :: r'
/-- such a text is one token, whatever blank thing stands behind it -/
def Good (kd : Int) (l : List UInt8) : Prop := l ≠ [] ∧ (∀ r, Ends r → skipLen (l ++ r) false = 0 ∧ firstOf (l ++ r) = (kd, l.length)) ∧ tooLong (kd, l.length) = false

theorem runLen_take (p : UInt8 → Bool) (h32 : p 32 = false) (r : List UInt8) (hr : Ends r) (l : List UInt8) : runLen p (l.take (runLen p l) ++ r) = runLen p l := by
  induction l with
  | nil =>
    rcases hr with rfl | ⟨r', rfl⟩
    · rfl
    · simp [runLen, h32]
  | cons c l ih =>
    simp only [runLen]
    split
    · rename_i hc
      simp [runLen, hc, ih]
    · rename_i hc
      rcases hr with rfl | ⟨r', rfl⟩
      · rfl
      · simp [runLen, h32]

theorem sign_plain (c : UInt8) (h : isSign c = true) : isBlank c = false ∧ c ≠ 35 ∧ c ≠ 45 ∧ isLetter c = false ∧ isDigit c = false := by
  unfold isSign signs at h
  simp only [List.contains_iff_mem, List.mem_cons, List.not_mem_nil, or_false] at h
  rcases h with h | h | h | h | h | h | h | h | h | h | h | h | h | h | h | h | h <;> subst h <;> decide

theorem take_len (l : List UInt8) (n : Nat) (h : n ≤ l.length) : (l.take n).length = n := by simp; omega

theorem good_of (l : List UInt8) (kd : Int) (n : Nat) (h : firstOf l = (kd, n)) (hn : n ≠ 0) (ht : tooLong (kd, n) = false) : Good kd (l.take n) := by
  have hle := firstOf_le l
  rw [h] at hle
  simp only at hle
  have hlen := take_len l n hle
  cases l with
  | nil => simp [firstOf] at h; omega
  | cons c r =>
    obtain ⟨m, rfl⟩ : ∃ m, n = m + 1 := ⟨n - 1, by omega⟩
    have htk : (c :: r).take (m + 1) = c :: r.take m := rfl
    refine ⟨by rw [htk]; simp, fun q hq => ?_, by rw [hlen]; exact ht⟩
    rw [hlen]
    simp only [firstOf] at h
    split at h
    · rename_i hc
      obtain ⟨p1, p2, p3⟩ := letter_plain c hc
      obtain ⟨rfl, h2⟩ := Prod.mk.inj h
      have h3 := runLen_take isInner (by decide) q hq (c :: r)
      rw [h2, htk] at h3
      rw [htk]
      refine ⟨skip_zero c _ p1 p2, ?_⟩
      rw [List.cons_append] at h3 ⊢
      simp only [firstOf]
      rw [if_pos hc, h3]
    · rename_i hcl
      split at h
      · rename_i hc
        obtain ⟨p1, p2, p3⟩ := digit_plain c hc
        obtain ⟨rfl, h2⟩ := Prod.mk.inj h
        have h3 := runLen_take isDigit (by decide) q hq (c :: r)
        rw [h2, htk] at h3
        rw [htk]
        refine ⟨skip_zero c _ p1 p2, ?_⟩
        rw [List.cons_append] at h3 ⊢
        simp only [firstOf]
        rw [if_neg hcl, if_pos hc, h3]
      · rename_i hcd
        obtain ⟨rfl, h2⟩ := Prod.mk.inj h
        simp only [signLen] at h2
        split at h2
        · rename_i hp
          have hp' := (prefix_iff c r).1 hp
          obtain ⟨rfl, hh⟩ := hp'
          have : m = 1 := by omega
          subst this
          cases r with
          | nil => simp at hh
          | cons d r2 =>
            have hd : d = 62 := by simpa using hh
            subst hd
            rw [htk]
            refine ⟨skip_zero 45 _ (by decide) (by decide), ?_⟩
            show firstOf (45 :: 62 :: q) = _
            simp only [firstOf]
            rw [if_neg hcl, if_neg hcd]
            simp only [signLen]
            rw [if_pos ((prefix_iff 45 (62 :: q)).2 ⟨rfl, rfl⟩)]
        · split at h2
          · rename_i hs
            obtain ⟨p1, p2, p3, -, -⟩ := sign_plain c hs
            have : m = 0 := by omega
            subst this
            rw [htk]
            refine ⟨skip_zero c _ p1 p2, ?_⟩
            show firstOf (c :: q) = _
            simp only [firstOf]
            rw [if_neg hcl, if_neg hcd]
            simp only [signLen]
            rw [if_neg (fun h => p3 ((prefix_iff c q).1 h).1), if_pos hs]
          · omega

/-- what the law asks of a text's tokens -/
def TokOk (s : ByteArray) (t : Tok) : Prop := Good t.1 t.2.1.data.toList ∧ s.extract t.2.2 (t.2.2 + t.2.1.size) = t.2.1 ∧ t.2.2 + t.2.1.size ≤ s.size

theorem ext_list (s : ByteArray) (a n : Nat) (_h : a + n ≤ s.size) : (s.extract a (a + n)).data.toList = (s.data.toList.drop a).take n := by
  simp [ByteArray.data_extract]

theorem lexG_good (s : ByteArray) : ∀ f k b, k ≤ s.size → ∀ t ∈ (lexG s f k b).1, (lexG s f k b).2 = none → TokOk s t := by
  intro f
  induction f with
  | zero => intro k b hk t ht; simp [lexG] at ht
  | succ f ih =>
    intro k b hk t ht hnone
    obtain ⟨a, ha⟩ : ∃ a, k + skipLen (s.data.toList.drop k) b = a := ⟨_, rfl⟩
    by_cases h1 : a = s.size
    · rw [lexG_end s f k b a ha h1] at ht; simp at ht
    · by_cases h2 : (firstOf (s.data.toList.drop a)).2 = 0
      · rw [lexG_form s f k b a ha h1 h2] at ht; simp at ht
      · by_cases h3 : tooLong (firstOf (s.data.toList.drop a)) = true
        · rw [lexG_long s f k b a _ ha h1 rfl h2 h3] at ht; simp at ht
        · have h3' : tooLong (firstOf (s.data.toList.drop a)) = false := by simpa using h3
          rw [lexG_tok s f k b a _ ha h1 rfl h2 h3'] at ht hnone
          have hal : a ≤ s.size := by
            have := skipLen_le (s.data.toList.drop k) b
            simp at this
            omega
          have hn := firstOf_le (s.data.toList.drop a)
          simp only [List.length_drop, Array.length_toList] at hn
          have hn' : (firstOf (s.data.toList.drop a)).2 ≤ s.size - a := hn
          rcases List.mem_cons.1 ht with rfl | ht
          · have hz : (s.extract a (a + (firstOf (s.data.toList.drop a)).2)).size = (firstOf (s.data.toList.drop a)).2 := by simp; omega
            refine ⟨?_, by simp only [hz], by simp only [hz]; omega⟩
            show Good _ _
            rw [ext_list s a _ (by omega)]
            exact good_of _ _ _ rfl h2 h3'
          · exact ih _ false (by omega) t ht hnone

def tailJ (ts : List Tok) : List UInt8 := Lib.joinTail [32] (ts.map (·.2.1.data.toList))
theorem tailJ_cons (t : Tok) (ts : List Tok) : tailJ (t :: ts) = 32 :: (t.2.1.data.toList ++ tailJ ts) := by simp [tailJ, Lib.joinTail]
theorem tailJ_ends (ts : List Tok) : Ends (tailJ ts) := by
  cases ts with
  | nil => exact Or.inl rfl
  | cons t ts => exact Or.inr ⟨_, tailJ_cons t ts⟩

def kt (t : Tok) : Int × ByteArray := (t.1, t.2.1)

theorem bytes_ext {a b : ByteArray} (h : a.data.toList = b.data.toList) : a = b := by
  cases a; cases b
  congr 1
  exact Array.ext' h

theorem lexG_step (J : ByteArray) (f k a : Nat) (b : Bool) (t : Tok) (r : List UInt8) (hg : Good t.1 t.2.1.data.toList) (hd : J.data.toList.drop a = t.2.1.data.toList ++ r) (hr : Ends r)
    (ha : k + skipLen (J.data.toList.drop k) b = a) (hle : a ≤ J.size) :
    lexG J (f + 1) k b = ((t.1, t.2.1, a) :: (lexG J f (a + t.2.1.size) false).1, (lexG J f (a + t.2.1.size) false).2) ∧ J.data.toList.drop (a + t.2.1.size) = r ∧ a + t.2.1.size ≤ J.size := by
  obtain ⟨g1, g2, g3⟩ := hg
  obtain ⟨s1, s2⟩ := g2 r hr
  have hlen : t.2.1.data.toList.length = t.2.1.size := by simp
  have hlJ := congrArg List.length hd
  simp only [List.length_drop, List.length_append, Array.length_toList] at hlJ
  have hlJ' : J.size - a = t.2.1.size + r.length := hlJ
  have hpos : 0 < t.2.1.size := by
    rw [← hlen]; exact List.length_pos_iff.2 g1
  rw [hlen] at s2 g3
  have e1 := lexG_tok J f k b a t.2.1.size ha (by omega) (by rw [hd, s2]) (by omega) (by rw [hd, s2]; exact g3)
  have e2 : J.extract a (a + t.2.1.size) = t.2.1 := by
    apply bytes_ext
    rw [ext_list J a _ (by omega), hd]
    exact List.take_left' hlen
  refine ⟨?_, ?_, by omega⟩
  · rw [e1, e2, hd, s2]
  · rw [← List.drop_drop, hd]
    exact List.drop_left' hlen

theorem lexG_tail (J : ByteArray) : ∀ (ts : List Tok) (f k : Nat), (∀ t ∈ ts, Good t.1 t.2.1.data.toList) → J.data.toList.drop k = tailJ ts → k ≤ J.size → ts.length < f →
    ∃ us, lexG J f k false = (us, none) ∧ us.map kt = ts.map kt := by
  intro ts
  induction ts with
  | nil =>
    intro f k _ hd hk hf
    obtain ⟨f, rfl⟩ : ∃ g, f = g + 1 := ⟨f - 1, by simp at hf; omega⟩
    have hd' : J.data.toList.drop k = [] := hd
    have hl := congrArg List.length hd'
    simp at hl
    have hl' : J.size - k = 0 := hl
    exact ⟨[], lexG_end J f k false k (by rw [hd']; rfl) (by omega), rfl⟩
  | cons t ts ih =>
    intro f k hg hd hk hf
    obtain ⟨f, rfl⟩ : ∃ g, f = g + 1 := ⟨f - 1, by simp at hf; omega⟩
    rw [tailJ_cons] at hd
    have hgt := hg t (by simp)
    have hd1 : J.data.toList.drop (k + 1) = t.2.1.data.toList ++ tailJ ts := by
      rw [← List.drop_drop, hd]; rfl
    have hs : skipLen (J.data.toList.drop k) false = 1 := by
      rw [hd]
      have h1 : isBlank 32 = true := by decide
      simp only [skipLen]
      rw [if_pos h1, (hgt.2.1 _ (tailJ_ends ts)).1]
    have hk1 : k + 1 ≤ J.size := by
      have hl := congrArg List.length hd
      simp at hl
      have hl' : J.size - k = t.2.1.size + (tailJ ts).length + 1 := hl
      omega
    obtain ⟨e1, e2, e3⟩ := lexG_step J f k (k + 1) false t (tailJ ts) hgt hd1 (tailJ_ends ts) (by rw [hs]) hk1
    obtain ⟨us, hu, hm⟩ := ih f (k + 1 + t.2.1.size) (fun x hx => hg x (by simp [hx])) e2 e3 (by simp at hf; omega)
    refine ⟨(t.1, t.2.1, k + 1) :: us, ?_, ?_⟩
    · rw [e1, hu]
    · simp [hm, kt]

def joined (ts : List Tok) : ByteArray := ⟨(Lib.join (ts.map (·.2.1.data.toList)) [32]).toArray⟩

theorem lexG_joined (ts : List Tok) (hg : ∀ t ∈ ts, Good t.1 t.2.1.data.toList) (f : Nat) (hf : ts.length < f) : ∃ us, lexG (joined ts) f 0 false = (us, none) ∧ us.map kt = ts.map kt := by
  cases ts with
  | nil => exact ⟨[], by obtain ⟨f, rfl⟩ : ∃ g, f = g + 1 := ⟨f - 1, by simp at hf; omega⟩
                         rfl, rfl⟩
  | cons t ts =>
    obtain ⟨f, rfl⟩ : ∃ g, f = g + 1 := ⟨f - 1, by simp at hf; omega⟩
    have hgt := hg t (by simp)
    have hd : (joined (t :: ts)).data.toList.drop 0 = t.2.1.data.toList ++ tailJ ts := by
      rw [List.drop_zero]
      simp only [joined, List.map_cons, Lib.join_cons]
      rfl
    obtain ⟨e1, e2, e3⟩ := lexG_step (joined (t :: ts)) f 0 0 false t (tailJ ts) hgt hd (tailJ_ends ts) (by rw [hd, (hgt.2.1 _ (tailJ_ends ts)).1]) (Nat.zero_le _)
    obtain ⟨us, hu, hm⟩ := lexG_tail (joined (t :: ts)) ts f (0 + t.2.1.size) (fun x hx => hg x (by simp [hx])) e2 e3 (by simp at hf; omega)
    refine ⟨(t.1, t.2.1, 0) :: us, ?_, ?_⟩
    · rw [e1, hu]
    · simp [hm, kt]
end Go.Proofs.Ytiommimbnegplaa
