/- Many items, in plain words: as many as may be, and more. -/
import Derived.Test.YtboeeaekhijboaaPparsed
namespace Go.Proofs.Ytboeeaekhijboaa
open Go.RowKit
set_option linter.unusedVariables false
set_option linter.unusedSimpArgs false

def bItem : List UInt8 := [115, 111, 114, 116, 32, 97, 59]
def bSort : ByteArray := ⟨#[115, 111, 114, 116]⟩
def bNameA : ByteArray := ⟨#[97]⟩
/-- so many items' bytes -/
def manyL : Nat → List UInt8
  | 0 => []
  | n + 1 => bItem ++ manyL n
theorem manyL_end (n : Nat) : bItem ++ manyL n = manyL n ++ bItem := by
  induction n with
  | zero => simp [manyL]
  | succ n ih => simp only [manyL]; rw [List.append_assoc, ih]
theorem manyL_len (n : Nat) : (manyL n).length = 7 * n := by
  induction n with
  | zero => rfl
  | succ n ih => simp only [manyL, List.length_append, ih]; show 7 + 7 * n = 7 * (n + 1); omega
/-- the text -/
def manyT : Nat → ByteArray
  | 0 => ⟨#[]⟩
  | n + 1 => manyT n ++ ⟨#[115, 111, 114, 116, 32, 97, 59]⟩
theorem app_list2 (a b : List UInt8) : (⟨a.toArray⟩ : ByteArray) ++ ⟨b.toArray⟩ = ⟨(a ++ b).toArray⟩ := by
  apply ByteArray.ext; simp
theorem manyT_list (n : Nat) : manyT n = ⟨(manyL n).toArray⟩ := by
  induction n with
  | zero => rfl
  | succ n ih =>
    have h : (⟨#[115, 111, 114, 116, 32, 97, 59]⟩ : ByteArray) = ⟨bItem.toArray⟩ := rfl
    simp only [manyT, manyL, ih]
    rw [h, app_list2, manyL_end]
theorem manyT_data (n : Nat) : (manyT n).data.toList = manyL n := by rw [manyT_list]
theorem manyT_size (n : Nat) : (manyT n).size = 7 * n := by
  have h := congrArg List.length (manyT_data n)
  rw [manyL_len] at h
  exact h
theorem many_drop : ∀ (n i : Nat), i ≤ n → (manyL n).drop (7 * i) = manyL (n - i)
  | n, 0, _ => by simp
  | 0, i + 1, h => absurd h (by omega)
  | n + 1, i + 1, h => by
    have e : 7 * (i + 1) = bItem.length + 7 * i := by show 7 * (i + 1) = 7 + 7 * i; omega
    simp only [manyL]
    rw [e, ← List.drop_drop, List.drop_left, many_drop n i (by omega)]
    congr 1
    omega
/-- an item's tokens -/
def trip (a : Nat) : List Tok := [(1, bSort, a), (1, bNameA, a + 5), (3, bSemi, a + 6)]
def toksM : Nat → Nat → List Tok
  | _, 0 => []
  | a, m + 1 => trip a ++ toksM (a + 7) m
theorem toksM_len : ∀ m a, (toksM a m).length = 3 * m
  | 0, a => rfl
  | m + 1, a => by simp only [toksM, List.length_append, toksM_len m]; show 3 + 3 * m = 3 * (m + 1); omega
theorem toksM_get : ∀ m a i, i < m → (toksM a m)[3 * i]? = some (1, bSort, a + 7 * i) ∧ (toksM a m)[3 * i + 1]? = some (1, bNameA, a + 7 * i + 5) ∧ (toksM a m)[3 * i + 2]? = some (3, bSemi, a + 7 * i + 6)
  | 0, a, i, h => absurd h (Nat.not_lt_zero _)
  | m + 1, a, 0, _ => ⟨rfl, rfl, rfl⟩
  | m + 1, a, i + 1, h => by
    obtain ⟨h1, h2, h3⟩ := toksM_get m (a + 7) i (by omega)
    have e : ∀ j, (toksM a (m + 1))[j + 3]? = (toksM (a + 7) m)[j]? := fun j => rfl
    have ea : a + 7 * (i + 1) = a + 7 + 7 * i := by omega
    rw [show 3 * (i + 1) = 3 * i + 3 by omega, show 3 * i + 3 + 1 = (3 * i + 1) + 3 by omega, show 3 * i + 3 + 2 = (3 * i + 2) + 3 by omega, e, e, e, ea]
    exact ⟨h1, h2, h3⟩

theorem ext_of {s x : ByteArray} {a n : Nat} (h : (s.data.toList.drop a).take n = x.data.toList) : s.extract a (a + n) = x := by
  apply ByteArray.ext
  apply Array.ext'
  rw [ext_list]
  exact h
theorem drop_more (l : List UInt8) (k j : Nat) (x r : List UInt8) (h : l.drop k = x ++ r) (hj : x.length = j) : l.drop (k + j) = r := by
  rw [← List.drop_drop, h, ← hj, List.drop_left]

theorem many_lex (n : Nat) : ∀ m i f, i + m = n → 3 * m < f → lexG (manyT n) f (7 * i) false = (toksM (7 * i) m, none)
  | 0, i, f, h, hf => by
    obtain ⟨f, rfl⟩ : ∃ g, f = g + 1 := ⟨f - 1, by omega⟩
    refine lexG_end _ _ _ _ (7 * i) ?_ ?_
    · rw [manyT_data, many_drop n i (by omega), show n - i = 0 by omega]; rfl
    · rw [manyT_size]; omega
  | m + 1, i, f, h, hf => by
    obtain ⟨f, rfl⟩ : ∃ g, f = g + 3 := ⟨f - 3, by omega⟩
    have hd : (manyT n).data.toList.drop (7 * i) = 115 :: 111 :: 114 :: 116 :: 32 :: 97 :: 59 :: manyL m := by
      rw [manyT_data, many_drop n i (by omega), show n - i = m + 1 by omega]; rfl
    have hz := manyT_size n
    have d4 : (manyT n).data.toList.drop (7 * i + 4) = 32 :: 97 :: 59 :: manyL m := drop_more _ _ 4 [115, 111, 114, 116] _ hd rfl
    have d5 : (manyT n).data.toList.drop (7 * i + 5) = 97 :: 59 :: manyL m := drop_more _ _ 5 [115, 111, 114, 116, 32] _ hd rfl
    have d6 : (manyT n).data.toList.drop (7 * i + 6) = 59 :: manyL m := drop_more _ _ 6 [115, 111, 114, 116, 32, 97] _ hd rfl
    have f0 : firstOf ((manyT n).data.toList.drop (7 * i)) = (1, 4) := by rw [hd]; rfl
    have f5 : firstOf ((manyT n).data.toList.drop (7 * i + 5)) = (1, 1) := by rw [d5]; rfl
    have f6 : firstOf ((manyT n).data.toList.drop (7 * i + 6)) = (3, 1) := by rw [d6]; rfl
    have e0 : (manyT n).extract (7 * i) (7 * i + 4) = bSort := ext_of (by rw [hd]; rfl)
    have e5 : (manyT n).extract (7 * i + 5) (7 * i + 5 + 1) = bNameA := ext_of (by rw [d5]; rfl)
    have e6 : (manyT n).extract (7 * i + 6) (7 * i + 6 + 1) = bSemi := ext_of (by rw [d6]; rfl)
    have l0 := lexG_tok (manyT n) (f + 2) (7 * i) false (7 * i) 4 (by rw [hd]; rfl) (by omega) (by rw [f0]) (by decide) (by rw [f0]; rfl)
    have l1 := lexG_tok (manyT n) (f + 1) (7 * i + 4) false (7 * i + 5) 1 (by rw [d4]; rfl) (by omega) (by rw [f5]) (by decide) (by rw [f5]; rfl)
    have l2 := lexG_tok (manyT n) f (7 * i + 5 + 1) false (7 * i + 6) 1 (by rw [show 7 * i + 5 + 1 = 7 * i + 6 by omega, d6]; rfl) (by omega) (by rw [f6]) (by decide) (by rw [f6]; rfl)
    have ih := many_lex n m (i + 1) f (by omega) (by omega)
    rw [show 7 * (i + 1) = 7 * i + 6 + 1 by omega] at ih
    rw [show f + 3 = f + 2 + 1 by omega, l0, show f + 2 = f + 1 + 1 by omega, l1, l2, ih, f0, f5, f6, e0, e5, e6]
    rfl
theorem many_toks (n : Nat) : lexT (manyT n) = toksM 0 n ∧ lexF (manyT n) = none := by
  have h := many_lex n n 0 ((manyT n).size + 1) (by omega) (by rw [manyT_size]; omega)
  rw [Nat.mul_zero] at h
  unfold lexT lexF
  rw [h]
  exact ⟨rfl, rfl⟩
theorem tok_get {ts : List Tok} {s : ByteArray} {k : Nat} {t : Tok} (h : ts[k]? = some t) : tokAt ts s k 0 = t := by
  obtain ⟨hk, e⟩ := List.getElem?_eq_some_iff.1 h
  rw [tokAt_in (by omega) (by omega) (show k + (0 : Int).toNat < ts.length from hk)]
  exact e
theorem many_item {ts : List Tok} {s : ByteArray} {k a : Nat} (h0 : ts[k]? = some (1, bSort, a)) (h1 : ts[k + 1]? = some (1, bNameA, a + 5)) (h2 : ts[k + 2]? = some (3, bSemi, a + 6)) :
    itemS ts s k = .ok ((1, [bNameA], .nil, 0, (a : Int)), k + 3) := by
  have t0 := tok_get (s := s) h0
  have t1 := tok_get (s := s) h1
  have t2 := tok_get (s := s) h2
  have hl : k + 2 < ts.length := (List.getElem?_eq_some_iff.1 h2).1
  have kd : kindOf bSort = 1 := by kernel_rfl
  have hw : wordsS ts s (k + 1) = .ok ([bNameA], k + 2) := by
    unfold wordsS tokS
    rw [t1, if_pos rfl]
    simp only [Rz.bind]
    obtain ⟨f, hf⟩ : ∃ f, ts.length + 1 - (k + 1 + 1) = f + 1 := ⟨ts.length + 1 - (k + 1 + 1) - 1, by omega⟩
    rw [hf]
    simp only [moreW]
    rw [show k + 1 + 1 = k + 2 by omega, t2, if_neg (show ¬ ((3 : Int) = 1) by decide)]
  have hm : mustS ts s bSemi (k + 2) = .ok (k + 3) := by
    have h : okTok (3, bSemi, a + 6) bSemi = true := by
      have e : okTok (3, bSemi, 0) bSemi = true := by kernel_rfl
      exact e
    unfold mustS eatB
    rw [t2, if_pos h]
  unfold itemS
  rw [t0]
  dsimp only
  rw [kd, if_neg (by decide)]
  unfold bodyS
  rw [if_pos rfl, hw]
  simp only [Rz.bind]
  rw [hm]
  rfl
theorem many_items (n : Nat) (s : ByteArray) : ∀ m i f l, i + m = n → m ≤ f → ∃ L, itemsS (toksM 0 n) s f l (3 * i) = .ok (L, 3 * n) ∧ L.length = l.length + m
  | 0, i, f, l, h, hf => by
    have hl := toksM_len n 0
    have e : 3 * i = 3 * n := by omega
    refine ⟨l, ?_, rfl⟩
    cases f with
    | zero => unfold itemsS; rw [if_neg (by omega), e]
    | succ f => unfold itemsS; rw [if_neg (by omega), e]
  | m + 1, i, f, l, h, hf => by
    have hl := toksM_len n 0
    obtain ⟨f, rfl⟩ : ∃ g, f = g + 1 := ⟨f - 1, by omega⟩
    obtain ⟨h0, h1, h2⟩ := toksM_get n 0 i (by omega)
    have hi := many_item (s := s) h0 h1 h2
    obtain ⟨L, e1, e2⟩ := many_items n s m (i + 1) f (l ++ [(1, [bNameA], .nil, 0, ((0 + 7 * i : Nat) : Int))]) (by omega) (by omega)
    refine ⟨L, ?_, by rw [e2, List.length_append, List.length_singleton]; omega⟩
    unfold itemsS
    rw [if_pos (by omega), hi]
    simp only [Rz.bind]
    rw [show 3 * i + 3 = 3 * (i + 1) by omega]
    exact e1
theorem many_more (n : Nat) (s : ByteArray) : ∀ f i l, i + f < n → itemsS (toksM 0 n) s f l (3 * i) = .error (2, 3 * (i + f))
  | 0, i, l, h => by
    have hl := toksM_len n 0
    unfold itemsS
    rw [if_pos (by omega)]
    rfl
  | f + 1, i, l, h => by
    have hl := toksM_len n 0
    obtain ⟨h0, h1, h2⟩ := toksM_get n 0 i (by omega)
    have hi := many_item (s := s) h0 h1 h2
    unfold itemsS
    rw [if_pos (by omega), hi]
    simp only [Rz.bind]
    rw [show 3 * i + 3 = 3 * (i + 1) by omega, many_more n s f (i + 1) _ (by omega), show i + 1 + f = i + (f + 1) by omega]
theorem mark_line : ∀ (l : List UInt8) (m : Int × Int), (∀ c ∈ l, c ≠ 10) → l.foldl stepMark m = (m.1, m.2 + l.length)
  | [], m, _ => by simp
  | c :: r, m, h => by
    rw [List.foldl_cons, mark_line r _ (fun d hd => h d (List.mem_cons_of_mem _ hd))]
    have hc : c ≠ 10 := h c (List.mem_cons_self ..)
    unfold stepMark
    rw [if_neg hc]
    simp only [List.length_cons]
    congr 1
    omega
theorem many_no10 : ∀ n, ∀ c ∈ manyL n, c ≠ 10
  | 0, c, h => absurd h (List.not_mem_nil)
  | n + 1, c, h => by
    rcases List.mem_append.1 (show c ∈ bItem ++ manyL n from h) with h | h
    · simp only [bItem, List.mem_cons, List.not_mem_nil, or_false] at h
      rcases h with h | h | h | h | h | h | h <;> subst h <;> decide
    · exact many_no10 n c h
theorem many_few (n : Nat) (hn : n ≤ 1000) : ∃ L, resS [] (manyT n) (itemsS (lexT (manyT n)) (manyT n) 1000 [] 0) = ((0, 0, 0, ⟨#[]⟩), L) ∧ L.length = n := by
  obtain ⟨h1, h2⟩ := many_toks n
  obtain ⟨L, e1, e2⟩ := many_items n (manyT n) n 0 1000 [] (by omega) hn
  rw [Nat.mul_zero] at e1
  refine ⟨L, ?_, by rw [e2]; simp⟩
  have e3 : endS (lexT (manyT n)) (itemsS (lexT (manyT n)) (manyT n) 1000 [] 0) = .ok (L, 3 * n) := by
    rw [h1, e1]
    unfold endS
    simp only [Rz.bind]
    rw [if_neg (by rw [toksM_len]; omega)]
  unfold resS
  rw [h2]
  dsimp only
  rw [e3]
theorem many_long (n : Nat) (hn : 1000 < n) : resS [] (manyT n) (itemsS (lexT (manyT n)) (manyT n) 1000 [] 0) = ((2, 1, 7001, bSort), []) := by
  obtain ⟨h1, h2⟩ := many_toks n
  have e1 := many_more n (manyT n) 1000 0 [] (by omega)
  rw [Nat.mul_zero] at e1
  have e3 : endS (lexT (manyT n)) (itemsS (lexT (manyT n)) (manyT n) 1000 [] 0) = .error (2, 3000) := by
    rw [h1, e1]
    rfl
  have t0 := tok_get (s := manyT n) (toksM_get n 0 1000 hn).1
  have hf : fl4 (lexT (manyT n)) (manyT n) (some (2, 3000)) = (2, 1, 7001, bSort) := by
    unfold fl4 markAt
    rw [h1]
    dsimp only
    rw [show (3000 : Nat) = 3 * 1000 from rfl, t0]
    have hm : markOf ((manyT n).data.toList.take 7000) = (1, 7001) := by
      unfold markOf
      rw [mark_line _ _ (fun c hc => many_no10 n c (by rw [manyT_data] at hc; exact List.mem_of_mem_take hc)), List.length_take, manyT_data, manyL_len, Nat.min_eq_left (by omega)]
      rfl
    rw [show (0 + 7 * 1000 : Nat) = 7000 from rfl, hm]
    have hh : headOf bSort = bSort := by kernel_rfl
    rw [hh]
  unfold resS
  rw [h2]
  dsimp only
  rw [e3]
  dsimp only
  rw [hf]
end Go.Proofs.Ytboeeaekhijboaa
