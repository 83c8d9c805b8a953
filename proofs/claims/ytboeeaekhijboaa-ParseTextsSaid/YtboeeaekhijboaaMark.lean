/- Layer 1 in plain words: the place behind so many bytes. -/
import Derived.Test.YtboeeaekhijboaaSpec
namespace Go.Proofs.Ytboeeaekhijboaa
open Go.RowKit

/-- a text's lines from a place on -/
def linesOf (s : ByteArray) : Nat → Nat → List (Nat × ByteArray)
  | 0, _ => []
  | f + 1, k => if Lib.indexByte (s.data.toList.drop k) 10 < 0 then [(k, s.extract k s.size)]
      else (k, s.extract k (k + (Lib.indexByte (s.data.toList.drop k) 10).toNat)) :: linesOf s f (k + ((Lib.indexByte (s.data.toList.drop k) 10).toNat + 1))

/-- the place behind so many bytes -/
def stepMark (m : Int × Int) (c : UInt8) : Int × Int := if c = 10 then (m.1 + 1, 1) else (m.1, m.2 + 1)
def markOf (l : List UInt8) : Int × Int := l.foldl stepMark (1, 1)

theorem idx_none (l : List UInt8) (h : Lib.indexByte l 10 < 0) : ∀ i : Nat, l[i]? ≠ some 10 := by
  induction l with
  | nil => intro i; simp
  | cons b r ih =>
    have hb : b ≠ 10 := by
      rintro rfl
      simp [Lib.indexByte] at h
    have hr : Lib.indexByte r 10 < 0 := by
      rw [index_cons _ _ hb] at h
      split at h
      · rename_i h2
        have : Lib.indexByte r 10 = -1 := by simpa using h2
        omega
      · have := Lib.indexByte_ge r 10
        omega
    intro i
    cases i with
    | zero => simpa using hb
    | succ i => simpa using ih hr i

theorem idx_some (l : List UInt8) (n : Nat) (h : Lib.indexByte l 10 = n) : (∀ i : Nat, i < n → l[i]? ≠ some 10) ∧ l[n]? = some 10 := by
  induction l generalizing n with
  | nil => simp [Lib.indexByte] at h
  | cons b r ih =>
    by_cases hb : b = 10
    · subst hb
      have e : n = 0 := by
        have : Lib.indexByte (10 :: r) 10 = 0 := by simp [Lib.indexByte]
        omega
      subst e
      exact ⟨fun i hi => by omega, rfl⟩
    · rw [index_cons _ _ hb] at h
      split at h
      · omega
      · rename_i h2
        have hge := Lib.indexByte_ge r 10
        have h3 : Lib.indexByte r 10 ≠ -1 := fun e => h2 (by rw [e]; rfl)
        obtain ⟨m, hm⟩ := Int.eq_ofNat_of_zero_le (show 0 ≤ Lib.indexByte r 10 by omega)
        have e : n = m + 1 := by rw [hm] at h; omega
        subst e
        obtain ⟨i1, i2⟩ := ih m hm
        refine ⟨fun i hi => ?_, by simpa using i2⟩
        cases i with
        | zero => simpa using hb
        | succ i => simpa using i1 i (by omega)

theorem markOf_succ (l : List UInt8) (j : Nat) (h : j < l.length) : markOf (l.take (j + 1)) = stepMark (markOf (l.take j)) l[j] := by
  unfold markOf
  rw [List.take_succ_eq_append_getElem h, List.foldl_append]
  rfl

theorem mark_seg (l : List UInt8) (k d : Nat) (m : Int) (h : markOf (l.take k) = (m, 1)) (hl : k + d ≤ l.length) (hno : ∀ i, i < d → l[k + i]? ≠ some 10) :
    markOf (l.take (k + d)) = (m, (d : Int) + 1) := by
  induction d with
  | zero => simpa using h
  | succ d ih =>
    have hlt : k + d < l.length := by omega
    rw [← Nat.add_assoc, markOf_succ l (k + d) hlt, ih (by omega) (fun i hi => hno i (by omega))]
    have := hno d (by omega)
    rw [List.getElem?_eq_getElem hlt] at this
    have hne : l[k + d] ≠ 10 := fun e => this (by rw [e])
    simp only [stepMark, if_neg hne]
    congr 1

theorem lines_last (s : ByteArray) : ∀ f k, k ≤ s.size → s.size < k + f → ∃ p ∈ linesOf s f k, p.1 + p.2.size = s.size := by
  intro f
  induction f with
  | zero => intro k h1 h2; omega
  | succ f ih =>
    intro k h1 h2
    simp only [linesOf]
    by_cases hneg : Lib.indexByte (s.data.toList.drop k) 10 < 0
    · rw [if_pos hneg]
      exact ⟨_, List.mem_singleton.2 rfl, by simp; omega⟩
    · rw [if_neg hneg]
      obtain ⟨n, hn⟩ := Int.eq_ofNat_of_zero_le (show 0 ≤ Lib.indexByte (s.data.toList.drop k) 10 by omega)
      obtain ⟨i1, _⟩ := skip_remark _ n hn
      simp at i1
      rw [hn]
      obtain ⟨p, hp, e⟩ := ih (k + (n + 1)) (by omega) (by omega)
      exact ⟨p, List.mem_cons_of_mem _ hp, e⟩

theorem lines_mark (s : ByteArray) : ∀ (f k : Nat) (m : Int) (ini : List (Nat × ByteArray)) (last : Nat × ByteArray), k ≤ s.size → s.size < k + f → markOf (s.data.toList.take k) = (m, 1) →
    ini ++ [last] <+: linesOf s f k → ∀ at_ : Nat, k ≤ at_ → (∀ p ∈ ini, p.1 + p.2.size < at_) → at_ ≤ last.1 + last.2.size →
    last.1 ≤ at_ ∧ last.1 + last.2.size ≤ s.size ∧ markOf (s.data.toList.take at_) = (m + ini.length, (at_ : Int) - last.1 + 1) := by
  intro f
  induction f with
  | zero => intro k m ini last h1 h2; omega
  | succ f ih =>
    intro k m ini last h1 h2 hm hpre at_ hk hini hlast
    have hlen : s.data.toList.length = s.size := by simp
    simp only [linesOf] at hpre
    by_cases hneg : Lib.indexByte (s.data.toList.drop k) 10 < 0
    · rw [if_pos hneg] at hpre
      have hno := idx_none _ hneg
      cases ini with
      | nil =>
        have e : last = (k, s.extract k s.size) := by
          obtain ⟨t, ht⟩ := hpre
          simp at ht
          exact ht.1
        subst e
        have hsz : (s.extract k s.size).size = s.size - k := by simp
        refine ⟨hk, by simp only [hsz]; omega, ?_⟩
        obtain ⟨d, rfl⟩ : ∃ d, at_ = k + d := ⟨at_ - k, by omega⟩
        simp only [hsz] at hlast
        rw [mark_seg s.data.toList k d m hm (by omega) (fun i hi => by have := hno i; rwa [List.getElem?_drop] at this)]
        simp
        omega
      | cons a ini =>
        obtain ⟨t, ht⟩ := hpre
        have := congrArg List.length ht
        simp at this
    · rw [if_neg hneg] at hpre
      obtain ⟨n, hn⟩ := Int.eq_ofNat_of_zero_le (show 0 ≤ Lib.indexByte (s.data.toList.drop k) 10 by omega)
      obtain ⟨i1, _⟩ := skip_remark _ n hn
      obtain ⟨j1, j2⟩ := idx_some _ n hn
      simp at i1
      rw [hn] at hpre
      have hext : (s.extract k (k + n)).size = n := by simp; omega
      cases ini with
      | nil =>
        have e : last = (k, s.extract k (k + n)) := by
          obtain ⟨t, ht⟩ := hpre
          simp only [List.nil_append, List.cons_append, List.cons.injEq] at ht
          exact ht.1
        subst e
        refine ⟨hk, by simp only [hext]; omega, ?_⟩
        obtain ⟨d, rfl⟩ : ∃ d, at_ = k + d := ⟨at_ - k, by omega⟩
        simp only [hext] at hlast
        rw [mark_seg s.data.toList k d m hm (by omega) (fun i hi => by have := j1 i (by omega); rwa [List.getElem?_drop] at this)]
        simp
        omega
      | cons a ini =>
        obtain ⟨t, ht⟩ := hpre
        simp only [List.cons_append, List.cons.injEq] at ht
        obtain ⟨ha, ht⟩ := ht
        subst ha
        have hfirst := hini _ (List.mem_cons_self ..)
        simp only [Int.toNat_natCast, hext] at hfirst
        have hseg := mark_seg s.data.toList k n m hm (by omega) (fun i hi => by have := j1 i (by omega); rwa [List.getElem?_drop] at this)
        have hm2 : markOf (s.data.toList.take (k + (n + 1))) = (m + 1, 1) := by
          rw [← Nat.add_assoc, markOf_succ _ _ (by omega), hseg]
          rw [List.getElem?_drop, List.getElem?_eq_getElem (by omega)] at j2
          have e10 : s.data.toList[k + n] = 10 := by injection j2
          simp only [stepMark, e10, if_true]
        obtain ⟨r1, r2, r3⟩ := ih (k + (n + 1)) (m + 1) ini last (by omega) (by omega) hm2 ⟨t, by simpa using ht⟩ at_ (by omega) (fun p hp => hini p (List.mem_cons_of_mem _ hp)) hlast
        refine ⟨r1, r2, ?_⟩
        rw [r3]
        simp only [List.length_cons]
        congr 1
        omega
end Go.Proofs.Ytboeeaekhijboaa
