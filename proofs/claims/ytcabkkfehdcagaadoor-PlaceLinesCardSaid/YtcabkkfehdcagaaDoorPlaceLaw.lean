/- Places and lines: what place.At answers is what the reference's At answers; plain laws. -/
import Derived.Test.YtcabkkfehdcagaaDoorFns
import Derived.Test.YtcabkkfehdcagaaDoorRef
namespace Go.Proofs.YtcabkkfehdcagaaDoor
open Go.RowKit
set_option linter.unusedVariables false

theorem prefix_at {α : Type} {L a : List α} {x : α} (h : a ++ [x] <+: L) : L[a.length]? = some x := by
  obtain ⟨t, rfl⟩ := h
  rw [List.append_assoc, List.getElem?_append_right (Nat.le_refl _)]
  simp

theorem lines_ge (s : ByteArray) : ∀ f k, k ≤ s.size → ∀ p ∈ linesOf s f k, k ≤ p.1 := by
  intro f
  induction f with
  | zero => intro k h p hp; simp [linesOf] at hp
  | succ f ih =>
    intro k h p hp
    simp only [linesOf] at hp
    by_cases hneg : Lib.indexByte (s.data.toList.drop k) 10 < 0
    · rw [if_pos hneg] at hp
      obtain rfl := List.mem_singleton.1 hp
      exact Nat.le_refl _
    · rw [if_neg hneg] at hp
      obtain ⟨n, hn⟩ := Int.eq_ofNat_of_zero_le (show 0 ≤ Lib.indexByte (s.data.toList.drop k) 10 by omega)
      obtain ⟨i1, _⟩ := skip_remark _ n hn
      simp at i1
      rw [hn] at hp
      rcases List.mem_cons.1 hp with rfl | hp
      · exact Nat.le_refl _
      · have := ih (k + (n + 1)) (by omega) p hp
        omega

theorem lines_sorted (s : ByteArray) : ∀ f k ini last, k ≤ s.size → ini ++ [last] <+: linesOf s f k → ∀ p ∈ ini, p.1 + p.2.size < last.1 := by
  intro f
  induction f with
  | zero =>
    intro k ini last h hp
    have := hp.length_le
    simp [linesOf] at this
  | succ f ih =>
    intro k ini last h hp p hpm
    simp only [linesOf] at hp
    by_cases hneg : Lib.indexByte (s.data.toList.drop k) 10 < 0
    · rw [if_pos hneg] at hp
      have := hp.length_le
      simp at this
      subst this
      cases hpm
    · rw [if_neg hneg] at hp
      obtain ⟨n, hn⟩ := Int.eq_ofNat_of_zero_le (show 0 ≤ Lib.indexByte (s.data.toList.drop k) 10 by omega)
      obtain ⟨i1, _⟩ := skip_remark _ n hn
      simp at i1
      rw [hn] at hp
      have hext : (s.extract k (k + n)).size = n := by simp; omega
      cases ini with
      | nil => cases hpm
      | cons a ini =>
        obtain ⟨t, ht⟩ := hp
        simp only [List.cons_append, List.cons.injEq] at ht
        obtain ⟨ha, ht⟩ := ht
        have hpre : ini ++ [last] <+: linesOf s f (k + (n + 1)) := ⟨t, by simpa using ht⟩
        rcases List.mem_cons.1 hpm with rfl | hpm
        · have hl : k + (n + 1) ≤ last.1 := lines_ge s f _ (by omega) last (hpre.subset (by simp))
          rw [ha]
          simp only [Int.toNat_natCast, hext]
          omega
        · exact ih (k + (n + 1)) ini last (by omega) hpre p hpm

theorem lines_cover (s : ByteArray) (n : Nat) (hn : n ≤ s.size) : ∃ ini last, ini ++ [last] <+: linesOf s (s.size + 1) 0 ∧ (∀ p ∈ ini, p.1 + p.2.size < n) ∧ n ≤ last.1 + last.2.size := by
  have gen : ∀ L : List (Nat × ByteArray), (∃ p ∈ L, n ≤ p.1 + p.2.size) → ∃ ini last, ini ++ [last] <+: L ∧ (∀ p ∈ ini, p.1 + p.2.size < n) ∧ n ≤ last.1 + last.2.size := by
    intro L
    induction L with
    | nil => rintro ⟨p, hp, -⟩; cases hp
    | cons a L ih =>
      rintro ⟨p, hp, h⟩
      by_cases ha : n ≤ a.1 + a.2.size
      · exact ⟨[], a, ⟨L, rfl⟩, by simp, ha⟩
      · obtain ⟨ini, last, h1, h2, h3⟩ := ih ⟨p, (List.mem_cons.1 hp).resolve_left (fun e => by subst e; exact ha h), h⟩
        refine ⟨a :: ini, last, ?_, ?_, h3⟩
        · obtain ⟨t, ht⟩ := h1
          exact ⟨t, by simp [← ht]⟩
        · intro q hq
          rcases List.mem_cons.1 hq with rfl | hq
          · omega
          · exact h2 q hq
  obtain ⟨p, hp, e⟩ := lines_last s (s.size + 1) 0 (Nat.zero_le _) (by omega)
  exact gen _ ⟨p, hp, by omega⟩

theorem mark_line (s : ByteArray) (ini : List (Nat × ByteArray)) (last : Nat × ByteArray) (h : ini ++ [last] <+: linesOf s (s.size + 1) 0) (n : Nat) (h1 : last.1 ≤ n) (h2 : n ≤ last.1 + last.2.size) :
    n ≤ s.size ∧ markOf (s.data.toList.take n) = ((ini.length : Int) + 1, (n : Int) - last.1 + 1) := by
  obtain ⟨r1, r2, r3⟩ := lines_mark s (s.size + 1) 0 1 ini last (Nat.zero_le _) (by omega) rfl h n (Nat.zero_le _)
    (fun p hp => by have := lines_sorted s _ 0 ini last (Nat.zero_le _) h p hp; omega) h2
  refine ⟨by omega, ?_⟩
  rw [r3, show (1 : Int) + (ini.length : Int) = (ini.length : Int) + 1 by omega]

theorem line_of_mark (s : ByteArray) (n : Nat) (hn : n ≤ s.size) (x y : Int) (h : markOf (s.data.toList.take n) = (x, y)) :
    ∃ ini last, ini ++ [last] <+: linesOf s (s.size + 1) 0 ∧ x = (ini.length : Int) + 1 ∧ 1 ≤ y ∧ y ≤ (last.2.size : Int) + 1 := by
  obtain ⟨ini, last, h1, h2, h3⟩ := lines_cover s n hn
  obtain ⟨r1, r2, r3⟩ := lines_mark s (s.size + 1) 0 1 ini last (Nat.zero_le _) (by omega) rfl h1 n (Nat.zero_le _) h2 h3
  rw [h] at r3
  obtain ⟨e1, e2⟩ := Prod.mk.inj r3
  exact ⟨ini, last, h1, by omega, by omega, by omega⟩

theorem at_told (s : ByteArray) (x y : Int) (e : Ending) (h : AtSays s x y e) :
    (∃ n : Nat, n ≤ s.size ∧ markOf (s.data.toList.take n) = (x, y) ∧ e = .returned (.tuple #[.int .i64 n, .int .i64 0])) ∨
    ((∀ n : Nat, n ≤ s.size → markOf (s.data.toList.take n) ≠ (x, y)) ∧ e = .returned (.tuple #[.int .i64 0, .int .i64 10])) := by
  obtain ⟨ys, hp, h | h | h⟩ := h
  · obtain ⟨ini, last, rfl, hx, ⟨hy1, hy2⟩, rfl⟩ := h
    rw [List.map_append] at hp
    obtain ⟨yn, rfl⟩ : ∃ yn : Nat, y = (yn : Int) + 1 := ⟨(y - 1).toNat, by omega⟩
    obtain ⟨r1, r2⟩ := mark_line s (ini.map (·.1)) last.1 hp (last.1.1 + yn) (by omega) (by omega)
    refine .inl ⟨last.1.1 + yn, r1, ?_, ?_⟩
    · rw [r2, hx, List.length_map]
      apply Prod.ext
      · rfl
      · show ((last.1.1 + yn : Nat) : Int) - (last.1.1 : Int) + 1 = (yn : Int) + 1
        omega
    · have : (last.1.1 : Int) + ((yn : Int) + 1) - 1 = ((last.1.1 + yn : Nat) : Int) := by omega
      rw [this]
  · obtain ⟨ini, last, rfl, hx, hy, rfl⟩ := h
    rw [List.map_append] at hp
    refine .inr ⟨fun n hn hm => ?_, rfl⟩
    obtain ⟨ini', last', h1, h2, h3, h4⟩ := line_of_mark s n hn x y hm
    have e1 := prefix_at hp
    have e2 := prefix_at h1
    have : (ini.map (·.1)).length = ini'.length := by rw [List.length_map]; omega
    rw [this, e2] at e1
    have e3 : last' = last.1 := by injection e1
    rw [e3] at h4
    exact hy ⟨h3, h4⟩
  · obtain ⟨hy, hx, rfl⟩ := h
    refine .inr ⟨fun n hn hm => ?_, rfl⟩
    obtain ⟨ini', last', h1, h2, h3, h4⟩ := line_of_mark s n hn x y hm
    have := h1.length_le
    rw [← hy, List.length_append, List.length_map] at this
    simp at this
    exact hx ⟨by omega, by omega⟩
end Go.Proofs.YtcabkkfehdcagaaDoor
