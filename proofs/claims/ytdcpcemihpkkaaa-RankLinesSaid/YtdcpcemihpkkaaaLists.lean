/- slices.Index, Like, Pairs. -/
import Derived.Test.YtdcpcemihpkkaaaUnder
namespace Go.Proofs.Ytdcpcemihpkkaaa
open Go.RowKit Go.Maps
set_option linter.unusedVariables false
set_option linter.unusedSimpArgs false

/-- where a number stands first -/
def idxF : List Int → Int → Option Nat
  | [], _ => none
  | y :: r, x => if y = x then some 0 else (idxF r x).map (· + 1)

theorem idxF_drop (l : List Int) (x : Int) (k : Nat) (h : k < l.length) : idxF (l.drop k) x = if l[k] = x then some 0 else (idxF (l.drop (k + 1)) x).map (· + 1) := by
  rw [List.drop_eq_getElem_cons h]
  rfl

def idxI (o : Option Nat) : Int := match o with | none => -1 | some k => (k : Int)

theorem index_any (v : Value) (l : List Int) (hl : l.length ≤ 1000000) (x : Int) (B : Nat) (w : World) (hv : Ints w B v l) :
    Calls Try.prog 29 #[v, .int .i64 x] w fun e w' => e = .returned (.int .i64 (idxI (idxF l x))) ∧ w = w' := by
  obtain ⟨a, cap, rfl, hrow⟩ := hv
  have HV := hide hrow
  obtain ⟨R, hR⟩ : ∃ R, idxF l x = R := ⟨_, rfl⟩
  rw [hR]
  have HR := hide hR
  clear hrow hR
  go_enter Try.func29, Try.ntmps29
  go_wp2_with fail
  go_loop [8] (fun iv => ∃ k : Nat, k ≤ l.length ∧ iv = .int .i64 k ∧ Hid (idxF l x = (idxF (l.drop k) x).map (· + k))) (fun iv => l.length - (intOf iv).toNat)
  case atStart => exact ⟨0, Nat.zero_le _, rfl, by unfold Hid; simp⟩
  case round =>
    obtain ⟨k, hk, rfl, hI⟩ := hrel
    by_cases hlt : k < l.length
    · rcases HV.out with h0 | ⟨g, off, rfl, hg, hc⟩
      · rw [h0] at hlt; exact absurd hlt (Nat.not_lt_zero _)
      have d0 := hc k hlt
      have hd := idxF_drop l x k hlt
      generalize l[k] = y at *
      have i0 : (0 : Int) ≤ (k : Int) := by omega
      have i1 : (k : Int) < (l.length : Int) := by omega
      by_cases e : x = y
      · subst e
        have hf : Hid (R = some k) := by unfold Hid; rw [← HR.out, hI.out, hd]; simp
        clear hc hd hI
        have eb : (x == x) = true := by simp
        go_wp2_with fail
        go_ret
        exact ⟨by rw [hf.out]; rfl, rfl⟩
      · have hn : Hid (idxF l x = (idxF (l.drop (k + 1)) x).map (· + (k + 1))) := by
          unfold Hid
          rw [hI.out, hd, if_neg (fun h => e h.symm), Option.map_map]
          congr 1
          funext j
          simp only [Function.comp]
          omega
        clear hc hd hI
        have eb : (x == y) = false := by simp [e]
        go_wp2_with fail
        go_round
        case rel => exact ⟨k + 1, by omega, by go_num, hn⟩
        case measure => simp [intOf]; omega
    · have hkl : k = l.length := by omega
      subst hkl
      have hf : Hid (R = none) := by unfold Hid; rw [← HR.out, hI.out, List.drop_length]; rfl
      clear hI
      go_wp2_with fail
      go_ret
      exact ⟨by rw [hf.out]; rfl, rfl⟩

theorem like_len (v u : Value) (l m : List Int) (hl : l.length ≠ m.length) (B C : Nat) (w : World) (hv : Ints w B v l) (hu : Ints w C u m) :
    Calls Try.prog 17 #[v, u] w fun e w' => e = .returned (.bool false) ∧ Chg (fun _ => False) w w' := by
  obtain ⟨a, cap, rfl, _⟩ := hv
  obtain ⟨a2, cap2, rfl, _⟩ := hu
  have en : (((l.length : Int)) != ((m.length : Int))) = true := by simp; omega
  go_enter Try.func17, Try.ntmps17
  go_wp2_with fail
  go_ret
  exact ⟨rfl, Chg.refl _ _⟩

theorem like_same (v u : Value) (l m : List Int) (hl : l.length = m.length) (hn : l.length ≤ 1000000) (B C : Nat) (w : World) (hv : Ints w B v l) (hu : Ints w C u m) :
    Calls Try.prog 17 #[v, u] w fun e w' => e = .returned (.bool (decide (l = m))) ∧ Chg (fun _ => False) w w' := by
  obtain ⟨a, cap, rfl, h1⟩ := hv
  obtain ⟨a2, cap2, rfl, h2⟩ := hu
  rw [← hl]
  have H1 := hide h1
  have H2 := hide h2
  have HL := hide hl
  have en : (((l.length : Int)) != ((l.length : Int))) = false := by simp
  obtain ⟨R, hR⟩ : ∃ R, decide (l = m) = R := ⟨_, rfl⟩
  rw [hR]
  have HR := hide hR
  clear h1 h2 hR hl
  go_enter Try.func17, Try.ntmps17
  go_wp2_with fail
  go_loopw [5] (fun iv wr => ∃ k : Nat, k ≤ l.length ∧ iv = .int .i64 k ∧ Hid (l.take k = m.take k) ∧ Hid (Chg (fun _ => False) w wr)) (fun iv _ => l.length - (intOf iv).toNat)
  case atStart => exact ⟨0, Nat.zero_le _, rfl, by unfold Hid; simp, Chg.refl _ _⟩
  case round =>
    obtain ⟨k, hk, rfl, hT, hC⟩ := hrel
    by_cases hlt : k < l.length
    · have hlm : k < m.length := by have := HL.out; omega
      rcases H1.out with h0 | ⟨g, off, rfl, hg, hc⟩
      · rw [h0] at hlt; exact absurd hlt (Nat.not_lt_zero _)
      rcases H2.out with h0 | ⟨g2, off2, rfl, hg2, hc2⟩
      · rw [h0] at hlm; exact absurd hlm (Nat.not_lt_zero _)
      have d0 := hC.out.cell (fun h => h) (hc k hlt)
      have d1 := hC.out.cell (fun h => h) (hc2 k hlm)
      have t1 := List.take_succ_eq_append_getElem hlt
      have t2 := List.take_succ_eq_append_getElem hlm
      have i0 : (0 : Int) ≤ (k : Int) := by omega
      have i1 : (k : Int) < (l.length : Int) := by omega
      have gk : l = m → l[k] = m[k] := fun h => by subst h; rfl
      generalize l[k] = y at *
      generalize m[k] = z at *
      clear hc hc2
      by_cases e : y = z
      · subst e
        have hn : Hid (l.take (k + 1) = m.take (k + 1)) := by unfold Hid; rw [t1, t2, hT.out]
        have eb : (y != y) = false := by simp
        clear t1 t2 gk
        go_wp2_with fail
        go_region
        go_wp2_with fail
        go_roundw
        case rel => exact ⟨k + 1, by omega, by go_num, hn, hide hC.out.drew⟩
        case measure => simp [intOf]; omega
      · have hf : R = false := by rw [← HR.out]; simp; exact fun h => e (gk h)
        have eb : (y != z) = true := by simp [e]
        subst hf
        clear t1 t2 gk
        go_wp2_with fail
        go_region
        go_wp2_with fail
        go_ret
        exact ⟨rfl, hC.out.drew⟩
    · have hkl : k = l.length := by omega
      have hf : R = true := by
        rw [← HR.out]
        have h := hT.out
        rw [hkl, List.take_length, HL.out, List.take_length] at h
        simpa using h
      subst hkl
      subst hf
      clear hT
      go_wp2_with fail
      go_ret
      exact ⟨rfl, hC.out⟩

theorem like_any (v u : Value) (l m : List Int) (hn : l.length ≤ 1000000) (B C : Nat) (w : World) (hv : Ints w B v l) (hu : Ints w C u m) :
    Calls Try.prog 17 #[v, u] w fun e w' => e = .returned (.bool (decide (l = m))) ∧ Chg (fun _ => False) w w' := by
  by_cases hl : l.length = m.length
  · exact like_same v u l m hl hn B C w hv hu
  · have : decide (l = m) = false := by simp; intro h; exact hl (by rw [h])
    rw [this]
    exact like_len v u l m hl B C w hv hu

end Go.Proofs.Ytdcpcemihpkkaaa
