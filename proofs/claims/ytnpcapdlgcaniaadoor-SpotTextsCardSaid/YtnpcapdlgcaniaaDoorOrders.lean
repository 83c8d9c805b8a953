/- Which of two paths is ahead; which begins with which. -/
import Derived.Test.YtnpcapdlgcaniaaDoorInts
import Derived.Deep.CutBlock
namespace Go.Proofs.YtnpcapdlgcaniaaDoor
open Go.RowKit
set_option linter.unusedVariables false
set_option linter.unusedSimpArgs false

theorem nan_any (n : Int) (w : World) : Calls Tryd.prog 84 #[.int .i64 n] w fun e w' => e = .returned (.bool false) ∧ w = w' := by
  go_enter Tryd.func84, Tryd.ntmps84
  go_wp2_with fail
  go_ret
  exact ⟨by simp, rfl⟩
/-- which of two ints is less -/
def cmp2 (x y : Int) : Int := if x < y then -1 else if y < x then 1 else 0
set_option maxRecDepth 100000 in
theorem cmpI_any (x y : Int) (w : World) : Calls Tryd.prog 72 #[.int .i64 x, .int .i64 y] w fun e w' => e = .returned (.int .i64 (cmp2 x y)) ∧ w = w' := by
  have h1 := hide (nan_any x w)
  have h2 := hide (nan_any y w)
  go_enter Tryd.func72, Tryd.ntmps72
  go_wp2_with fail
  refine h1.out.mono ?_
  rintro e w' ⟨rfl, rfl⟩
  go_wp2_with fail
  refine h2.out.mono ?_
  rintro e w' ⟨rfl, rfl⟩
  by_cases c1 : x < y
  · have E : Hid (cmp2 x y = -1) := hide (by unfold cmp2; rw [if_pos c1])
    have d1 : decide (x < y) = true := by simpa using c1
    clear c1
    go_wp2_with fail
    go_ret
    exact ⟨by rw [E.out]; rfl, rfl⟩
  · have d1 : decide (x < y) = false := by simpa using c1
    by_cases c2 : y < x
    · have E : Hid (cmp2 x y = 1) := hide (by unfold cmp2; rw [if_neg c1, if_pos c2])
      have d2 : decide (y < x) = true := by simpa using c2
      clear c1 c2
      go_wp2_with fail
      go_ret
      exact ⟨by rw [E.out]; rfl, rfl⟩
    · have E : Hid (cmp2 x y = 0) := hide (by unfold cmp2; rw [if_neg c1, if_neg c2])
      have d2 : decide (y < x) = false := by simpa using c2
      clear c1 c2
      go_wp2_with fail
      go_ret
      exact ⟨by rw [E.out]; rfl, rfl⟩
theorem cmpL_step {l m : List Int} {i : Nat} (h1 : i < l.length) (h2 : i < m.length) : cmpL (l.drop i) (m.drop i) = if cmp2 l[i] m[i] = 0 then cmpL (l.drop (i + 1)) (m.drop (i + 1)) else cmp2 l[i] m[i] := by
  rw [cmpL_drop h1 h2]
  unfold cmp2
  by_cases c1 : l[i] < m[i]
  · rw [if_pos c1, if_pos c1, if_neg (by decide)]
  · by_cases c2 : m[i] < l[i]
    · rw [if_neg c1, if_pos c2, if_neg c1, if_pos c2, if_neg (by decide)]
    · rw [if_neg c1, if_neg c2, if_neg c1, if_neg c2, if_pos rfl]

set_option maxRecDepth 100000 in
set_option maxHeartbeats 8000000 in
theorem slcmp_any (l m : List Int) (hl : l.length ≤ 1000000) (hm : m.length ≤ 1000000) (u v : Value) (X : Nat → Prop) (w : World) (hu : Il w X u l) (hv : Il w X v m) :
    Calls Tryd.prog 48 #[u, v] w fun e w' => e = .returned (.int .i64 (cmpL l m)) ∧ w = w' := by
  obtain ⟨R, hR⟩ : ∃ R, cmpL l m = R := ⟨_, rfl⟩
  rw [hR]
  have HR := hide hR
  clear hR
  obtain ⟨ua, uc, rfl, _⟩ := id hu
  obtain ⟨va, vc, rfl, _⟩ := id hv
  have HU := hide hu
  have HV := hide hv
  have HL := hide (And.intro hl hm)
  clear hu hv hl hm
  go_enter Tryd.func48, Tryd.ntmps48
  go_wp2_with fail
  go_loopw [11] (fun iv wr => ∃ (i : Nat), i ≤ l.length ∧ i ≤ m.length ∧ iv = .int .i64 i ∧ Hid (cmpL (l.drop i) (m.drop i) = R) ∧ w = wr) (fun iv _ => l.length - (intOf iv).toNat)
  case atStart => exact ⟨0, Nat.zero_le _, Nat.zero_le _, rfl, HR, rfl⟩
  case round =>
    clear HR
    obtain ⟨i, hi, him, rfl, HR, rfl⟩ := hrel
    have i1 : (0 : Int) ≤ (i : Int) := by omega
    by_cases hlt : i < l.length
    · have i2 : (i : Int) < (l.length : Int) := by omega
      have i3 : l.length ≤ 1000000 := HL.out.1
      obtain ⟨la, lc, hlv, hl⟩ := HU.out
      rcases hl with h0 | ⟨g, off, rfl, hg, hl⟩
      · rw [h0] at hlt; exact absurd hlt (Nat.not_lt_zero _)
      injection hlv with e1 e2 e3
      subst e1 e3
      have d1 := hl i hlt
      by_cases hmt : i < m.length
      · have k1 : decide ((m.length : Int) ≤ (i : Int)) = false := by simp; omega
        have k2 : decide (m.length ≤ i) = false := by simp; omega
        have k3 : (i : Int) < (m.length : Int) := by omega
        obtain ⟨ma, mc, hmv, hm⟩ := HV.out
        rcases hm with h0 | ⟨g', off', rfl, hg', hm⟩
        · rw [h0] at hmt; exact absurd hmt (Nat.not_lt_zero _)
        injection hmv with e1 e2 e3
        subst e1 e3
        have d2 := hm i hmt
        have HR2 : Hid ((if cmp2 l[i] m[i] = 0 then cmpL (l.drop (i + 1)) (m.drop (i + 1)) else cmp2 l[i] m[i]) = R) := hide (by rw [← cmpL_step hlt hmt]; exact HR.out)
        clear hl hm HR
        have CI := hide (fun w => cmpI_any l[i] m[i] w)
        obtain ⟨c, hc⟩ : ∃ c, cmp2 l[i] m[i] = c := ⟨_, rfl⟩
        rw [hc] at HR2 CI
        clear hc
        generalize l[i] = x at *
        generalize m[i] = y at *
        go_wp2_with fail
        refine (CI.out _).mono ?_
        rintro e w' ⟨rfl, rfl⟩
        by_cases c0 : c = 0
        · have q : (c != 0) = false := by simp [c0]
          have HR3 : Hid (cmpL (l.drop (i + 1)) (m.drop (i + 1)) = R) := hide (by have h := HR2.out; rw [if_pos c0] at h; exact h)
          clear c0 HR2
          go_wp2_with fail
          go_roundw
          case rel => exact ⟨i + 1, by omega, by omega, by go_num, HR3, by first | rfl | trivial⟩
          case measure => simp [intOf]; omega
        · have q : (c != 0) = true := by simp [c0]
          have HR3 : Hid (c = R) := hide (by have h := HR2.out; rw [if_neg c0] at h; exact h)
          clear c0 HR2
          go_wp2_with fail
          go_ret
          exact ⟨by rw [← HR3.out]; rfl, rfl⟩
      · have k1 : decide ((m.length : Int) ≤ (i : Int)) = true := by simp; omega
        have k2 : decide (m.length ≤ i) = true := by simp; omega
        have HR3 : Hid ((1 : Int) = R) := hide (by
          have h := HR.out
          have e0 : m.drop i = [] := List.drop_eq_nil_of_le (by omega)
          rw [List.drop_eq_getElem_cons hlt, e0] at h
          exact h)
        clear hl HR
        generalize l[i] = x at *
        go_wp2_with fail
        go_ret
        exact ⟨by rw [← HR3.out]; rfl, rfl⟩
    · have hif : i = l.length := by omega
      have i2 : decide (i < l.length) = false := by simp [hlt]
      by_cases hmt : l.length < m.length
      · have k1 : decide ((l.length : Int) < (m.length : Int)) = true := by simp; omega
        have k2 : decide (l.length < m.length) = true := by simp; omega
        have HR3 : Hid ((-1 : Int) = R) := hide (by
          have h := HR.out
          rw [hif, List.drop_length, List.drop_eq_getElem_cons hmt] at h
          exact h)
        clear HR
        subst hif
        go_wp2_with fail
        go_ret
        exact ⟨by rw [← HR3.out]; rfl, rfl⟩
      · have k1 : decide ((l.length : Int) < (m.length : Int)) = false := by simp; omega
        have k2 : decide (l.length < m.length) = false := by simp; omega
        have HR3 : Hid ((0 : Int) = R) := hide (by
          have h := HR.out
          have e0 : m.drop l.length = [] := List.drop_eq_nil_of_le (by omega)
          rw [hif, List.drop_length, e0] at h
          exact h)
        clear HR
        subst hif
        go_wp2_with fail
        go_ret
        exact ⟨by rw [← HR3.out]; rfl, rfl⟩

theorem spcmp_any (l m : List Int) (hl : l.length ≤ 1000000) (hm : m.length ≤ 1000000) (u v : Value) (X : Nat → Prop) (w : World) (hu : Il w X u l) (hv : Il w X v m) :
    Calls Tryd.prog 22 #[u, v] w fun e w' => e = .returned (.int .i64 (cmpL l m)) ∧ w = w' := by
  have SC := hide (slcmp_any l m hl hm u v X w hu hv)
  obtain ⟨ua, uc, rfl, _⟩ := id hu
  obtain ⟨va, vc, rfl, _⟩ := id hv
  clear hu hv
  go_enter Tryd.func22, Tryd.ntmps22
  go_wp2_with fail
  refine SC.out.mono ?_
  rintro e w' ⟨rfl, rfl⟩
  go_wp2_with fail
  go_ret
  exact ⟨rfl, rfl⟩

theorem intsEq_len : ∀ {l m : List Int}, intsEq l m = true → l.length = m.length := fun h => by rw [intsEq_iff.1 h]
set_option maxRecDepth 100000 in
set_option maxHeartbeats 8000000 in
theorem sleq_any (l m : List Int) (hl : l.length ≤ 1000000) (u v : Value) (X : Nat → Prop) (w : World) (hu : Il w X u l) (hv : Il w X v m) :
    Calls Tryd.prog 51 #[u, v] w fun e w' => e = .returned (.bool (intsEq l m)) ∧ Chg (fun _ => False) w w' := by
  obtain ⟨RR, hRR⟩ : ∃ RR, intsEq l m = RR := ⟨_, rfl⟩
  rw [hRR]
  have HR := hide hRR
  obtain ⟨ua, uc, rfl, _⟩ := id hu
  obtain ⟨va, vc, rfl, _⟩ := id hv
  have HU := hide hu
  have HV := hide hv
  have HL := hide hl
  clear hu hv hl hRR
  go_enter Tryd.func51, Tryd.ntmps51
  by_cases e4 : l.length = m.length
  · have e4' : ((l.length : Int) != (m.length : Int)) = false := by rw [e4]; simp
    have E4 : Hid (l.length = m.length) := hide e4
    clear e4
    go_upto_block 0 with fail
    clear e4'
    go_wp2_with fail
    go_loopw [13] (fun iv wr => ∃ (i : Nat), i ≤ l.length ∧ iv = .int .i64 i ∧ Hid (l.take i = m.take i) ∧ Hid (Chg (fun _ => False) w wr)) (fun iv _ => l.length - (intOf iv).toNat)
    case atStart => exact ⟨0, Nat.zero_le _, rfl, hide rfl, hide (Chg.refl _ _)⟩
    case round =>
      obtain ⟨i, hi, rfl, hM, hC⟩ := hrel
      by_cases hlt : i < l.length
      · have hlt' : i < m.length := by have := E4.out; omega
        obtain ⟨la, lc, hlv, hl0⟩ := HU.out
        rcases hl0 with h0 | ⟨b, off, rfl, hg, hl0⟩
        · rw [h0] at hlt; exact absurd hlt (Nat.not_lt_zero _)
        injection hlv with e1 e2 e3
        subst e1 e3
        obtain ⟨la', lc', hlv', hl0'⟩ := HV.out
        rcases hl0' with h0 | ⟨b', off', rfl, hg', hl0'⟩
        · rw [h0] at hlt'; exact absurd hlt' (Nat.not_lt_zero _)
        injection hlv' with e1 e2 e3
        subst e1 e3
        have d0 := hC.out.cell (fun h => h) (hl0 i hlt)
        have d0' := hC.out.cell (fun h => h) (hl0' i hlt')
        have i1 : (0 : Int) ≤ (i : Int) := by omega
        have i2 : (i : Int) < (l.length : Int) := by omega
        have i3 : (i : Int) < (m.length : Int) := by omega
        have i4 : l.length ≤ 1000000 := HL.out
        obtain ⟨L, hL⟩ : ∃ L, (l[i] == m[i]) = L := ⟨_, rfl⟩
        have HG := hide (fun (h : L = false) => (show false = RR by
          cases hR : RR with
          | false => rfl
          | true =>
            have h1 := intsEq_iff.1 (HR.out.trans hR)
            rw [h] at hL
            have h2 : ¬ l[i] = m[i] := by simpa using hL
            exact absurd (by simp only [h1]) h2))
        have HT := hide (fun (h : L = true) => show l.take (i + 1) = m.take (i + 1) from by
          rw [h] at hL
          have h2 : l[i] = m[i] := by simpa using hL
          rw [List.take_succ_eq_append_getElem hlt, List.take_succ_eq_append_getElem hlt', hM.out, h2])
        clear hl0 hl0' hM
        have eL : (l[i] == m[i]) = L := hL
        have eL' : (l[i] != m[i]) = !L := by rw [← hL]; rfl
        clear hL
        generalize l[i] = k0 at *
        generalize m[i] = m0 at *
        go_wp2_with fail
        refine wp_region_held_drew (S := (fun w' => w'.cell? ⟨b, off + i, none⟩ = some (.int .i64 k0) ∧ w'.cell? ⟨b', off' + i, none⟩ = some (.int .i64 m0))) (by kernel_rfl) (by go_keep) (fun hHeld => ?_)
        first
          | (refine wpAnyH_take (i := 0) (v := undef) rfl (by kernel_rfl) (by kernel_rfl) (by kernel_rfl) (fun _ _ _ h => h) (Or.inr ⟨by rfl, rfl⟩) (by assumption) ?_)
          | (refine wpAnyH_take (i := 0) (v := ?_) rfl (by kernel_rfl) (by kernel_rfl) (by kernel_rfl) (fun _ _ _ h => h) (Or.inl ⟨by rfl, ?_⟩) (by assumption) ?_
             rotate_left
             (intro w hSw
              (try dsimp only at hSw)
              (go_simp <;> with_reducible rfl)))
        try simp only [Act.put, List.getElem_toArray, List.getElem_cons_zero, List.getElem_cons_succ, List.setIfInBounds_toArray, List.set_cons_zero, List.set_cons_succ]
        first
          | (refine wpAnyH_take (i := 1) (v := undef) rfl (by kernel_rfl) (by kernel_rfl) (by kernel_rfl) (fun _ _ _ h => h) (Or.inr ⟨by rfl, rfl⟩) (by assumption) ?_)
          | (refine wpAnyH_take (i := 1) (v := ?_) rfl (by kernel_rfl) (by kernel_rfl) (by kernel_rfl) (fun _ _ _ h => h) (Or.inl ⟨by rfl, ?_⟩) (by assumption) ?_
             rotate_left
             (intro w hSw
              (try dsimp only at hSw)
              (go_simp <;> with_reducible rfl)))
        try simp only [Act.put, List.getElem_toArray, List.getElem_cons_zero, List.getElem_cons_succ, List.setIfInBounds_toArray, List.set_cons_zero, List.set_cons_succ]
        first
          | (refine wpAnyH_take (i := 2) (v := undef) rfl (by kernel_rfl) (by kernel_rfl) (by kernel_rfl) (fun _ _ _ h => h) (Or.inr ⟨by rfl, rfl⟩) (by assumption) ?_)
          | (refine wpAnyH_take (i := 2) (v := ?_) rfl (by kernel_rfl) (by kernel_rfl) (by kernel_rfl) (fun _ _ _ h => h) (Or.inl ⟨by rfl, ?_⟩) (by assumption) ?_
             rotate_left
             (intro w hSw
              (try dsimp only at hSw)
              (go_simp <;> with_reducible rfl)))
        try simp only [Act.put, List.getElem_toArray, List.getElem_cons_zero, List.getElem_cons_succ, List.setIfInBounds_toArray, List.set_cons_zero, List.set_cons_succ]
        first
          | (refine wpAnyH_take (i := 3) (v := undef) rfl (by kernel_rfl) (by kernel_rfl) (by kernel_rfl) (fun _ _ _ h => h) (Or.inr ⟨by rfl, rfl⟩) (by assumption) ?_)
          | (refine wpAnyH_take (i := 3) (v := ?_) rfl (by kernel_rfl) (by kernel_rfl) (by kernel_rfl) (fun _ _ _ h => h) (Or.inl ⟨by rfl, ?_⟩) (by assumption) ?_
             rotate_left
             (intro w hSw
              (try dsimp only at hSw)
              (go_simp <;> with_reducible rfl)))
        try simp only [Act.put, List.getElem_toArray, List.getElem_cons_zero, List.getElem_cons_succ, List.setIfInBounds_toArray, List.set_cons_zero, List.set_cons_succ]
        first
          | (refine wpAnyH_take (i := 4) (v := undef) rfl (by kernel_rfl) (by kernel_rfl) (by kernel_rfl) (fun _ _ _ h => h) (Or.inr ⟨by rfl, rfl⟩) (by assumption) ?_)
          | (refine wpAnyH_take (i := 4) (v := ?_) rfl (by kernel_rfl) (by kernel_rfl) (by kernel_rfl) (fun _ _ _ h => h) (Or.inl ⟨by rfl, ?_⟩) (by assumption) ?_
             rotate_left
             (intro w hSw
              (try dsimp only at hSw)
              (go_simp <;> with_reducible rfl)))
        try simp only [Act.put, List.getElem_toArray, List.getElem_cons_zero, List.getElem_cons_succ, List.setIfInBounds_toArray, List.set_cons_zero, List.set_cons_succ]
        first
          | (refine wpAnyH_take (i := 5) (v := undef) rfl (by kernel_rfl) (by kernel_rfl) (by kernel_rfl) (fun _ _ _ h => h) (Or.inr ⟨by rfl, rfl⟩) (by assumption) ?_)
          | (refine wpAnyH_take (i := 5) (v := ?_) rfl (by kernel_rfl) (by kernel_rfl) (by kernel_rfl) (fun _ _ _ h => h) (Or.inl ⟨by rfl, ?_⟩) (by assumption) ?_
             rotate_left
             (intro w hSw
              (try dsimp only at hSw)
              (go_simp <;> with_reducible rfl)))
        try simp only [Act.put, List.getElem_toArray, List.getElem_cons_zero, List.getElem_cons_succ, List.setIfInBounds_toArray, List.set_cons_zero, List.set_cons_succ]
        first
          | (refine wpAnyH_take (i := 6) (v := undef) rfl (by kernel_rfl) (by kernel_rfl) (by kernel_rfl) (fun _ _ _ h => h) (Or.inr ⟨by rfl, rfl⟩) (by assumption) ?_)
          | (refine wpAnyH_take (i := 6) (v := ?_) rfl (by kernel_rfl) (by kernel_rfl) (by kernel_rfl) (fun _ _ _ h => h) (Or.inl ⟨by rfl, ?_⟩) (by assumption) ?_
             rotate_left
             (intro w hSw
              (try dsimp only at hSw)
              (go_simp <;> with_reducible rfl)))
        try simp only [Act.put, List.getElem_toArray, List.getElem_cons_zero, List.getElem_cons_succ, List.setIfInBounds_toArray, List.set_cons_zero, List.set_cons_succ]
        first
          | (refine wpAnyH_take (i := 7) (v := undef) rfl (by kernel_rfl) (by kernel_rfl) (by kernel_rfl) (fun _ _ _ h => h) (Or.inr ⟨by rfl, rfl⟩) (by assumption) ?_)
          | (refine wpAnyH_take (i := 7) (v := ?_) rfl (by kernel_rfl) (by kernel_rfl) (by kernel_rfl) (fun _ _ _ h => h) (Or.inl ⟨by rfl, ?_⟩) (by assumption) ?_
             rotate_left
             (intro w hSw
              (try dsimp only at hSw)
              (go_simp <;> with_reducible rfl)))
        try simp only [Act.put, List.getElem_toArray, List.getElem_cons_zero, List.getElem_cons_succ, List.setIfInBounds_toArray, List.set_cons_zero, List.set_cons_succ]
        first
          | (refine wpAnyH_take (i := 8) (v := undef) rfl (by kernel_rfl) (by kernel_rfl) (by kernel_rfl) (fun _ _ _ h => h) (Or.inr ⟨by rfl, rfl⟩) (by assumption) ?_)
          | (refine wpAnyH_take (i := 8) (v := ?_) rfl (by kernel_rfl) (by kernel_rfl) (by kernel_rfl) (fun _ _ _ h => h) (Or.inl ⟨by rfl, ?_⟩) (by assumption) ?_
             rotate_left
             (intro w hSw
              (try dsimp only at hSw)
              (go_simp <;> with_reducible rfl)))
        try simp only [Act.put, List.getElem_toArray, List.getElem_cons_zero, List.getElem_cons_succ, List.setIfInBounds_toArray, List.set_cons_zero, List.set_cons_succ]
        refine wpAnyH_done (by kernel_rfl) ?_ _
        cases L
        · have HG2 := hide (HG.out rfl)
          clear HT HG
          go_wp2_with fail
          go_ret
          exact ⟨by have h := HG2.out; subst h; rfl, hC.out.drew⟩
        · have F9 : Hid (l.take (i + 1) = m.take (i + 1)) := hide (HT.out rfl)
          have F8 := hide hC.out.drew
          clear HG HT
          go_wp2_with fail
          go_roundw
          case rel => exact ⟨i + 1, by omega, by go_num, F9, F8⟩
          case measure => simp [intOf]; omega
      · have hif : i = l.length := by omega
        have HX : Hid (true = RR) := hide (by
          rw [← HR.out]
          have h := hM.out
          rw [hif, List.take_length, List.take_of_length_le (by have := E4.out; omega)] at h
          exact (intsEq_iff.2 h).symm)
        have i2 : decide (i < l.length) = false := by simp [hlt]
        clear hM HU HV HR
        subst hif
        go_wp2_with fail
        go_ret
        exact ⟨by have h := HX.out; subst h; rfl, hC.out⟩
  · have e4' : ((l.length : Int) != (m.length : Int)) = true := by simp; omega
    have HX := hide (show false = RR by
      cases hR : RR with
      | false => rfl
      | true => exact absurd (intsEq_len (HR.out.trans hR)) e4)
    clear HU HV HR
    go_wp2_with fail
    go_ret
    exact ⟨by have h := HX.out; subst h; rfl, Chg.refl _ _⟩

/-- does the one begin with the other? -/
def underB (l m : List Int) : Bool := decide (m.length ≤ l.length) && intsEq (l.take m.length) m
set_option maxRecDepth 100000 in
set_option maxHeartbeats 4000000 in
theorem under_any (l m : List Int) (hl : l.length ≤ 1000000) (hm : m.length ≤ 1000000) (a : Option Addr) (c : Nat) (hc : l.length ≤ c) (ha : a = none → l.length = 0 ∧ c = 0) (v : Value) (X : Nat → Prop) (w : World) (hu : Il w X (.slice a l.length c) l) (hv : Il w X v m) :
    Calls Tryd.prog 24 #[.slice a l.length c, v] w fun e w' => e = .returned (.bool (underB l m)) ∧ Chg (fun _ => False) w w' := by
  obtain ⟨R, hR⟩ : ∃ R, underB l m = R := ⟨_, rfl⟩
  rw [hR]
  obtain ⟨va, vc, rfl, _⟩ := id hv
  by_cases hle : m.length ≤ l.length
  · have HR : Hid (intsEq (l.take m.length) m = R) := hide (by rw [← hR]; unfold underB; simp [hle])
    have d1 : decide ((m.length : Int) ≤ (l.length : Int)) = true := by simp; omega
    have d2 : decide (m.length ≤ l.length) = true := by simp; omega
    have k1 : (0 : Int) ≤ (m.length : Int) := by omega
    have k2 : (m.length : Int) ≤ (c : Int) := by omega
    have EQ := hide (sleq_any (l.take m.length) m (by rw [List.length_take]; omega) _ _ X w (hu.take m.length c hle) hv)
    have EQ0 := hide (fun (h0 : a = none) => sleq_any (l.take m.length) m (by rw [List.length_take]; omega) (.slice none 0 0) _ X w (by
      have h1 := ha h0
      have h2 : l.take m.length = [] := by rw [List.take_eq_nil_iff]; exact Or.inr (List.eq_nil_of_length_eq_zero h1.1)
      rw [h2]; exact Il.nil _ _) hv)
    rw [HR.out] at EQ EQ0
    cases a with
    | none =>
      obtain ⟨h1, rfl⟩ := ha rfl
      have hm0 : m.length = 0 := by omega
      have EQ1 := hide (EQ0.out rfl)
      clear hu hv hR EQ EQ0 ha
      rw [h1, hm0] at *
      go_enter Tryd.func24, Tryd.ntmps24
      go_wp2_with fail
      refine EQ1.out.mono ?_
      rintro e w' ⟨rfl, g⟩
      have G := hide g
      clear g
      go_wp2_with fail
      go_ret
      exact ⟨rfl, G.out⟩
    | some ad =>
      clear hu hv hR EQ0 ha
      go_enter Tryd.func24, Tryd.ntmps24
      go_wp2_with fail
      refine EQ.out.mono ?_
      rintro e w' ⟨rfl, g⟩
      have G := hide g
      clear g
      go_wp2_with fail
      go_ret
      exact ⟨rfl, G.out⟩
  · have HR : Hid (false = R) := hide (by rw [← hR]; unfold underB; simp [hle])
    have d1 : decide ((m.length : Int) ≤ (l.length : Int)) = false := by simp; omega
    have d2 : decide (m.length ≤ l.length) = false := by simp; omega
    clear hu hv hR ha
    go_enter Tryd.func24, Tryd.ntmps24
    go_wp2_with fail
    go_ret
    exact ⟨by rw [← HR.out]; rfl, Chg.refl _ _⟩
end Go.Proofs.YtnpcapdlgcaniaaDoor
